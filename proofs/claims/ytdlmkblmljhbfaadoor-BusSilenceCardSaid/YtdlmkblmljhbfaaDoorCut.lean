/-
  Walks: which failures stop a function, the smallest of them.
-/
import Derived.Test.YtdlmkblmljhbfaaDoorChk
import Derived.Test.YtdlmkblmljhbfaaDoorCmp
import Derived.Test.YtdlmkblmljhbfaaDoorSet
namespace Go.Proofs.YtdlmkblmljhbfaaDoor
set_option linter.unusedSimpArgs false
set_option linter.unusedVariables false
open Go.RowKit Go.Shelf
attribute [local go_sem] bl_al bl_drew bl_drewN bl_refl bx_al bx_drew bx_drewN bx_refl
set_option maxRecDepth 20000
theorem c_netErr (n : Nt) (Ap Af Am : Option Addr) (cp cf cm : Nat) (w : World) (hn : NtIn n Ap Af Am cp cf cm w) :
    Calls Tryd.prog 85 #[vNt Ap Af Am n.ps.length n.fs.length n.ms.length cp cf cm] w (Ret (.int .i64 (netErr n)) w) := by
  have hc := Lib.hid fun W (hb : Below w.heap.size w W) => c_CheckNet n Ap Af Am cp cf cm W (hn.below hb)
  have he : Hid ((netChk n).2 = netErr n) := rfl
  clear hn
  change Calls Tryd.prog 85 #[.agg #[.slice Ap n.ps.length cp, .slice Af n.fs.length cf, .slice Am n.ms.length cm]] w _
  dsimp only [vNt, aNt] at hc
  generalize netChk n = P at *
  obtain ⟨p, q⟩ := P
  dsimp only at *
  rw [← he.out]
  clear he
  generalize n.ps.length = np at *
  generalize n.fs.length = nf at *
  generalize n.ms.length = nm at *
  go_enter Tryd.func85, Tryd.ntmps85
  go_upto_region 1 with fail
  first
  | apply absB1 (w0 := w) (g0 := w.heap.size)
  | apply absTB1 (w0 := w) (g0 := w.heap.size)
  | apply absIB1 (w0 := w) (g0 := w.heap.size)
  iterate 2 (focus ((with_reducible (repeat' (first | assumption | apply jA | apply jB | apply jC | apply jD | apply jE | apply jF | apply hb3 | apply jG | apply jH | apply jI | apply jJ | apply jK | apply hb3x | (apply jL; first | (simp; done) | rfl) | apply jM | apply jN | apply jO | apply jP | apply jQ | apply jR | apply jS | apply jT (hb := hb3 _ (jA _)) | omega | (simp; done) | (simp; omega) | (dsimp only; omega)))); done))
  intro wa hb0' k0'
  (try simp only [List.setIfInBounds_toArray, List.set_cons_zero, List.set_cons_succ] at k0')
  try clear hb3
  try clear hb0
  try clear k0
  have hb0 := hb0'; clear hb0'
  have k0 := k0'; clear k0'
  have L0 := k0.cell
  go_wp2_with fail
  refine (hc.out wa hb0).mono ?_
  rintro e w3 ⟨rfl, hb3⟩
  replace hb0 := bl_tr hb0 hb3
  go_wp2
  go_ret
  exact ⟨rfl, hb0⟩
theorem c_works1 (r : Rw) (failed : Nat) (B : Nat) (w : World) (hr : RwIn r w) (hb : ∀ n ∈ r.l, 0 ≤ n ∧ n < 10) (hf : failed < 1024) (kb : Blk w B 132 #[.int .u64 failed]) :
    Calls Tryd.prog 145 #[vRw r, .pointer (some ⟨B, 0, none⟩)] w (Ret (.bool (setN r.l &&& failed == 0)) w) := by
  have hc := Lib.hid fun W (hb' : Below w.heap.size w W) => c_setOf r.l r.A r.c W (hr.sl.below hb') (Nat.le_trans hr.len (by decide)) hb
  have hlt := setN_lt hb
  clear hr hb
  change Calls Tryd.prog 145 #[.slice r.A r.l.length r.c, .pointer (some ⟨B, 0, none⟩)] w _
  generalize setN r.l = s at *
  have hand := u64_and_nat s failed (by omega) (by omega)
  generalize r.l.length = n at *
  go_enter Tryd.func145, Tryd.ntmps145
  go_upto_region 1 with fail
  first
  | apply absB1 (w0 := w) (g0 := B)
  | apply absTB1 (w0 := w) (g0 := B)
  | apply absIB1 (w0 := w) (g0 := B)
  iterate 2 (focus ((with_reducible (repeat' (first | assumption | apply jA | apply jB | apply jC | apply jD | apply jE | apply jF | apply hb3 | apply jG | apply jH | apply jI | apply jJ | apply jK | apply hb3x | (apply jL; first | (simp; done) | rfl) | apply jM | apply jN | apply jO | apply jP | apply jQ | apply jR | apply jS | apply jT (hb := hb3 _ (jA _)) | omega | (simp; done) | (simp; omega) | (dsimp only; omega)))); done))
  intro wa hb0' kb'
  (try simp only [List.setIfInBounds_toArray, List.set_cons_zero, List.set_cons_succ] at kb')
  try clear hb3
  try clear hb0
  try clear kb
  have hb0 := hb0'; clear hb0'
  have kb := kb'; clear kb'
  have Lkb := kb.later
  have Fkb := kb.laterF
  have Qkb := kb.lt
  refine wp_any (w0 := wa) ⟨[], [], [some 4, some 5, some 6, some 7, some 8, some 3], [[], [0], [], [0, 1, 2], [0, 1, 2, 3], [0, 1, 2, 3, 4]], [[], [0], [], [1, 2], [3], [4]]⟩ (fun _ => []) (by kernel_rfl) (by kernel_rfl) (by (with_reducible (repeat' (first | assumption | apply jA | apply jB | apply jC | apply jD | apply jE | apply jF | apply hb3 | omega | (simp; done) | (simp; omega) | (dsimp only; omega))))) (fun u => by simp only [putD, Act.put, List.setIfInBounds_toArray, List.set_cons_zero, List.set_cons_succ, Nat.zero_add, Nat.reduceAdd]; rfl) ?_
  apply RGW.on (i := 0) rfl
  · (simp only [gA, gB, gC] <;> rfl)
  · intro γ u W hcur hd
    clear hd
    (try dsimp only)
    refine ⟨rfl, ?_⟩
    go_simp <;> (try go_bits) <;> with_reducible rfl
  · exact fun _ _ _ => rfl
  · rfl
  dsimp only [nA, cA]
  apply RGW.call (i := 1) rfl
  · (simp only [gA, gB, gC] <;> rfl)
  · intro γ u W hcur hd
    obtain ⟨⟨h0, -, -⟩, -⟩ := hd
    dsimp only at h0
    (try simp only [h0])
    refine ⟨rfl, fun K hK => ?_⟩
    go_simp
    (go_at_call 111; (with_reducible refine (hc.out _ (bl_tr hb0 hcur)).mono ?_); rintro e w3 ⟨rfl, rfl⟩)
    (try dsimp only)
    exact hK.out _ _ rfl (by (with_reducible (repeat' (first | assumption | apply jA | apply jB | apply jC | apply jD | apply jE | apply jF | apply hb3 | omega | (simp; done) | (simp; omega) | (dsimp only; omega)))))
  · exact fun _ _ _ => rfl
  · rfl
  dsimp only [nA, cA]
  apply RGW.on (i := 2) rfl
  · (simp only [gA, gB, gC] <;> rfl)
  · intro γ u W hcur hd
    clear hd
    (try dsimp only)
    refine ⟨rfl, ?_⟩
    go_simp <;> (try go_bits) <;> with_reducible rfl
  · exact fun _ _ _ => rfl
  · rfl
  dsimp only [nA, cA]
  apply RGW.on (i := 3) rfl
  · (simp only [gA, gB, gC] <;> rfl)
  · intro γ u W hcur hd
    obtain ⟨⟨h1, -, -⟩, ⟨h2, -, -⟩, -⟩ := hd
    dsimp only at h1 h2
    (try simp only [h1, h2])
    refine ⟨rfl, ?_⟩
    go_simp <;> (try go_bits) <;> with_reducible rfl
  · exact fun _ _ _ => rfl
  · rfl
  dsimp only [nA, cA]
  apply RGW.on (i := 4) rfl
  · (simp only [gA, gB, gC] <;> rfl)
  · intro γ u W hcur hd
    obtain ⟨⟨h3, -, -⟩, -⟩ := hd
    dsimp only at h3
    (try simp only [h3])
    refine ⟨rfl, ?_⟩
    go_simp <;> (try go_bits) <;> with_reducible rfl
  · exact fun _ _ _ => rfl
  · rfl
  dsimp only [nA, cA]
  apply RGW.on (i := 5) rfl
  · (simp only [gA, gB, gC] <;> rfl)
  · intro γ u W hcur hd
    obtain ⟨⟨h4, -, -⟩, -⟩ := hd
    dsimp only at h4
    (try simp only [h4])
    refine ⟨rfl, ?_⟩
    go_simp <;> (try go_bits) <;> with_reducible rfl
  · exact fun _ _ _ => rfl
  · rfl
  dsimp only [nA, cA]
  refine RGW.fin (fun γ u wb hwb hd hdis => ?_)
  obtain ⟨⟨h0, -, -⟩, ⟨h1, -, -⟩, ⟨h2, -, -⟩, ⟨h3, -, -⟩, ⟨h4, -, -⟩, ⟨h5, -, -⟩, -⟩ := hd
  dsimp only at h0 h1 h2 h3 h4 h5
  clear hdis
  simp only [h0, h1, h2, h3, h4, h5]
  clear h5 h4 h3 h2 h1 h0
  clear u
  simp only [List.map_nil]
  refine PlanW.done ?_
  have hb3 := bl_tt hwb
  go_wp2
  go_ret
  refine ⟨?_, by (with_reducible (repeat' (first | assumption | apply jA | apply jB | apply jC | apply jD | apply jE | apply jF | apply hb3 | omega | (simp; done) | (simp; omega) | (dsimp only; omega))))⟩
  generalize s &&& failed = q
  cases q <;> rfl
/-- The ways of a function name parts below ten. -/
def FuOk (f : Fu) : Prop := ∀ r ∈ f.ws, ∀ n ∈ r.l, 0 ≤ n ∧ n < 10
theorem c_works (f : Fu) (failed : Nat) (w : World) (hf : FuIn f w) (hok : FuOk f) (hlt : failed < 1024) :
    Calls Tryd.prog 127 #[vFu f, .int .u64 failed] w (Ret (.bool (worksB f failed)) w) := by
  have hc := Lib.hid fun (B : Nat) (W : World) (hb : Below w.heap.size w W) (kb : Blk W B 132 #[.int .u64 failed]) =>
    c_ContainsFuncW 145 #[.pointer (some ⟨B, 0, none⟩)] (fun r => setN r.l &&& failed == 0) f.A f.ws f.c W (Nat.le_trans hf.len (by decide)) (enters_of Tryd.func145 (by kernel_rfl) rfl)
      (fun r hr W' hb' => c_works1 r failed B W' (((hf.rows r hr).below hb).below hb') (hok r hr) hlt (kb.below hb')) (hf.sl.below hb)
  have he : Hid ((f.ws.any fun r => setN r.l &&& failed == 0) = worksB f failed) := rfl
  clear hf hok
  change Calls Tryd.prog 127 #[.agg #[.string f.name, .slice f.A f.ws.length f.c], .int .u64 failed] w _
  rw [he.out] at hc
  generalize f.ws.length = n at *
  go_enter Tryd.func127, Tryd.ntmps127
  go_upto_region 1 with fail
  first
  | apply absB2 (w0 := w) (g0 := w.heap.size) (g1 := w.heap.size + 1)
  | apply absTB2 (w0 := w) (g0 := w.heap.size) (g1 := w.heap.size + 1)
  | apply absIB2 (w0 := w) (g0 := w.heap.size) (g1 := w.heap.size + 1)
  iterate 3 (focus ((with_reducible (repeat' (first | assumption | apply jA | apply jB | apply jC | apply jD | apply jE | apply jF | apply hb3 | apply jG | apply jH | apply jI | apply jJ | apply jK | apply hb3x | (apply jL; first | (simp; done) | rfl) | apply jM | apply jN | apply jO | apply jP | apply jQ | apply jR | apply jS | apply jT (hb := hb3 _ (jA _)) | omega | (simp; done) | (simp; omega) | (dsimp only; omega)))); done))
  intro wa hb0' k0' k1'
  (try simp only [List.setIfInBounds_toArray, List.set_cons_zero, List.set_cons_succ] at k0' k1')
  try clear hb3
  try clear hb0
  try clear k0
  try clear k1
  have hb0 := hb0'; clear hb0'
  have k0 := k0'; clear k0'
  have k1 := k1'; clear k1'
  have L0 := k0.cell
  go_wp2_with fail
  refine (hc.out (w.heap.size + 1) wa hb0 k1).mono ?_
  rintro e w3 ⟨rfl, hb3⟩
  replace hb0 := bl_tr hb0 hb3
  go_wp2
  go_ret
  exact ⟨rfl, hb0⟩
theorem cutTo_lt (f : Fu) (b : Nat) : ∀ k, b < 1024 → k ≤ 1024 → cutTo f b k < 1024
  | 0, h, _ => h
  | k + 1, h, hk => by
    rw [cutTo]
    split
    · omega
    · exact cutTo_lt f b k h (by omega)
set_option maxHeartbeats 4000000 in
theorem c_cut (f : Fu) (parts : Nat) (w : World) (hf : FuIn f w) (hok : FuOk f) (hp : parts ≤ 10) (hT : Tab w) :
    Calls Tryd.prog 86 #[vFu f, .int .i64 parts] w (Ret (.int .u64 (cutS f parts : Nat)) w) := by
  have hw := Lib.hid fun (k : Nat) (hk : k < 1024) W (hb : Below w.heap.size w W) => c_works f k W (hf.below hb) hok hk
  have hl := Lib.hid fun (k : Nat) (hk : k < 1024) W (hb : Below w.heap.size w W) => c_list k W hk (hT.below hb)
  have hN : 2 ^ parts ≤ 1024 := Nat.le_trans (Nat.pow_le_pow_right (by decide) hp) (by decide)
  have h1 := Nat.two_pow_pos parts
  have hlt := Lib.hid fun k (hk : k ≤ 1024) => cutTo_lt f (2 ^ parts - 1) k (by omega) hk
  have hend : Hid (cutTo f (2 ^ parts - 1) (2 ^ parts) = cutS f parts) := rfl
  have h0 : Hid (cutTo f (2 ^ parts - 1) 0 = 2 ^ parts - 1) := rfl
  have hst := Lib.hid fun k => (show cutTo f (2 ^ parts - 1) (k + 1) = if smallB k (cutTo f (2 ^ parts - 1) k) && !worksB f k then k else cutTo f (2 ^ parts - 1) k from rfl)
  have hsh : IntKind.u64.wrap (2 ^ parts) = ((2 ^ parts : Nat) : Int) := by
    have : ((2 : Int) ^ parts) = ((2 ^ parts : Nat) : Int) := by simp
    rw [this, IntWalk.u64_in _ (by omega)]
  generalize worksB f = wk at *
  clear hf hok hT
  obtain ⟨g, hg⟩ : ∃ g : Nat → Nat, ∀ k, cutTo f (2 ^ parts - 1) k = g k := ⟨_, fun _ => rfl⟩
  simp only [hg] at hlt hst h0 hend
  clear hg
  change Calls Tryd.prog 86 #[.agg #[.string f.name, .slice f.A f.ws.length f.c], .int .i64 parts] w _
  dsimp only [vFu] at hw
  generalize f.ws.length = n at *
  generalize cutS f parts = cs at *
  go_enter Tryd.func86, Tryd.ntmps86
  go_upto_region 1 with fail
  first
  | apply absB1 (w0 := w) (g0 := w.heap.size)
  | apply absTB1 (w0 := w) (g0 := w.heap.size)
  | apply absIB1 (w0 := w) (g0 := w.heap.size)
  iterate 2 (focus ((with_reducible (repeat' (first | assumption | apply jA | apply jB | apply jC | apply jD | apply jE | apply jF | apply hb3 | apply jG | apply jH | apply jI | apply jJ | apply jK | apply hb3x | (apply jL; first | (simp; done) | rfl) | apply jM | apply jN | apply jO | apply jP | apply jQ | apply jR | apply jS | apply jT (hb := hb3 _ (jA _)) | omega | (simp; done) | (simp; omega) | (dsimp only; omega)))); done))
  intro wa hb0' k0'
  (try simp only [List.setIfInBounds_toArray, List.set_cons_zero, List.set_cons_succ] at k0')
  try clear hb3
  try clear hb0
  try clear k0
  have hb0 := hb0'; clear hb0'
  have k0 := k0'; clear k0'
  go_wp2
  have e1 : ((2 : Int) ^ parts) = ((2 ^ parts : Nat) : Int) := by simp
  simp only [e1]
  clear e1 hsh
  generalize 2 ^ parts = N at *
  have e2 : IntKind.u64.wrap ((N : Int) - 1) = ((N - 1 : Nat) : Int) := by rw [IntWalk.u64_in _ (by omega)]; omega
  simp only [e2]
  go_loopw [5, 13] (fun o i wr => ∃ k : Nat, k ≤ N ∧ i = .int .u64 k ∧ o = .int .u64 (g k : Nat) ∧ Below w.heap.size w wr ∧ Blk wr w.heap.size 129 #[.string f.name, .slice f.A n f.c]) (fun _ i _ => N - (intOf i).toNat)
  case atStart => exact ⟨0, Nat.zero_le _, rfl, by rw [h0.out], hb0, k0⟩
  case round =>
    clear e2 h0
    clear hb0 k0
    obtain ⟨k, hk, rfl, rfl, hb0, k0⟩ := hrel
    have hbk := hlt.out k (by omega)
    by_cases hkN : k < N
    rotate_left
    · go_wp2
      go_ret
      have : k = N := by omega
      exact ⟨by rw [this, hend.out] <;> rfl, hb0⟩
    have hs := hst.out k
    generalize g k = b at *
    have hk2 : k < 1024 := by omega
    have hS1 : sizeS k < sizeS b → smallB k b = true := fun c1 => by simp [smallB, c1]
    have hS2 : ¬ sizeS k < sizeS b → ¬ sizeS k = sizeS b → smallB k b = false := fun c1 c2 => by simp [smallB, c1, c2]
    have hS3 : ¬ sizeS k < sizeS b → sizeS k = sizeS b → smallB k b = decide (cmpL (listS k) (listS b) < 0) := fun c1 c2 => by simp [smallB, c2, cmpL_lt]
    have hll := Lib.hid fun s => listS_len s
    cases hwk : wk k
    all_goals
      have hwc := Lib.hid fun W hb => hw.out k hk2 W hb
      rw [hwk] at hs hwc
      clear hwk
      by_cases c1 : sizeS k < sizeS b
      · rw [hS1 c1] at hs
        simp only [Bool.and_true, Bool.and_false, Bool.not_true, Bool.not_false, Bool.true_and, Bool.false_and, if_true, if_false, Bool.false_eq_true] at hs
        clear hS1 hS2 hS3
        have hb9 := hb0
        have L0 := k0.cell
        go_wp2_with (first | (go_at_call 90; (with_reducible refine (c_size _ _ (by omega)).mono ?_); rintro e w3 ⟨rfl, rfl⟩) | (go_at_call 127; (with_reducible refine (hwc.out _ hb0).mono ?_); rintro e w3 ⟨rfl, hb3⟩))
        all_goals
          try (exfalso; omega)
          try replace hb0 := bl_tr hb0 hb3
          try replace k0 := k0.below hb3
          go_roundw
          case rel => exact ⟨k + 1, by omega, by go_num, by rw [hs] <;> rfl, hb0, k0⟩
          case measure => simp [intOf]; omega
      · by_cases c2 : sizeS k = sizeS b
        · rw [hS3 c1 c2] at hs
          clear hS1 hS2 hS3
          go_wp2_with ((go_at_call 90; (with_reducible refine (c_size _ _ (by omega)).mono ?_); rintro e w3 ⟨rfl, rfl⟩))
          refine (hl.out k hk2 wr hb0).mono ?_
          rintro e w4 ⟨A1, n1, rfl, hb4, ho1⟩
          replace hb0 := bl_tr hb0 hb4
          replace k0 := k0.below hb4
          go_wp2_with fail
          refine (hl.out b hbk w4 hb0).mono ?_
          rintro e w5 ⟨A2, n2, rfl, hb5, ho2⟩
          replace hb0 := bl_tr hb0 hb5
          replace k0 := k0.below hb5
          go_wp2_with fail
          refine (c_Compare (listS k) (listS b) A1 A2 n1 n2 w5 ((own_sl ho1).below hb5) (own_sl ho2) (Nat.le_trans (hll.out k) (by decide)) (Nat.le_trans (hll.out b) (by decide))).mono ?_
          rintro e w6 ⟨rfl, hb6⟩
          replace hb0 := bl_tr hb0 hb6
          replace k0 := k0.below hb6
          clear hb4 hb5 hb6 ho1 ho2 hl hll
          generalize cmpL (listS k) (listS b) = cm at *
          generalize (listS k).length = lk at *
          generalize (listS b).length = lb at *
          by_cases c3 : cm < 0
          all_goals
            simp only [c3, decide_true, decide_false, Bool.and_true, Bool.and_false, Bool.not_true, Bool.not_false, Bool.true_and, Bool.false_and, if_true, if_false, Bool.false_eq_true] at hs
            have L0 := k0.cell
            go_wp2_with ((go_at_call 127; (with_reducible refine (hwc.out _ hb0).mono ?_); rintro e w3 ⟨rfl, hb3⟩))
            all_goals
              try (exfalso; omega)
              try replace hb0 := bl_tr hb0 hb3
              try replace k0 := k0.below hb3
              go_roundw
              case rel => exact ⟨k + 1, by omega, by go_num, by rw [hs] <;> rfl, hb0, k0⟩
              case measure => simp [intOf]; omega
        · rw [hS2 c1 c2] at hs
          simp only [Bool.and_true, Bool.and_false, Bool.not_true, Bool.not_false, Bool.true_and, Bool.false_and, if_true, if_false, Bool.false_eq_true] at hs
          clear hS1 hS2 hS3
          have L0 := k0.cell
          go_wp2_with (first | (go_at_call 90; (with_reducible refine (c_size _ _ (by omega)).mono ?_); rintro e w3 ⟨rfl, rfl⟩) | (go_at_call 127; (with_reducible refine (hwc.out _ hb0).mono ?_); rintro e w3 ⟨rfl, hb3⟩))
          all_goals
            try (exfalso; omega)
            try replace hb0 := bl_tr hb0 hb3
            try replace k0 := k0.below hb3
            go_roundw
            case rel => exact ⟨k + 1, by omega, by go_num, by rw [hs] <;> rfl, hb0, k0⟩
            case measure => simp [intOf]; omega
theorem idxErr_ok {l : List Int} {count : Int} (h : idxErr l count = 0) : ∀ x ∈ l, 0 ≤ x ∧ x < count := fun x hx => by
  obtain ⟨k, hk⟩ := List.mem_iff_getElem?.1 hx
  have := eachS_ok _ l 0 h k x hk
  have h1 := ((fst_cons _ _).1 this).1
  have h2 := (unl_zero (by decide)).1 h1
  simp [inR] at h2
  omega
theorem waysE_ok {parts : Int} : ∀ (ws : List Rw) (e : Int), waysE parts e ws = 0 → e = 0 ∧ ∀ r ∈ ws, idxErr r.l parts = 0
  | [], e, h => ⟨h, by simp⟩
  | r :: ws, e, h => by
    obtain ⟨h1, h2⟩ := waysE_ok ws _ h
    obtain ⟨h3, h4⟩ := (fst_cons _ _).1 h1
    obtain ⟨h5, h6⟩ := (fst_cons _ _).1 h4
    obtain ⟨h7, -⟩ := (fst_cons _ _).1 h6
    refine ⟨h3, fun r' hr => ?_⟩
    rcases List.mem_cons.1 hr with rfl | hr
    · exact h7
    · exact h2 r' hr
theorem netErr_ok {n : Nt} (h : netErr n = 0) : n.ps.length ≤ 10 ∧ n.fs.length ≤ 10 ∧ ∀ f ∈ n.fs, ∀ r ∈ f.ws, ∀ x ∈ r.l, 0 ≤ x ∧ x < n.ps.length := by
  unfold netErr netChk at h
  split at h
  · rename_i h0
    split at h
    · split at h
      · rename_i h2
        obtain ⟨a1, a2⟩ := (fst_cons _ _).1 h0
        obtain ⟨a3, -⟩ := (fst_cons _ _).1 a2
        have a4 := (unl_zero (by decide)).1 a3
        simp at a4
        refine ⟨by omega, by omega, fun f hf r hr x hx => ?_⟩
        obtain ⟨k, hk⟩ := List.mem_iff_getElem?.1 hf
        have b1 := eachS_ok _ n.fs 0 h2 k f hk
        exact idxErr_ok ((waysE_ok f.ws _ b1).2 r hr) x hx
      · rename_i h2
        exact absurd h h2
    · rename_i h1
      exact absurd h h1
  · rename_i h0
    exact absurd h h0
end Go.Proofs.YtdlmkblmljhbfaaDoor
