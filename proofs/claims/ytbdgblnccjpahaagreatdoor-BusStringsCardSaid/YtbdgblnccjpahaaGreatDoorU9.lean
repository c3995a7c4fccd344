/-
  Walks: which failures stop a function, the smallest of them.
  What a sender computes: messages that wait, by streams; which stream's frame is carried at each tick; the worst responses.
  The queues of a sender: messages at some place in a block of the call's own; one more of them.
  Walks: a sender's tick: what is sent.
  Walk: streams read from a string.
  Plain laws of senders: what one tick does, how much is sent in a window.
  Plain law: a stream that is not late is never late, whatever the starts are; if all start together, some message of it has the stream's response.
-/
import Derived.Test.YtbdgblnccjpahaaGreatDoorU8
import Derived.Test.YtbdgblnccjpahaaGreatDoorU5
import Derived.Test.YtbdgblnccjpahaaGreatDoorU3
import Derived.Deep.AppendLies
import Derived.ArgAppend
import Derived.Test.YtbdgblnccjpahaaGreatDoorU6
import Derived.Test.YtbdgblnccjpahaaGreatDoorU4
import Derived.Test.YtbdgblnccjpahaaGreatDoorU7
set_option linter.unusedSimpArgs false
set_option linter.unusedVariables false
namespace Go.Proofs.YtbdgblnccjpahaaGreatDoor
open Go.RowKit Go.Shelf
attribute [local go_sem] bl_al bl_drew bl_drewN bl_refl bx_al bx_drew bx_drewN bx_refl
set_option maxRecDepth 20000
theorem c_netErr (n : Nt) (Ap Af Am : Option Addr) (cp cf cm : Nat) (w : World) (hn : NtIn n Ap Af Am cp cf cm w) :
    Calls Tryz.prog 84 #[vNt Ap Af Am n.ps.length n.fs.length n.ms.length cp cf cm] w (Ret (.int .i64 (netErr n)) w) := by
  have hc := Lib.hid fun W (hb : Below w.heap.size w W) => c_CheckNet n Ap Af Am cp cf cm W (hn.below hb)
  have he : Hid ((netChk n).2 = netErr n) := rfl
  clear hn
  change Calls Tryz.prog 84 #[.agg #[.slice Ap n.ps.length cp, .slice Af n.fs.length cf, .slice Am n.ms.length cm]] w _
  dsimp only [vNt, aNt] at hc
  generalize netChk n = P at *
  obtain ⟨p, q⟩ := P
  dsimp only at *
  rw [← he.out]
  clear he
  generalize n.ps.length = np at *
  generalize n.fs.length = nf at *
  generalize n.ms.length = nm at *
  go_enter Tryz.func84, Tryz.ntmps84
  go_upto_region 1 with fail
  first
  | apply absB1 (w0 := w) (g0 := w.heap.size)
  | apply absTB1 (w0 := w) (g0 := w.heap.size)
  | apply absIB1 (w0 := w) (g0 := w.heap.size)
  iterate 2 (focus exact zL)
  try clear hb3
  try clear hb0
  try clear k0
  intro wa hb0 k0
  (try simp only [List.setIfInBounds_toArray, List.set_cons_zero, List.set_cons_succ] at k0)
  have L0 := k0.cell
  go_wp2_with fail
  refine (hc.out wa hb0).mono ?_
  rintro e w3 ⟨rfl, hb3⟩
  replace hb0 := bl_tr hb0 hb3
  go_wp2
  go_ret
  exact ⟨rfl, hb0⟩
theorem c_works1 (r : Rw) (failed : Nat) (B : Nat) (w : World) (hr : RwIn r w) (hb : ∀ n ∈ r.l, 0 ≤ n ∧ n < 10) (hf : failed < 1024) (kb : Blk w B 152 #[.int .u64 failed]) :
    Calls Tryz.prog 179 #[vRw r, .pointer (some ⟨B, 0, none⟩)] w (Ret (.bool (setN r.l &&& failed == 0)) w) := by
  have hc := Lib.hid fun W (hb' : Below w.heap.size w W) => c_setOf r.l r.A r.c W (hr.sl.below hb') (Nat.le_trans hr.len (by decide)) hb
  have hlt := setN_lt hb
  clear hr hb
  change Calls Tryz.prog 179 #[.slice r.A r.l.length r.c, .pointer (some ⟨B, 0, none⟩)] w _
  generalize setN r.l = s at *
  have hand := u64_and_nat s failed (by omega) (by omega)
  generalize r.l.length = n at *
  go_enter Tryz.func179, Tryz.ntmps179
  go_upto_region 1 with fail
  first
  | apply absB1 (w0 := w) (g0 := B)
  | apply absTB1 (w0 := w) (g0 := B)
  | apply absIB1 (w0 := w) (g0 := B)
  iterate 2 (focus exact zL)
  try clear hb3
  try clear hb0
  try clear kb
  intro wa hb0 kb
  (try simp only [List.setIfInBounds_toArray, List.set_cons_zero, List.set_cons_succ] at kb)
  have Lkb := kb.later
  have Fkb := kb.laterF
  have Qkb := kb.lt
  refine wp_any (w0 := wa) ⟨[], [], [some 4, some 5, some 6, some 7, some 8, some 3], [[], [0], [], [0, 1, 2], [0, 1, 2, 3], [0, 1, 2, 3, 4]], [[], [0], [], [1, 2], [3], [4]]⟩ (fun _ => []) (by kernel_rfl) (by kernel_rfl) (by (exact zE)) (fun u => by simp only [putD, Act.put, List.setIfInBounds_toArray, List.set_cons_zero, List.set_cons_succ, Nat.zero_add, Nat.reduceAdd]; rfl) ?_
  apply RGW.on (i := 0) rfl
  · exact zG
  · intro γ u W hcur hd
    clear hd
    (try dsimp only)
    exact ⟨rfl, zS⟩
  · exact zC
  · rfl
  dsimp only [nA, cA]
  apply RGW.call (i := 1) rfl
  · exact zG
  · intro γ u W hcur hd
    obtain ⟨⟨h0, -, -⟩, -⟩ := hd
    dsimp only at h0
    (try simp only [h0])
    refine ⟨rfl, fun K hK => ?_⟩
    go_simp
    (go_at_call 93; (with_reducible refine (hc.out _ (bl_tr hb0 hcur)).mono ?_); rintro e w3 ⟨rfl, rfl⟩)
    (try dsimp only)
    exact hK.out _ _ rfl (by (exact zE))
  · exact zC
  · rfl
  dsimp only [nA, cA]
  apply RGW.on (i := 2) rfl
  · exact zG
  · intro γ u W hcur hd
    clear hd
    (try dsimp only)
    exact ⟨rfl, zS⟩
  · exact zC
  · rfl
  dsimp only [nA, cA]
  apply RGW.on (i := 3) rfl
  · exact zG
  · intro γ u W hcur hd
    obtain ⟨⟨h1, -, -⟩, ⟨h2, -, -⟩, -⟩ := hd
    dsimp only at h1 h2
    (try simp only [h1, h2])
    exact ⟨rfl, zS⟩
  · exact zC
  · rfl
  dsimp only [nA, cA]
  apply RGW.on (i := 4) rfl
  · exact zG
  · intro γ u W hcur hd
    obtain ⟨⟨h3, -, -⟩, -⟩ := hd
    dsimp only at h3
    (try simp only [h3])
    exact ⟨rfl, zS⟩
  · exact zC
  · rfl
  dsimp only [nA, cA]
  apply RGW.on (i := 5) rfl
  · exact zG
  · intro γ u W hcur hd
    obtain ⟨⟨h4, -, -⟩, -⟩ := hd
    dsimp only at h4
    (try simp only [h4])
    exact ⟨rfl, zS⟩
  · exact zC
  · rfl
  dsimp only [nA, cA]
  refine RGW.fin (fun γ u wb hwb hd hdis => ?_)
  obtain ⟨⟨h0, -, -⟩, ⟨h1, -, -⟩, ⟨h2, -, -⟩, ⟨h3, -, -⟩, ⟨h4, -, -⟩, ⟨h5, -, -⟩, -⟩ := hd
  dsimp only at h0 h1 h2 h3 h4 h5
  clear hdis
  simp only [h0, h1, h2, h3, h4, h5]
  clear h5 h4 h3 h2 h1 h0
  clear u
  simp only [List.map_nil]
  refine PlanW.done ?_
  have hb3 := bl_tt hwb
  go_wp2
  go_ret
  refine ⟨?_, by (exact zE)⟩
  generalize s &&& failed = q
  cases q <;> rfl
/-- The ways of a function name parts below ten. -/
def FuOk (f : Fu) : Prop := ∀ r ∈ f.ws, ∀ n ∈ r.l, 0 ≤ n ∧ n < 10
theorem c_works (f : Fu) (failed : Nat) (w : World) (hf : FuIn f w) (hok : FuOk f) (hlt : failed < 1024) :
    Calls Tryz.prog 141 #[vFu f, .int .u64 failed] w (Ret (.bool (worksB f failed)) w) := by
  have hc := Lib.hid fun (B : Nat) (W : World) (hb : Below w.heap.size w W) (kb : Blk W B 152 #[.int .u64 failed]) =>
    c_ContainsFuncW 179 #[.pointer (some ⟨B, 0, none⟩)] (fun r => setN r.l &&& failed == 0) f.A f.ws f.c W (Nat.le_trans hf.len (by decide)) (enters_of Tryz.func179 (by kernel_rfl) rfl)
      (fun r hr W' hb' => c_works1 r failed B W' (((hf.rows r hr).below hb).below hb') (hok r hr) hlt (kb.below hb')) (hf.sl.below hb)
  have he : Hid ((f.ws.any fun r => setN r.l &&& failed == 0) = worksB f failed) := rfl
  clear hf hok
  change Calls Tryz.prog 141 #[.agg #[.string f.name, .slice f.A f.ws.length f.c], .int .u64 failed] w _
  rw [he.out] at hc
  generalize f.ws.length = n at *
  go_enter Tryz.func141, Tryz.ntmps141
  go_upto_region 1 with fail
  first
  | apply absB2 (w0 := w) (g0 := w.heap.size) (g1 := w.heap.size + 1)
  | apply absTB2 (w0 := w) (g0 := w.heap.size) (g1 := w.heap.size + 1)
  | apply absIB2 (w0 := w) (g0 := w.heap.size) (g1 := w.heap.size + 1)
  iterate 3 (focus exact zL)
  try clear hb3
  try clear hb0
  try clear k0
  try clear k1
  intro wa hb0 k0 k1
  (try simp only [List.setIfInBounds_toArray, List.set_cons_zero, List.set_cons_succ] at k0 k1)
  have L0 := k0.cell
  go_wp2_with fail
  refine (hc.out (w.heap.size + 1) wa hb0 k1).mono ?_
  rintro e w3 ⟨rfl, hb3⟩
  replace hb0 := bl_tr hb0 hb3
  go_wp2
  go_ret
  exact ⟨rfl, hb0⟩
theorem cutTo_lt (f : Fu) (b : Nat) : ∀ k, b < 1024 → k ≤ 1024 → cutTo f b k < 1024
  | 0, h, _ => h
  | k + 1, h, hk => by
    rw [cutTo]
    split
    · omega
    · exact cutTo_lt f b k h (by omega)
set_option maxHeartbeats 4000000 in
theorem c_cut (f : Fu) (parts : Nat) (w : World) (hf : FuIn f w) (hok : FuOk f) (hp : parts ≤ 10) (hT : Tab w) :
    Calls Tryz.prog 89 #[vFu f, .int .i64 parts] w (Ret (.int .u64 (cutS f parts : Nat)) w) := by
  have hw := Lib.hid fun (k : Nat) (hk : k < 1024) W (hb : Below w.heap.size w W) => c_works f k W (hf.below hb) hok hk
  have hl := Lib.hid fun (k : Nat) (hk : k < 1024) W (hb : Below w.heap.size w W) => c_list k W hk (hT.below hb)
  have hN : 2 ^ parts ≤ 1024 := Nat.le_trans (Nat.pow_le_pow_right (by decide) hp) (by decide)
  have h1 := Nat.two_pow_pos parts
  have hlt := Lib.hid fun k (hk : k ≤ 1024) => cutTo_lt f (2 ^ parts - 1) k (by omega) hk
  have hend : Hid (cutTo f (2 ^ parts - 1) (2 ^ parts) = cutS f parts) := rfl
  have h0 : Hid (cutTo f (2 ^ parts - 1) 0 = 2 ^ parts - 1) := rfl
  have hst := Lib.hid fun k => (show cutTo f (2 ^ parts - 1) (k + 1) = if smallB k (cutTo f (2 ^ parts - 1) k) && !worksB f k then k else cutTo f (2 ^ parts - 1) k from rfl)
  have hsh : IntKind.u64.wrap (2 ^ parts) = ((2 ^ parts : Nat) : Int) := by
    have : ((2 : Int) ^ parts) = ((2 ^ parts : Nat) : Int) := by simp
    rw [this, IntWalk.u64_in _ (by omega)]
  generalize worksB f = wk at *
  clear hf hok hT
  obtain ⟨g, hg⟩ : ∃ g : Nat → Nat, ∀ k, cutTo f (2 ^ parts - 1) k = g k := ⟨_, fun _ => rfl⟩
  simp only [hg] at hlt hst h0 hend
  clear hg
  change Calls Tryz.prog 89 #[.agg #[.string f.name, .slice f.A f.ws.length f.c], .int .i64 parts] w _
  dsimp only [vFu] at hw
  generalize f.ws.length = n at *
  generalize cutS f parts = cs at *
  go_enter Tryz.func89, Tryz.ntmps89
  go_upto_region 1 with fail
  first
  | apply absB1 (w0 := w) (g0 := w.heap.size)
  | apply absTB1 (w0 := w) (g0 := w.heap.size)
  | apply absIB1 (w0 := w) (g0 := w.heap.size)
  iterate 2 (focus exact zL)
  try clear hb3
  try clear hb0
  try clear k0
  intro wa hb0 k0
  (try simp only [List.setIfInBounds_toArray, List.set_cons_zero, List.set_cons_succ] at k0)
  go_wp2
  have e1 : ((2 : Int) ^ parts) = ((2 ^ parts : Nat) : Int) := by simp
  simp only [e1]
  clear e1 hsh
  generalize 2 ^ parts = N at *
  have e2 : IntKind.u64.wrap ((N : Int) - 1) = ((N - 1 : Nat) : Int) := by rw [IntWalk.u64_in _ (by omega)]; omega
  simp only [e2]
  go_loopw [5, 13] (fun o i wr => ∃ k : Nat, k ≤ N ∧ i = .int .u64 k ∧ o = .int .u64 (g k : Nat) ∧ Below w.heap.size w wr ∧ Blk wr w.heap.size 144 #[.string f.name, .slice f.A n f.c]) (fun _ i _ => N - (intOf i).toNat)
  case atStart => exact ⟨0, Nat.zero_le _, rfl, by rw [h0.out], hb0, k0⟩
  case round =>
    clear e2 h0
    clear hb0 k0
    obtain ⟨k, hk, rfl, rfl, hb0, k0⟩ := hrel
    have hbk := hlt.out k (by omega)
    by_cases hkN : k < N
    rotate_left
    · go_wp2
      go_ret
      have : k = N := by omega
      exact ⟨by rw [this, hend.out] <;> rfl, hb0⟩
    have hs := hst.out k
    generalize g k = b at *
    have hk2 : k < 1024 := by omega
    have hS1 : sizeS k < sizeS b → smallB k b = true := fun c1 => by simp [smallB, c1]
    have hS2 : ¬ sizeS k < sizeS b → ¬ sizeS k = sizeS b → smallB k b = false := fun c1 c2 => by simp [smallB, c1, c2]
    have hS3 : ¬ sizeS k < sizeS b → sizeS k = sizeS b → smallB k b = decide (cmpL (listS k) (listS b) < 0) := fun c1 c2 => by simp [smallB, c2, cmpL_lt]
    have hll := Lib.hid fun s => listS_len s
    cases hwk : wk k
    all_goals
      have hwc := Lib.hid fun W hb => hw.out k hk2 W hb
      rw [hwk] at hs hwc
      clear hwk
      by_cases c1 : sizeS k < sizeS b
      · rw [hS1 c1] at hs
        simp only [Bool.and_true, Bool.and_false, Bool.not_true, Bool.not_false, Bool.true_and, Bool.false_and, if_true, if_false, Bool.false_eq_true] at hs
        clear hS1 hS2 hS3
        have hb9 := hb0
        have L0 := k0.cell
        go_wp2_with (first | (go_at_call 139; (with_reducible refine (c_size _ _ (by omega)).mono ?_); rintro e w3 ⟨rfl, rfl⟩) | (go_at_call 141; (with_reducible refine (hwc.out _ hb0).mono ?_); rintro e w3 ⟨rfl, hb3⟩))
        all_goals
          try (exfalso; omega)
          try replace hb0 := bl_tr hb0 hb3
          try replace k0 := k0.below hb3
          go_roundw
          case rel => exact ⟨k + 1, by omega, by go_num, by rw [hs] <;> rfl, hb0, k0⟩
          case measure => simp [intOf]; omega
      · by_cases c2 : sizeS k = sizeS b
        · rw [hS3 c1 c2] at hs
          clear hS1 hS2 hS3
          go_wp2_with ((go_at_call 139; (with_reducible refine (c_size _ _ (by omega)).mono ?_); rintro e w3 ⟨rfl, rfl⟩))
          refine (hl.out k hk2 wr hb0).mono ?_
          rintro e w4 ⟨A1, n1, rfl, hb4, ho1⟩
          replace hb0 := bl_tr hb0 hb4
          replace k0 := k0.below hb4
          go_wp2_with fail
          refine (hl.out b hbk w4 hb0).mono ?_
          rintro e w5 ⟨A2, n2, rfl, hb5, ho2⟩
          replace hb0 := bl_tr hb0 hb5
          replace k0 := k0.below hb5
          go_wp2_with fail
          refine (c_Compare (listS k) (listS b) A1 A2 n1 n2 w5 ((own_sl ho1).below hb5) (own_sl ho2) (Nat.le_trans (hll.out k) (by decide)) (Nat.le_trans (hll.out b) (by decide))).mono ?_
          rintro e w6 ⟨rfl, hb6⟩
          replace hb0 := bl_tr hb0 hb6
          replace k0 := k0.below hb6
          clear hb4 hb5 hb6 ho1 ho2 hl hll
          generalize cmpL (listS k) (listS b) = cm at *
          generalize (listS k).length = lk at *
          generalize (listS b).length = lb at *
          by_cases c3 : cm < 0
          all_goals
            simp only [c3, decide_true, decide_false, Bool.and_true, Bool.and_false, Bool.not_true, Bool.not_false, Bool.true_and, Bool.false_and, if_true, if_false, Bool.false_eq_true] at hs
            have L0 := k0.cell
            go_wp2_with ((go_at_call 141; (with_reducible refine (hwc.out _ hb0).mono ?_); rintro e w3 ⟨rfl, hb3⟩))
            all_goals
              try (exfalso; omega)
              try replace hb0 := bl_tr hb0 hb3
              try replace k0 := k0.below hb3
              go_roundw
              case rel => exact ⟨k + 1, by omega, by go_num, by rw [hs] <;> rfl, hb0, k0⟩
              case measure => simp [intOf]; omega
        · rw [hS2 c1 c2] at hs
          simp only [Bool.and_true, Bool.and_false, Bool.not_true, Bool.not_false, Bool.true_and, Bool.false_and, if_true, if_false, Bool.false_eq_true] at hs
          clear hS1 hS2 hS3
          have L0 := k0.cell
          go_wp2_with (first | (go_at_call 139; (with_reducible refine (c_size _ _ (by omega)).mono ?_); rintro e w3 ⟨rfl, rfl⟩) | (go_at_call 141; (with_reducible refine (hwc.out _ hb0).mono ?_); rintro e w3 ⟨rfl, hb3⟩))
          all_goals
            try (exfalso; omega)
            try replace hb0 := bl_tr hb0 hb3
            try replace k0 := k0.below hb3
            go_roundw
            case rel => exact ⟨k + 1, by omega, by go_num, by rw [hs] <;> rfl, hb0, k0⟩
            case measure => simp [intOf]; omega
theorem idxErr_ok {l : List Int} {count : Int} (h : idxErr l count = 0) : ∀ x ∈ l, 0 ≤ x ∧ x < count := fun x hx => by
  obtain ⟨k, hk⟩ := List.mem_iff_getElem?.1 hx
  have := eachS_ok _ l 0 h k x hk
  have h1 := ((fst_cons _ _).1 this).1
  have h2 := (unl_zero (by decide)).1 h1
  simp [inR] at h2
  omega
theorem waysE_ok {parts : Int} : ∀ (ws : List Rw) (e : Int), waysE parts e ws = 0 → e = 0 ∧ ∀ r ∈ ws, idxErr r.l parts = 0
  | [], e, h => ⟨h, by simp⟩
  | r :: ws, e, h => by
    obtain ⟨h1, h2⟩ := waysE_ok ws _ h
    obtain ⟨h3, h4⟩ := (fst_cons _ _).1 h1
    obtain ⟨h5, h6⟩ := (fst_cons _ _).1 h4
    obtain ⟨h7, -⟩ := (fst_cons _ _).1 h6
    refine ⟨h3, fun r' hr => ?_⟩
    rcases List.mem_cons.1 hr with rfl | hr
    · exact h7
    · exact h2 r' hr
theorem netErr_ok {n : Nt} (h : netErr n = 0) : n.ps.length ≤ 10 ∧ n.fs.length ≤ 10 ∧ ∀ f ∈ n.fs, ∀ r ∈ f.ws, ∀ x ∈ r.l, 0 ≤ x ∧ x < n.ps.length := by
  unfold netErr netChk at h
  split at h
  · rename_i h0
    split at h
    · split at h
      · rename_i h2
        obtain ⟨a1, a2⟩ := (fst_cons _ _).1 h0
        obtain ⟨a3, -⟩ := (fst_cons _ _).1 a2
        have a4 := (unl_zero (by decide)).1 a3
        simp at a4
        refine ⟨by omega, by omega, fun f hf r hr x hx => ?_⟩
        obtain ⟨k, hk⟩ := List.mem_iff_getElem?.1 hf
        have b1 := eachS_ok _ n.fs 0 h2 k f hk
        exact idxErr_ok ((waysE_ok f.ws _ b1).2 r hr) x hx
      · rename_i h2
        exact absurd h h2
    · rename_i h1
      exact absurd h h1
  · rename_i h0
    exact absurd h h0
end Go.Proofs.YtbdgblnccjpahaaGreatDoor
namespace Go.Proofs.YtbdgblnccjpahaaGreatDoor
def upF {α : Type} (f : Nat → α) (i : Nat) (v : α) : Nat → α := fun j => if j = i then v else f j
/-- The messages that wait (when sent, how many frames are left), the worst responses. -/
structure Ss where
  q : Nat → List (Int × Int)
  wo : Nat → Int
def ss0 : Ss := ⟨fun _ => [], fun _ => 0⟩
/-- Whether a stream sends a message at a tick. -/
def relB (l : List Sm) (st : List Int) (t : Int) (i : Nat) : Bool :=
  match l[i]?, st[i]? with
  | some s, some a => decide (a ≤ t) && decide ((t - a) % s.per = 0)
  | _, _ => false
def lenAt (l : List Sm) (i : Nat) : Int := match l[i]? with
  | some s => s.len
  | none => 0
def sendS (l : List Sm) (st : List Int) (t : Int) (q : Nat → List (Int × Int)) : Nat → List (Int × Int) := fun i => if relB l st t i then q i ++ [(t, lenAt l i)] else q i
/-- The first of so many streams that has frames left, from a number on. -/
def prioFrom (q : Nat → List (Int × Int)) : Nat → Nat → Int
  | 0, _ => -1
  | n + 1, i => if (q i).isEmpty then prioFrom q n (i + 1) else (i : Int)
def prioS (q : Nat → List (Int × Int)) : Int := prioFrom q 6 0
/-- One tick: what is sent, and what is carried. -/
def carS (ch : (Nat → List (Int × Int)) → Int) (l : List Sm) (st : List Int) (t : Int) (s : Ss) : Ss × Int :=
  if ch (sendS l st t s.q) = -1 then (⟨sendS l st t s.q, s.wo⟩, -1) else
    match sendS l st t s.q (ch (sendS l st t s.q)).toNat with
    | [] => (⟨sendS l st t s.q, s.wo⟩, ch (sendS l st t s.q))
    | (a, k) :: r =>
      if k - 1 = 0 then (⟨upF (sendS l st t s.q) (ch (sendS l st t s.q)).toNat r, upF s.wo (ch (sendS l st t s.q)).toNat (max (s.wo (ch (sendS l st t s.q)).toNat) (t - a + 1))⟩, ch (sendS l st t s.q))
      else (⟨upF (sendS l st t s.q) (ch (sendS l st t s.q)).toNat ((a, k - 1) :: r), s.wo⟩, ch (sendS l st t s.q))
def runS (ch : (Nat → List (Int × Int)) → Int) (l : List Sm) (st : List Int) : Nat → Ss × List Int
  | 0 => (ss0, [])
  | t + 1 => ((carS ch l st t (runS ch l st t).1).1, (runS ch l st t).2 ++ [(carS ch l st t (runS ch l st t).1).2])
/-- The error of starts and ticks. -/
def stE (l : List Sm) (st : List Int) (t : Int) : Int :=
  fstE [(if fstE [smsErr l, unl (decide ((st.length : Int) = l.length)) 10] = 0 then (eachS (fun _ n => unl (inR n 0 400) 2) st 0).2 else fstE [smsErr l, unl (decide ((st.length : Int) = l.length)) 10]), unl (inR t 0 400) 2]
/-- A stream's response: the least number at which the demand is met. -/
def respTo (f : Int → Int) : Nat → Int → Option Int
  | 0, _ => none
  | n + 1, r => if f r = r then some r else respTo f n (r + 1)
def respS (before : List Sm) (s : Sm) : Option Int := respTo (respF before s.len) 10000 1
def respV : Option Int → Int × Bool
  | some r => (r, true)
  | none => (0, false)
end Go.Proofs.YtbdgblnccjpahaaGreatDoor
namespace Go.Proofs.YtbdgblnccjpahaaGreatDoor
open Go.RowKit Go.Shelf
set_option maxRecDepth 20000
def cMg (i : Nat) (x : Int × Int) : List Value := [.int .i64 i, .int .i64 x.1, .int .i64 x.2]
def blA : Option Addr → List Nat
  | none => []
  | some a => [a.block]
abbrev tMg : TypeId := 225
abbrev tMgs : TypeId := 122
def Qu (w : World) (b i : Nat) (A : Option Addr) (c : Nat) (L : List (Int × Int)) : Prop :=
  (A = none ∧ c = 0 ∧ L = []) ∨ ∃ g off cs, A = some ⟨g, off, none⟩ ∧ b ≤ g ∧ Blk w g tMg cs ∧ L.length ≤ c ∧ off + c * 3 ≤ cs.size ∧ ∀ j u, (L.flatMap (cMg i))[j]? = some u → cs[off + j]? = some u
theorem flat_len3 (i : Nat) (L : List (Int × Int)) : (L.flatMap (cMg i)).length = L.length * 3 := flat_len (cMg i) 3 (fun _ => rfl) L
theorem Qu.nil (w : World) (b i : Nat) : Qu w b i none 0 [] := .inl ⟨rfl, rfl, rfl⟩
theorem Qu.keep {w w' : World} {b i c : Nat} {A : Option Addr} {L : List (Int × Int)} {X : List Nat} (h : Qu w b i A c L) (hb : BX X w w') (hX : ∀ g ∈ blA A, g ∉ X) : Qu w' b i A c L := by
  rcases h with h | ⟨g, off, cs, rfl, h1, h2, h3, h4, h5⟩
  · exact .inl h
  · exact .inr ⟨g, off, cs, rfl, h1, h2.keep (hX g (by simp [blA])) hb, h3, h4, h5⟩
theorem Qu.below {w w' : World} {b i c : Nat} {A : Option Addr} {L : List (Int × Int)} (h : Qu w b i A c L) (hb : Below w.heap.size w w') : Qu w' b i A c L := h.keep (bx_bl [] hb) (by simp)
theorem Qu.ge {w : World} {b i c : Nat} {A : Option Addr} {L : List (Int × Int)} (h : Qu w b i A c L) : ∀ g ∈ blA A, b ≤ g ∧ g < w.heap.size := by
  rcases h with ⟨rfl, _⟩ | ⟨g, off, cs, rfl, h1, h2, _⟩
  · simp [blA]
  · intro g' hg'
    simp [blA] at hg'
    subst hg'
    exact ⟨h1, h2.lt⟩
theorem Qu.of {w : World} {b b' i c : Nat} {A : Option Addr} {L : List (Int × Int)} (h : w.ownsRow b' tMg 3 (.slice A L.length c) L.length (L.flatMap (cMg i))) (hb : b ≤ b') : Qu w b i A c L := by
  rcases h.2 with ⟨e, e0⟩ | ⟨g, cap, cur, e1, e2, e3, e4, e5, e6, e7⟩
  · injection e with e1 e2 e3
    subst e1 e3
    exact .inl ⟨rfl, rfl, List.eq_nil_of_length_eq_zero e0⟩
  · injection e1 with e1 _ e8
    subst e1 e8
    refine .inr ⟨g, 0, cur, rfl, by omega, e3, e4, by omega, fun j u hj => ?_⟩
    rw [Nat.zero_add]
    rw [← e7, List.getElem?_take] at hj
    split at hj
    · simpa using hj
    · cases hj
theorem infoMg : (Tryz.prog.info? tMg).map (fun i => (i.zero, i.size, i.bytes)) = some (some (.agg #[.int .i64 0, .int .i64 0, .int .i64 0]), 3, 24) := by kernel_rfl
theorem qu_append {w : World} {b i c : Nat} {A : Option Addr} {L : List (Int × Int)} (h : Qu w b i A c L) (hb : b ≤ w.heap.size) (t n : Int) {ag : Nat}
    (ka : Blk w ag tMg #[.int .i64 i, .int .i64 t, .int .i64 n]) (hL : L.length ≤ 1000) :
    ∃ A' c' w', (Builtin.append_ #[tMgs, tMgs] tMgs #[.slice A L.length c, .slice (some ⟨ag, 0, none⟩) 1 1]).run Tryz.prog w = .ok (.slice A' (L.length + 1) c') w' ∧ Qu w' b i A' c' (L ++ [(t, n)]) ∧ BX (blA A) w w' ∧
      (blA A' = blA A ∨ ∃ g, blA A' = [g] ∧ w.heap.size ≤ g) := by
  obtain ⟨i0, hi, hz0, hz1, hz2⟩ := info_parts infoMg
  have hnews : ∀ j u, (cMg i (t, n))[j]? = some u → w.cell? ((⟨ag, 0, none⟩ : Addr).add j) = some u := by
    intro j u hj
    have hadd : (⟨ag, 0, none⟩ : Addr).add j = ⟨ag, j, none⟩ := by unfold Addr.add; split <;> simp_all
    rw [hadd, ka.cell]
    simpa [cMg] using hj
  have h1 : ∀ u ∈ cMg i (t, n), u.oneCell' = true := by
    intro u hu
    simp [cMg] at hu
    rcases hu with rfl | rfl | rfl <;> rfl
  have hflat : (L ++ [(t, n)]).flatMap (cMg i) = L.flatMap (cMg i) ++ cMg i (t, n) := by simp
  have hlen : (L ++ [(t, n)]).length = L.length + 1 := by simp
  rcases h with ⟨rfl, rfl, rfl⟩ | ⟨g, off, cs, rfl, q1, q2, q3, q4, q5⟩
  · obtain ⟨g, cap, w', r1, r2, r3, r4, r5⟩ := run_append_lies (P := Tryz.prog) w tMgs tMgs b tMg i0 _ 3 24 Tryz.underlying122 hi hz0 hz1 hz2 rfl (by decide) (.slice none 0 0) 0 [] (World.ownsRow_nil w b tMg 3)
      ⟨ag, 0, none⟩ 1 1 (cMg i (t, n)) rfl hnews h1 (by decide) (by unfold maxLen; omega) (by decide) hb _ rfl
    refine ⟨_, _, w', by simpa using r1, ?_, ⟨r3.os, r3.tape, r3.output, r3.size, fun k hk _ => r3.block k hk (by simp [Value.ownBlock]), fun g hg => by simp [blA] at hg⟩, .inr ⟨g, rfl, ?_⟩⟩
    · exact Qu.of (by simpa [hflat] using r2) (Nat.le_refl _)
    · rcases r4 with r4 | r4
      · simp [Value.ownBlock] at r4
      · omega
  · by_cases hroom : L.length + 1 ≤ c
    · have hcell : ∀ j, j < 3 → (w.cell? ⟨g, off + L.length * 3 + j, none⟩).isSome = true := fun j hj => by
        rw [q2.cell]
        have : off + L.length * 3 + j < cs.size := by omega
        simp [this]
      have hr := run_append_room_cells (P := Tryz.prog) w tMgs tMgs tMg i0 Tryz.underlying122 hi g off L.length c ⟨ag, 0, none⟩ 1 1 (cMg i (t, n)) (by rw [hz1]; rfl) hnews h1 hroom
        (fun j hj => by rw [hz1]; exact hcell j hj) (fun j hj => q2.frozen _)
      rw [hz1] at hr
      refine ⟨_, _, _, hr, .inr ⟨g, off, ((cs.setIfInBounds (off + L.length * 3) (.int .i64 i)).setIfInBounds (off + L.length * 3 + 1) (.int .i64 t)).setIfInBounds (off + L.length * 3 + 1 + 1) (.int .i64 n), rfl, q1, ?_, by omega, by simpa using q4, ?_⟩, ?_, .inl rfl⟩
      · exact ((q2.set _ _).set _ _).set _ _
      · intro j u hj
        rw [hflat] at hj
        by_cases hlt : j < L.length * 3
        · rw [List.getElem?_append_left (by rw [flat_len3]; exact hlt)] at hj
          rw [Array.getElem?_setIfInBounds_ne (by omega), Array.getElem?_setIfInBounds_ne (by omega), Array.getElem?_setIfInBounds_ne (by omega)]
          exact q5 j u hj
        · rw [List.getElem?_append_right (by rw [flat_len3]; omega), flat_len3] at hj
          obtain ⟨k, rfl⟩ : ∃ k, j = L.length * 3 + k := ⟨j - L.length * 3, by omega⟩
          rw [Nat.add_sub_cancel_left] at hj
          have hk : k < 3 := (List.getElem?_eq_some_iff.1 hj).1
          have hs : off + L.length * 3 + k < cs.size := by omega
          match k, hk, hj with
          | 0, _, hj => simp [cMg] at hj; subst hj; rw [Array.getElem?_setIfInBounds_ne (by omega), Array.getElem?_setIfInBounds_ne (by omega)]; rw [← Nat.add_assoc, Nat.add_zero, Array.getElem?_setIfInBounds_self_of_lt (by omega)]
          | 1, _, hj => simp [cMg] at hj; subst hj; rw [Array.getElem?_setIfInBounds_ne (by omega)]; rw [← Nat.add_assoc, Array.getElem?_setIfInBounds_self_of_lt (by simp; omega)]
          | 2, _, hj => simp [cMg] at hj; subst hj; rw [← Nat.add_assoc]; exact Array.getElem?_setIfInBounds_self_of_lt (by simp; omega)
      · exact bx_set (.inl (by simp [blA])) _ (bx_set (.inl (by simp [blA])) _ (bx_set (.inl (by simp [blA])) _ (bx_refl _ _)))
    · obtain ⟨v', w', r1, r2, r3⟩ := run_append_arg_grows (P := Tryz.prog) w tMgs tMgs tMg i0 _ 3 24 Tryz.underlying122 hi hz0 hz1 hz2 rfl (by decide) ⟨g, off, none⟩ L.length c (L.flatMap (cMg i)) (flat_len3 i L)
        (fun j u hj => by
          have hadd : (⟨g, off, none⟩ : Addr).add j = ⟨g, off + j, none⟩ := by unfold Addr.add; split <;> simp_all
          rw [hadd, q2.cell]
          exact q5 j u hj) ⟨ag, 0, none⟩ 1 1 (cMg i (t, n)) rfl hnews (by omega) (by unfold maxLen; omega) (by omega)
      obtain ⟨g2, cap, rfl, e2, e3⟩ := r2.form (by omega)
      refine ⟨_, _, w', r1, Qu.of (by simpa [hflat] using r2) hb, bx_bl _ ⟨r3.os, r3.tape, r3.output, r3.size, fun k hk => r3.block k hk (by simp)⟩, .inr ⟨g2, rfl, e2⟩⟩
end Go.Proofs.YtbdgblnccjpahaaGreatDoor
namespace Go.Proofs.YtbdgblnccjpahaaGreatDoor
open Go.RowKit Go.Shelf
attribute [local go_sem] bl_al bl_drew bl_drewN bl_refl bx_al bx_drew bx_drewN bx_refl
set_option maxRecDepth 20000
theorem bx_sub {X Y : List Nat} {w W : World} (h : BX X w W) (hs : ∀ g ∈ X, g ∈ Y) : BX Y w W :=
  ⟨h.os, h.tape, h.output, h.size, fun i hi hY => h.block i hi fun hX => hY (hs i hX), fun g hg t cs hk => by
    by_cases hX : g ∈ X
    · exact h.shape g hX t cs hk
    · exact ⟨cs, hk.keep hX h, rfl⟩⟩
theorem wp_qu {o : Oper} {a : Act} {K : Act → World → Prop} {Q : Exit → Act → World → Prop} {w : World} {b i c : Nat} {A : Option Addr} {L : List (Int × Int)} {t n : Int} {ag : Nat} (s x : Operand)
    (ho : o.op = .call { callee := .builtin .append, args := #[s, x], argTypes := #[tMgs, tMgs] }) (hty : o.type = tMgs) (hs : a.eval s = .slice A L.length c) (hx : a.eval x = .slice (some ⟨ag, 0, none⟩) 1 1)
    (h : Qu w b i A c L) (hb : b ≤ w.heap.size) (ka : Blk w ag tMg #[.int .i64 i, .int .i64 t, .int .i64 n]) (hL : L.length ≤ 1000)
    (H : ∀ A' c' w', Qu w' b i A' c' (L ++ [(t, n)]) → BX (blA A) w w' → (blA A' = blA A ∨ ∃ g, blA A' = [g] ∧ w.heap.size ≤ g) → K (a.put o.dst (.slice A' (L.length + 1) c')) w') : o.wp Tryz.prog a w K Q := by
  obtain ⟨A', c', w', hr, h2, h3, h4⟩ := qu_append h hb t n ka hL
  unfold Oper.wp execOp
  simp only [ho, hty, resolve, invoke, builtin, Sem.run_bind, Sem.run_pure, Result.andThen_ok, List.map_toArray, List.map_cons, List.map_nil, hs, hx, hr]
  exact H _ _ _ h2 h3 h4
/-- Where the queues lie. -/
structure QS where
  A : Nat → Option Addr
  c : Nat → Nat
def vQ (Q : QS) (q : Nat → List (Int × Int)) (i : Nat) : Value := .slice (Q.A i) (q i).length (Q.c i)
abbrev tSnd : TypeId := 125
def cSnd (vl vs : Value) (q : Nat → Value) (vw : Value) : Array Value := #[vl, vs, q 0, q 1, q 2, q 3, q 4, q 5, vw]
theorem cSnd_at (vl vs vw : Value) (q : Nat → Value) (i : Nat) (hi : i < 6) : (cSnd vl vs q vw)[2 + i]? = some (q i) := by
  match i, hi with
  | 0, _ => rfl
  | 1, _ => rfl
  | 2, _ => rfl
  | 3, _ => rfl
  | 4, _ => rfl
  | 5, _ => rfl
theorem cSnd_set (vl vs vw v : Value) (q : Nat → Value) (i : Nat) (hi : i < 6) : (cSnd vl vs q vw).setIfInBounds (2 + i) v = cSnd vl vs (upF q i v) vw := by
  match i, hi with
  | 0, _ => rfl
  | 1, _ => rfl
  | 2, _ => rfl
  | 3, _ => rfl
  | 4, _ => rfl
  | 5, _ => rfl
/-- A sender lies in the world: its block, its queues, its worst responses. -/
structure Snd (b S Bw : Nat) (vl vs : Value) (n : Nat) (Q : QS) (s : Ss) (w : World) : Prop where
  blk : Blk w S tSnd (cSnd vl vs (vQ Q s.q) (.slice (some ⟨Bw, 0, none⟩) n n))
  wor : Blk w Bw 3 ((List.range n).map fun i => Value.int .i64 (s.wo i)).toArray
  que : ∀ i, i < 6 → Qu w b i (Q.A i) (Q.c i) (s.q i)
  bS : b ≤ S
  bW : b ≤ Bw
  SW : S ≠ Bw
  dis : ∀ i j, i < 6 → j < 6 → i ≠ j → ∀ g ∈ blA (Q.A i), g ∉ blA (Q.A j)
  dS : ∀ i, i < 6 → S ∉ blA (Q.A i)
  dW : ∀ i, i < 6 → Bw ∉ blA (Q.A i)
theorem Snd.below {b S Bw n : Nat} {vl vs : Value} {Q : QS} {s : Ss} {w w' : World} (h : Snd b S Bw vl vs n Q s w) (hb : Below w.heap.size w w') : Snd b S Bw vl vs n Q s w' :=
  ⟨h.blk.below hb, h.wor.below hb, fun i hi => (h.que i hi).below hb, h.bS, h.bW, h.SW, h.dis, h.dS, h.dW⟩
/-- The blocks of a sender that change. -/
def foot (S Bw : Nat) (Q : QS) : List Nat := S :: Bw :: (List.range 6).flatMap fun i => blA (Q.A i)
theorem foot_q {S Bw : Nat} {Q : QS} {i g : Nat} (hi : i < 6) (h : g ∈ blA (Q.A i)) : g ∈ foot S Bw Q := by
  simp only [foot, List.mem_cons, List.mem_flatMap, List.mem_range]
  exact .inr (.inr ⟨i, hi, h⟩)
/-- A queue that took one message more, and the sender's block that names it. -/
theorem Snd.put {b S Bw n : Nat} {vl vs : Value} {Q : QS} {s : Ss} {w w1 w2 : World} (h : Snd b S Bw vl vs n Q s w) {i : Nat} (hi : i < 6) {A' : Option Addr} {c' : Nat} {L : List (Int × Int)}
    (hq : Qu w1 b i A' c' L) (hb1 : BX (blA (Q.A i)) w w1) (hA : blA A' = blA (Q.A i) ∨ ∃ g, blA A' = [g] ∧ w.heap.size ≤ g) (hw2 : w2 = w1.setCell ⟨S, 2 + i, none⟩ (.slice A' L.length c')) :
    Snd b S Bw vl vs n ⟨upF Q.A i A', upF Q.c i c'⟩ ⟨upF s.q i L, s.wo⟩ w2 ∧ BX (S :: blA (Q.A i)) w w2 := by
  subst hw2
  have hSl := h.blk.lt
  have hWl := h.wor.lt
  have hnew : ∀ g ∈ blA A', g ∈ blA (Q.A i) ∨ w.heap.size ≤ g := fun g hg => by
    rcases hA with e | ⟨g', e, hg'⟩
    · rw [e] at hg; exact .inl hg
    · rw [e] at hg; simp at hg; subst hg; exact .inr hg'
  have hx : BX [S] w1 (w1.setCell ⟨S, 2 + i, none⟩ (.slice A' L.length c')) := bx_set (.inl (by simp)) _ (bx_refl _ _)
  have kS := h.blk.keep (h.dS i hi) hb1
  have hSA' : S ∉ blA A' := fun hm => by
    rcases hnew S hm with hm | hm
    · exact h.dS i hi hm
    · omega
  have hWA' : Bw ∉ blA A' := fun hm => by
    rcases hnew Bw hm with hm | hm
    · exact h.dW i hi hm
    · omega
  refine ⟨⟨?_, (h.wor.keep (h.dW i hi) hb1).keep (by simpa using fun e => h.SW e.symm) hx, fun j hj => ?_, h.bS, h.bW, h.SW, fun j k hj hk hjk g hg => ?_, fun j hj => ?_, fun j hj => ?_⟩, ?_⟩
  · have := kS.set (2 + i) (.slice A' L.length c')
    rw [cSnd_set _ _ _ _ _ i hi] at this
    have e : upF (vQ Q s.q) i (.slice A' L.length c') = vQ ⟨upF Q.A i A', upF Q.c i c'⟩ (upF s.q i L) := by
      funext j
      unfold upF vQ
      split <;> simp_all
    rw [e] at this
    exact this
  · by_cases hji : j = i
    · subst hji
      simp only [upF, if_true]
      exact hq.keep hx (fun g hg => by simp only [List.mem_singleton]; exact fun e => hSA' (e ▸ hg))
    · simp only [upF, if_neg hji]
      exact ((h.que j hj).keep hb1 (fun g hg => h.dis j i hj hi hji g hg)).keep hx (fun g hg => by simp only [List.mem_singleton]; exact fun e => h.dS j hj (e ▸ hg))
  · simp only [upF] at hg ⊢
    have hlt := fun m (hm : m < 6) g hg => ((h.que m hm).ge g hg).2
    by_cases e1 : j = i
    · subst e1
      rw [if_pos rfl] at hg
      rw [if_neg (Ne.symm hjk)]
      intro hm
      rcases hnew g hg with h' | h'
      · exact h.dis _ _ hj hk hjk g h' hm
      · have := hlt k hk g hm; omega
    · rw [if_neg e1] at hg
      by_cases e2 : k = i
      · subst e2
        rw [if_pos rfl]
        intro hm
        rcases hnew g hm with h' | h'
        · exact h.dis _ _ hj hk hjk g hg h'
        · have := hlt j hj g hg; omega
      · rw [if_neg e2]
        exact h.dis j k hj hk hjk g hg
  · simp only [upF]
    split
    · exact hSA'
    · exact h.dS j hj
  · simp only [upF]
    split
    · exact hWA'
    · exact h.dW j hj
  · exact (bx_sub hb1 (fun g hg => by simp [hg])).trans (bx_sub hx (by simp))
end Go.Proofs.YtbdgblnccjpahaaGreatDoor
namespace Go.Proofs.YtbdgblnccjpahaaGreatDoor
open Go.RowKit Go.Shelf
attribute [local go_sem] bl_al bl_drew bl_drewN bl_refl bx_al bx_drew bx_drewN bx_refl Oper.semAt_some
set_option maxRecDepth 20000
/-- A part: its name and its numbers; whether it is a stream; which. -/
def prt (p : List UInt8) : List (List UInt8) := splitC 32 (cutC 32 p).2.1
def partOk (p : List UInt8) : Bool := natsOk (prt p) && decide ((prt p).length = 3) && decide ((cutC 32 p).1 ≠ [])
def partSm (p : List UInt8) : Sm := ⟨⟨(cutC 32 p).1.toArray⟩, (natsV (prt p))[0]?.getD 0, (natsV (prt p))[1]?.getD 0, (natsV (prt p))[2]?.getD 0⟩
def psOk (l : List (List UInt8)) : Bool := l.all partOk
def psV (l : List (List UInt8)) : List Sm := l.map partSm
theorem psOk_snoc (l : List (List UInt8)) (p : List UInt8) : psOk (l ++ [p]) = (psOk l && partOk p) := by simp [psOk, List.all_append]
theorem psV_snoc (l : List (List UInt8)) (p : List UInt8) : psV (l ++ [p]) = psV l ++ [partSm p] := by simp [psV]
theorem psV_len (l : List (List UInt8)) : (psV l).length = l.length := by simp [psV]
theorem psOk_prefix {a b : List (List UInt8)} (h : a <+: b) (hb : psOk a = false) : psOk b = false := by
  obtain ⟨r, rfl⟩ := h
  unfold psOk at hb ⊢
  rw [List.all_append, hb]
  rfl
/-- The error of a string of streams, and the streams. -/
def psE (s : List UInt8) : Int := if 60000 < s.length then 8 else if psOk (splitC 59 s) then smsErr (psV (splitC 59 s)) else 7
theorem infoSmz : (Tryz.prog.info? 43).map (fun i => (i.zero, i.size, i.bytes)) = some (some (.agg #[.string ByteArray.empty, .int .i64 0, .int .i64 0, .int .i64 0]), 4, 40) := by kernel_rfl
theorem three {l : List Int} (h : l.length = 3) : l = [l[0]?.getD 0, l[1]?.getD 0, l[2]?.getD 0] := by
  match l, h with
  | [a, b, c], _ => rfl
theorem ownL_blk {w : World} {base n size : Nat} {e : TypeId} {v : Value} {xs : List Value} (h : w.ownsRow base e size v n xs) : ∀ g ∈ ownL v, ∃ t cs, Blk w g t cs := fun g hg => by
  rcases h.2 with ⟨rfl, _⟩ | ⟨k, cap, cur, rfl, _, hk, _⟩
  · simp [ownL, Value.ownBlock] at hg
  · obtain rfl : g = k := by simpa [ownL, Value.ownBlock] using hg
    exact ⟨_, _, hk⟩
set_option maxHeartbeats 8000000 in
theorem c_ParseStreams (l : List UInt8) (w : World) (hl : l.length ≤ 900) (hE : Env w) :
    Calls Tryz.prog 15 #[.string ⟨l.toArray⟩] w (fun e w' => Below w.heap.size w w' ∧
      (psE l ≠ 0 → e = .returned (.tuple #[.slice none 0 0, .int .i64 (psE l)])) ∧
      (psE l = 0 → ∃ A2 c2, e = .returned (.tuple #[.slice A2 (splitC 59 l).length c2, .int .i64 0]) ∧ w'.ownsRow w.heap.size 43 4 (.slice A2 (splitC 59 l).length c2) (splitC 59 l).length ((psV (splitC 59 l)).flatMap cSm))) := by
  obtain ⟨i0, hi, hz0, hz1, hz2⟩ := info_parts infoSmz
  have HE := Lib.hid fun W (hb : Below w.heap.size w W) => hE.below hb
  have hlen := splitC_len 59 l
  have hmem := Lib.hid (splitC_mem 59 l)
  have hit := Lib.hid fun g D X W hD k0 k1 k2 hX => split_iter l 59 g D X W hD (by omega) k0 k1 k2 hX
  have hcS := Lib.hid fun W => c_SplitSeq ⟨l.toArray⟩ ⟨#[59]⟩ W
  have hE1 : Hid (psOk (splitC 59 l) = false → psE l = 7) := fun h => by rw [psE, if_neg (by omega), h]; rfl
  have hE2 : Hid (psOk (splitC 59 l) = true → psE l = smsErr (psV (splitC 59 l))) := fun h => by rw [psE, if_neg (by omega), h]; rfl
  clear hE
  generalize psE l = E at *
  obtain ⟨xs, hxs⟩ : ∃ xs, Hid (splitC 59 l = xs) := ⟨_, rfl⟩
  rw [hxs.out] at hlen hmem hit hE1 hE2 ⊢
  have hxl : xs.length ≤ 901 := by omega
  clear hlen
  have hl6 : ¬ (60000 : Int) < l.length := by omega
  have hl7 : ¬ 60000 < l.length := by omega
  refine calls_marks Tryz.func15 rfl ?_
  simp only [Tryz.ntmps15, List.size_toArray, List.length_cons, List.length_nil, Nat.reduceAdd, Nat.reduceSub, Array.replicate_succ, Array.replicate_zero, List.push_toArray, List.append_toArray, List.nil_append, List.cons_append]
  go_upto_region 4 with fail
  clear hl6 hl7
  have k4 := Blk.new w 22 #[.slice none 0 0]
  have k5 := Blk.new (w.alloc (.cells #[.slice none 0 0] 22)) 27 #[.int .i64 0]
  have k6 := Blk.new ((w.alloc (.cells #[.slice none 0 0] 22)).alloc (.cells #[.int .i64 0] 27)) 22 #[.slice none 0 0]
  simp only [World.size_alloc] at k5 k6
  replace k4 := (k4.alloc (.cells #[.int .i64 0] 27)).alloc (.cells #[.slice none 0 0] 22)
  replace k5 := k5.alloc (.cells #[.slice none 0 0] 22)
  have hb0 := bl_al (.cells #[.slice none 0 0] 22) (bl_al (.cells #[.int .i64 0] 27) (bl_al (.cells #[.slice none 0 0] 22) (bl_refl w)))
  have hsz : (((w.alloc (.cells #[.slice none 0 0] 22)).alloc (.cells #[.int .i64 0] 27)).alloc (.cells #[.slice none 0 0] 22)).heap.size = w.heap.size + 3 := by simp
  generalize ((w.alloc (.cells #[.slice none 0 0] 22)).alloc (.cells #[.int .i64 0] 27)).alloc (.cells #[.slice none 0 0] 22) = wA at *
  go_wp2_with fail
  refine (hcS.out wA).mono ?_
  rintro e w3 ⟨rfl, hb1, q0, q1, q2⟩
  rw [hsz] at q0 q1 q2 ⊢
  replace hb0 := bl_tr hb0 hb1
  replace k4 := k4.below hb1
  replace k5 := k5.below hb1
  replace k6 := k6.below hb1
  have hq2 := q2.lt
  clear hb1 hsz hcS
  obtain ⟨D, hD⟩ : ∃ D, w3.heap.size = D := ⟨_, rfl⟩
  have hDw : w.heap.size ≤ D := by omega
  rw [hD] at hq2
  have hit' := hit.out (w.heap.size + 3) D [w.heap.size, w.heap.size + 1, w.heap.size + 2] w3 hD q0 q1 q2 (by simp; omega)
  simp only [Nat.add_assoc, Nat.reduceAdd] at k6
  go_wp2
  refine wp_range4 (gf := 155) (lb := #[.pointer (some ⟨w.heap.size + 3 + 1, 0, none⟩), .pointer (some ⟨w.heap.size + 3, 0, none⟩), .pointer (some ⟨w.heap.size + 3 + 2, 0, none⟩)]) ?hg (enters_of Tryz.func155 (by kernel_rfl) rfl) (Enc := EncP) (xs := xs) [w.heap.size, w.heap.size + 1, w.heap.size + 2] [w.heap.size + 3] (by rw [hD]; exact hit') ?hps (by rw [hD]; simp; omega) (by rw [hD]; simp; omega)
    (fun pre W => psOk pre = true ∧ (Below w.heap.size w W ∧ D ≤ W.heap.size) ∧ Blk W w.heap.size 22 #[.slice none 0 0] ∧ Blk W (w.heap.size + 1) 27 #[.int .i64 0] ∧ ∃ v, Blk W (w.heap.size + 2) 22 #[v] ∧ W.ownsRow D 43 4 v pre.length ((psV pre).flatMap cSm))
    (fun c pre W => c = .ret ∧ psOk pre = false ∧ Below w.heap.size w W ∧ Blk W w.heap.size 22 #[.slice none 0 0] ∧ Blk W (w.heap.size + 1) 27 #[.int .i64 7])
    ?hI ?hIY ?hIx ?hIxY ?h0 ?round ?done ?stop
  case hg => rfl
  case hps => rintro x args W rfl; rfl
  case hI =>
    rintro s A B ⟨h1, ⟨h2, h3⟩, h4, h5, v, h6, h7⟩ hc
    rw [hD] at hc
    exact ⟨h1, ⟨hc.belowOf hDw h2, Nat.le_trans h3 hc.size⟩, hc.blk h4, hc.blk h5, v, hc.blk h6, CK.own h7 hc⟩
  case hIY =>
    rintro s A B ⟨h1, ⟨h2, h3⟩, h4, h5, v, h6, h7⟩ hb
    exact ⟨h1, ⟨bx_below h2 hb (by simp), Nat.le_trans h3 hb.size⟩, h4.keep (by simp) hb, h5.keep (by simp) hb, v, h6.keep (by simp) hb, own_bxT h7 hb (fun k hk => by have := own_ge h7 k hk; simp; omega)⟩
  case hIx =>
    rintro c s A B ⟨h1, h2, h3, h4, h5⟩ hc
    rw [hD] at hc
    exact ⟨h1, h2, hc.belowOf hDw h3, hc.blk h4, hc.blk h5⟩
  case hIxY =>
    rintro c s A B ⟨h1, h2, h3, h4, h5⟩ hb
    exact ⟨h1, h2, bx_below h3 hb (by simp), h4.keep (by simp) hb, h5.keep (by simp) hb⟩
  case h0 => exact ⟨rfl, ⟨hb0, by omega⟩, k4, k5, _, k6, World.ownsRow_nil _ _ _ _⟩
  case round =>
    rintro ln pre x args W ⟨h1, ⟨hb0, hWD⟩, k4, k5, v, k6, ho⟩ hpre rfl
    obtain ⟨vA, vc, rfl⟩ := own_slice ho
    have hpl : pre.length ≤ 900 := by
      obtain ⟨r, hr⟩ := hpre
      have := congrArg List.length hr
      simp at this
      omega
    have hxm : x.length ≤ l.length := hmem.out x (by obtain ⟨r, hr⟩ := hpre; rw [← hr]; simp)
    replace ho := Lib.hid ho
    clear hit'
    gi_wp2
    refine ⟨RN.refl _ _ _, fun W2 hc => ?_⟩
    rw [hD] at hc ⊢
    replace hb0 := hc.belowOf hDw hb0
    replace k4 := hc.blk k4
    replace k5 := hc.blk k5
    replace k6 := hc.blk k6
    replace ho := Lib.hid (CK.own ho.out hc)
    replace hWD := Nat.le_trans hWD hc.size
    clear hc
    have hcl := cutC_len 32 x
    have hcut := Lib.hid fun W => c_CutB x 32 W (by omega)
    have hspl := Lib.hid fun W (hb : Below w.heap.size w W) => c_split (cutC 32 x).2.1 32 W (by omega) (HE.out W hb)
    have hok := Lib.hid (psOk_snoc pre x)
    have hov := Lib.hid (psV_snoc pre x)
    rw [h1, partOk] at hok
    unfold partSm at hov
    change Hid (∀ W, Below w.heap.size w W → Calls Tryz.prog 61 #[.string ⟨(cutC 32 x).2.1.toArray⟩, .string ⟨#[32]⟩] W (fun e w' => Below W.heap.size W w' ∧
      (natsOk (prt x) = false → e = .returned (.tuple #[.slice none 0 0, .bool false])) ∧
      (natsOk (prt x) = true → ∃ A2 c2, e = .returned (.tuple #[.slice A2 (prt x).length c2, .bool true]) ∧ w'.ownsRow W.heap.size 3 1 (.slice A2 (prt x).length c2) (prt x).length ((natsV (prt x)).map (.int .i64))))) at hspl
    have hvl := Lib.hid (natsV_len (prt x))
    generalize prt x = P at *
    generalize natsV P = PV at *
    generalize natsOk P = PO at *
    generalize cutC 32 x = C at *
    obtain ⟨nm, rest, fnd⟩ := C
    dsimp only at *
    gi_upto_region 7 with (first | (rename_i h1 h2; exact absurd h1 undef_bool) | (with_reducible refine And.intro (wide_fn _) ?_) | (gi_at_call 60; (with_reducible refine (CallsIn.inRound ln (callsIn_wide.2 (hcut.out _))).mono ?_); rintro e w4 ⟨rfl, hb4⟩))
    replace hb0 := bl_tr hb0 hb4
    replace k4 := k4.below hb4
    replace k5 := k5.below hb4
    replace k6 := k6.below hb4
    replace ho := Lib.hid (own_below ho.out hb4)
    have hw4 := Nat.le_trans hWD hb4.size
    have hrn := RN.of_below (D := D) (X := [w.heap.size, w.heap.size + 1, w.heap.size + 2]) hb4
    clear hb4 hcut
    have hspw := Lib.hid (hspl.out w4 hb0)
    clear hspl
    cases PO with
    | false =>
      gi_upto_region 9 with (first | (rename_i h1 h2; exact absurd h1 undef_bool) | (with_reducible refine And.intro (wide_fn _) ?_) | (gi_at_call 61; (with_reducible refine (CallsIn.inRound ln (callsIn_wide.2 hspw.out)).mono ?_); rintro e w5 ⟨hb5, hs1, -⟩; obtain rfl := hs1 rfl))
      replace hb0 := bl_tr hb0 hb5
      replace k4 := k4.below hb5
      replace k5 := k5.below hb5
      have hrn2 := hrn.trans (RN.of_below (D := D) (X := [w.heap.size, w.heap.size + 1, w.heap.size + 2]) hb5)
      clear hb5 k6 ho hWD hrn
      have L4 := k4.cell
      have L5 := k5.cell
      have F4 := k4.frozen
      have F5 := k5.frozen
      gi_wp2
      have hset : BX [w.heap.size, w.heap.size + 1] w5 ((w5.setCell ⟨w.heap.size, 0, none⟩ (.slice none 0 0)).setCell ⟨w.heap.size + 1, 0, none⟩ (.int .i64 7)) := bx_set (.inl (by simp)) _ (bx_set (.inl (by simp)) _ (bx_refl _ w5))
      exact ⟨hrn2.trans (RN.of_bx hset (fun z hz => .inl (by simp at hz ⊢; omega))), rfl, by rw [hok.out]; simp, bx_below hb0 hset (by simp), (k4.set 0 _).keep (X := [w.heap.size + 1]) (by simp) (bx_set (.inl (by simp)) _ (bx_refl _ _)), (k5.keep (X := [w.heap.size]) (by simp) (bx_set (.inl (by simp)) _ (bx_refl _ _))).set 0 _⟩
    | true =>
      gi_upto_region 8 with (first | (rename_i h1 h2; exact absurd h1 undef_bool) | (with_reducible refine And.intro (wide_fn _) ?_) | (gi_at_call 61; (with_reducible refine (CallsIn.inRound ln (callsIn_wide.2 hspw.out)).mono ?_); rintro e w5 ⟨hb5, -, hs2⟩; obtain ⟨A2, c2, rfl, ho2⟩ := hs2 rfl))
      by_cases h3 : P.length = 3
      rotate_left
      · have h3' : ((P.length : Int) != 3) = true := by simp; omega
        have hok3 : decide (P.length = 3) = false := decide_eq_false h3
        rw [hok3] at hok
        replace h3 := Lib.hid h3
        gi_upto_region 9 with (first | (rename_i h1 h2; exact absurd h1 undef_bool))
        replace hb0 := bl_tr hb0 hb5
        replace k4 := k4.below hb5
        replace k5 := k5.below hb5
        have hrn2 := hrn.trans (RN.of_below (D := D) (X := [w.heap.size, w.heap.size + 1, w.heap.size + 2]) hb5)
        clear hb5 k6 ho hWD hrn
        have L4 := k4.cell
        have L5 := k5.cell
        have F4 := k4.frozen
        have F5 := k5.frozen
        gi_wp2
        have hset : BX [w.heap.size, w.heap.size + 1] w5 ((w5.setCell ⟨w.heap.size, 0, none⟩ (.slice none 0 0)).setCell ⟨w.heap.size + 1, 0, none⟩ (.int .i64 7)) := bx_set (.inl (by simp)) _ (bx_set (.inl (by simp)) _ (bx_refl _ w5))
        exact ⟨hrn2.trans (RN.of_bx hset (fun z hz => .inl (by simp at hz ⊢; omega))), rfl, by rw [hok.out]; simp, bx_below hb0 hset (by simp), (k4.set 0 _).keep (X := [w.heap.size + 1]) (by simp) (bx_set (.inl (by simp)) _ (bx_refl _ _)), (k5.keep (X := [w.heap.size]) (by simp) (bx_set (.inl (by simp)) _ (bx_refl _ _))).set 0 _⟩
      rw [h3] at ho2 hvl hok ⊢
      cases nm with
      | nil =>
        gi_upto_region 9 with (first | (rename_i h1 h2; exact absurd h1 undef_bool))
        replace hb0 := bl_tr hb0 hb5
        replace k4 := k4.below hb5
        replace k5 := k5.below hb5
        have hrn2 := hrn.trans (RN.of_below (D := D) (X := [w.heap.size, w.heap.size + 1, w.heap.size + 2]) hb5)
        clear hb5 k6 ho hWD hrn
        have L4 := k4.cell
        have L5 := k5.cell
        have F4 := k4.frozen
        have F5 := k5.frozen
        gi_wp2
        have hset : BX [w.heap.size, w.heap.size + 1] w5 ((w5.setCell ⟨w.heap.size, 0, none⟩ (.slice none 0 0)).setCell ⟨w.heap.size + 1, 0, none⟩ (.int .i64 7)) := bx_set (.inl (by simp)) _ (bx_set (.inl (by simp)) _ (bx_refl _ w5))
        exact ⟨hrn2.trans (RN.of_bx hset (fun z hz => .inl (by simp at hz ⊢; omega))), rfl, by rw [hok.out]; simp, bx_below hb0 hset (by simp), (k4.set 0 _).keep (X := [w.heap.size + 1]) (by simp) (bx_set (.inl (by simp)) _ (bx_refl _ _)), (k5.keep (X := [w.heap.size]) (by simp) (bx_set (.inl (by simp)) _ (bx_refl _ _))).set 0 _⟩
      | cons n0 nr =>
        gi_upto_region 10 with (first | (rename_i h1 h2; exact absurd h1 undef_bool))
        have hs2 := own_sl (L := PV) (by rw [hvl.out]; exact ho2)
        have h3v := three hvl.out
        generalize PV[0]?.getD 0 = p0 at *
        generalize PV[1]?.getD 0 = p1 at *
        generalize PV[2]?.getD 0 = p2 at *
        subst h3v
        obtain ⟨b2, o2, rfl, hc0⟩ := hs2 0 p0 rfl
        obtain ⟨b3, o3, e3, hc1⟩ := hs2 1 p1 rfl
        injection e3 with e3
        injection e3 with e3 e4 _
        subst e3 e4
        obtain ⟨b3, o3, e3, hc2⟩ := hs2 2 p2 rfl
        injection e3 with e3
        injection e3 with e3 e4 _
        subst e3 e4
        have d0 : ∀ W, Below w5.heap.size w5 W → W.cell? ⟨b2, o2, none⟩ = some (.int .i64 p0) := later (by simpa using hc0 0 _ rfl)
        have d1 : ∀ W, Below w5.heap.size w5 W → W.cell? ⟨b2, o2 + 1, none⟩ = some (.int .i64 p1) := later (by simpa using hc1 0 _ rfl)
        have d2 : ∀ W, Below w5.heap.size w5 W → W.cell? ⟨b2, o2 + 2, none⟩ = some (.int .i64 p2) := later (by simpa using hc2 0 _ rfl)
        clear hs2 hc0 hc1 hc2 ho2
        replace hb0 := bl_tr hb0 hb5
        replace k4 := k4.below hb5
        replace k5 := k5.below hb5
        replace k6 := k6.below hb5
        replace ho := Lib.hid (own_below ho.out hb5)
        have hw5 := Nat.le_trans hw4 hb5.size
        have hrn2 := hrn.trans (RN.of_below (D := D) (X := [w.heap.size, w.heap.size + 1, w.heap.size + 2]) hb5)
        clear hb5 hrn
        replace k6 : Blk w5 (w.heap.size + 1 + 1) 22 #[.slice vA pre.length vc] := k6
        have L6 := k6.later
        refine wpIn_any (w0 := w5) ⟨[13, 14], [], [some 40, some 41, some 42, some 43, some 44, some 45, some 46, some 47, some 48, some 49, some 50, some 51, some 52, none, none], [[], [], [], [2], [2, 3], [], [5], [5, 6], [], [8], [8, 9], [1, 2, 3, 4, 5, 6, 7, 8, 9, 10], [1, 2, 3, 4, 5, 6, 7, 8, 9, 10, 11], [0, 1, 2, 3, 4, 5, 6, 7, 8, 9, 10, 11, 12], [0, 1, 2, 3, 4, 5, 6, 7, 8, 9, 10, 11, 12, 13]], [[], [], [], [2], [3], [], [5], [6], [], [8], [9], [1, 4, 7, 10], [11], [], []]⟩ (fun _ => (w.heap.size + 1 + 1) :: ownL (.slice vA pre.length vc)) (by kernel_rfl) (by kernel_rfl) (by kernel_rfl) (by (exact zE)) (fun u => by simp only [putD, Act.put, List.setIfInBounds_toArray, List.set_cons_zero, List.set_cons_succ, Nat.zero_add, Nat.reduceAdd]; rfl) ?_
        apply RGW.on (i := 0) rfl
        · exact zG
        · intro γ u W hcur hd
          clear hd
          (try dsimp only)
          exact ⟨rfl, zS⟩
        · exact zC
        · rfl
        dsimp only [nA, cA]
        apply RGW.on (i := 1) rfl
        · exact zG
        · intro γ u W hcur hd
          clear hd
          (try dsimp only)
          exact ⟨rfl, zS⟩
        · exact zC
        · rfl
        dsimp only [nA, cA]
        apply RGW.on (i := 2) rfl
        · exact zG
        · intro γ u W hcur hd
          clear hd
          (try dsimp only)
          exact ⟨rfl, zS⟩
        · exact zC
        · rfl
        dsimp only [nA, cA]
        apply RGW.on (i := 3) rfl
        · exact zG
        · intro γ u W hcur hd
          obtain ⟨⟨h2, -, -⟩, -⟩ := hd
          dsimp only at h2
          (try simp only [h2])
          exact ⟨rfl, zS⟩
        · exact zC
        · rfl
        dsimp only [nA, cA]
        apply RGW.on (i := 4) rfl
        · exact zG
        · intro γ u W hcur hd
          obtain ⟨⟨h3, -, -⟩, -⟩ := hd
          dsimp only at h3
          (try simp only [h3])
          exact ⟨rfl, zS⟩
        · exact zC
        · rfl
        dsimp only [nA, cA]
        apply RGW.on (i := 5) rfl
        · exact zG
        · intro γ u W hcur hd
          clear hd
          (try dsimp only)
          exact ⟨rfl, zS⟩
        · exact zC
        · rfl
        dsimp only [nA, cA]
        apply RGW.on (i := 6) rfl
        · exact zG
        · intro γ u W hcur hd
          obtain ⟨⟨h5, -, -⟩, -⟩ := hd
          dsimp only at h5
          (try simp only [h5])
          exact ⟨rfl, zS⟩
        · exact zC
        · rfl
        dsimp only [nA, cA]
        apply RGW.on (i := 7) rfl
        · exact zG
        · intro γ u W hcur hd
          obtain ⟨⟨h6, -, -⟩, -⟩ := hd
          dsimp only at h6
          (try simp only [h6])
          exact ⟨rfl, zS⟩
        · exact zC
        · rfl
        dsimp only [nA, cA]
        apply RGW.on (i := 8) rfl
        · exact zG
        · intro γ u W hcur hd
          clear hd
          (try dsimp only)
          exact ⟨rfl, zS⟩
        · exact zC
        · rfl
        dsimp only [nA, cA]
        apply RGW.on (i := 9) rfl
        · exact zG
        · intro γ u W hcur hd
          obtain ⟨⟨h8, -, -⟩, -⟩ := hd
          dsimp only at h8
          (try simp only [h8])
          exact ⟨rfl, zS⟩
        · exact zC
        · rfl
        dsimp only [nA, cA]
        apply RGW.on (i := 10) rfl
        · exact zG
        · intro γ u W hcur hd
          obtain ⟨⟨h9, -, -⟩, -⟩ := hd
          dsimp only at h9
          (try simp only [h9])
          exact ⟨rfl, zS⟩
        · exact zC
        · rfl
        dsimp only [nA, cA]
        apply RGW.on (i := 11) rfl
        · exact zG
        · intro γ u W hcur hd
          obtain ⟨⟨h1, -, -⟩, ⟨h4, -, -⟩, ⟨h7, -, -⟩, ⟨h10, -, -⟩, -⟩ := hd
          dsimp only at h1 h4 h7 h10
          (try simp only [h1, h4, h7, h10])
          exact ⟨rfl, zS⟩
        · exact zC
        · rfl
        dsimp only [nA, cA]
        apply RGW.bslice (i := 12) rfl
        · exact zG
        · intro γ u W hcur hd
          obtain ⟨⟨h11, -, -⟩, -⟩ := hd
          dsimp only at h11
          (try simp only [h11])
          refine ⟨rfl, fun K hK => ?_⟩
          go_simp
          exact hK.out _ _ rfl rfl
        · exact zC
        · rfl
        · rfl
        dsimp only [nA, cA]
        refine RGW.skip (i := 13) rfl rfl ?_
        dsimp only [nA, cA]
        refine RGW.skip (i := 14) rfl rfl ?_
        dsimp only [nA, cA]
        refine RGW.fin (fun γ u wd hwd hd hdis => ?_)
        obtain ⟨⟨h0, -, -⟩, ⟨h1, -, -⟩, ⟨h2, -, -⟩, ⟨h3, -, -⟩, ⟨h4, -, -⟩, ⟨h5, -, -⟩, ⟨h6, -, -⟩, ⟨h7, -, -⟩, ⟨h8, -, -⟩, ⟨h9, -, -⟩, ⟨h10, -, -⟩, ⟨h11, -, -⟩, ⟨h12, r12, b12⟩, -⟩ := hd
        dsimp only at h0 h1 h2 h3 h4 h5 h6 h7 h8 h9 h10 h11 h12 r12 b12
        clear hdis
        simp only [h0, h1, h2, h3, h4, h5, h6, h7, h8, h9, h10, h11, h12]
        clear h12 h11 h10 h9 h8 h7 h6 h5 h4 h3 h2 h1 h0
        replace b12 := b12 _ (List.mem_singleton.2 rfl)
        generalize hγ12 : (γ 12).n = g12 at *
        clear hγ12
        clear u
        simp only [List.map_cons, List.map_nil]
        apply PlanW.step
        · exact zG
        · rfl
        intro K hK
        (refine wp_appT _ _ rfl Tryz.underlying22 hi hz0 hz1 hz2 rfl (by decide) (.slice vA pre.length vc) pre.length _ _ rfl rfl (own_below ho.out hwd) r12 rfl (by simp [Value.oneCell']) (by unfold maxLen; omega) (by omega) (Nat.le_trans hw5 hwd.size) ?_; intro v' w' hown' hbx' hnew'; obtain ⟨zA, zC, rfl⟩ := own_slice hown'; refine hK.out _ _ (bx_sub hbx' (fun g hg => List.mem_cons_of_mem _ hg)) (fun hcur => ?_))
        clear hK K
        try simp only [Act.put, List.setIfInBounds_toArray, List.set_cons_zero, List.set_cons_succ]
        apply PlanW.step
        · exact zG
        · rfl
        intro K hK
        first
        | refine wp_store_keep (X := (w.heap.size + 1 + 1) :: ownL (.slice vA pre.length vc)) (w0 := wd) rfl rfl rfl (by with_reducible first | exact bx_refl _ _ | assumption) (by with_reducible first | assumption | (apply Blk.below (hb := hwd); assumption)) (by simp) (by kernel_rfl) (by rfl) (by simp [Value.oneCell']) (fun hres1 hcur => ?_)
          refine hK.out _ _ hcur (fun _ => ?_)
        | go_simp
          refine hK.out _ _ (by (exact zX)) (fun hcur => ?_)
        | obtain ⟨u0, v0, z0⟩ := bx_cell0 hcur (Blk.below k6 hwd) (by simp)
          go_simp
          refine hK.out _ _ (by (exact zX)) (fun hcur => ?_)
        | obtain ⟨u0, v0, z0⟩ := bx_cell0 (X := (w.heap.size + 1 + 1) :: ownL (.slice vA pre.length vc)) (w0 := wd) (by with_reducible first | assumption | exact bx_refl _ _) r12 (by simp)
          go_simp
          refine hK.out _ _ (by (exact zX)) (fun hcur => ?_)
        clear hK K
        try simp only [Act.put, List.setIfInBounds_toArray, List.set_cons_zero, List.set_cons_succ]
        refine PlanW.done ?_
        refine only_done ?_
        have hb3x := bx_tt hwd
        have hb3 := bl_tt hwd
        have hset : BX [w.heap.size + 1 + 1] w' (w'.setCell ⟨w.heap.size + 1 + 1, 0, none⟩ (.slice zA (pre.length + 1) zC)) := bx_set (.inl (by simp)) _ (bx_refl _ w')
        have hX1 : ∀ z ∈ ownL (.slice vA pre.length vc), D ≤ z := fun z hz => ownL_ge ho.out z hz
        have k4w := (k4.below hwd).keep (fun h => by have := hX1 _ h; omega) hbx'
        have k5w := (k5.below hwd).keep (fun h => by have := hX1 _ h; omega) hbx'
        have k6w := (k6.below hwd).keep (fun h => by have := hX1 _ h; omega) hbx'
        have hrnA := RN.of_below (D := D) (X := [w.heap.size, w.heap.size + 1, w.heap.size + 2]) hwd
        have hrnB := RN.of_bx (D := D) (X := [w.heap.size, w.heap.size + 1, w.heap.size + 2]) hbx' (fun z hz => .inr ⟨hX1 z hz, ownL_blk (own_below ho.out hwd) z hz⟩)
        have hrnC := RN.of_bx (D := D) (X := [w.heap.size, w.heap.size + 1, w.heap.size + 2]) hset (fun z hz => .inl (by simp at hz ⊢; omega))
        have hbw := bx_below (bx_below (bl_tr hb0 hwd) hbx' (fun z hz => by have := hX1 z hz; omega)) hset (by simp; omega)
        have hsz9 := Nat.le_trans hw5 (Nat.le_trans hwd.size (Nat.le_trans hbx'.size hset.size))
        have hown9 := own_bxT hown' hset (fun k hk => by have := own_ge hown' k hk; simp; omega)
        refine ⟨hrn2.trans (hrnA.trans (hrnB.trans hrnC)), by rw [hok.out]; simp, ⟨hbw, hsz9⟩, k4w.keep (by simp <;> omega) hset, k5w.keep (by simp <;> omega) hset, _, k6w.set 0 _, ?_⟩
        rw [hov.out, List.length_append, List.flatMap_append]
        exact hown9
  case done =>
    rintro W ⟨h1, ⟨hb0, hWD⟩, k4, k5, v, k6, ho⟩ hK
    clear hit'
    subst hD
    obtain ⟨vA, vc, rfl⟩ := own_slice ho
    replace ho := Lib.hid ho
    have hEs := Lib.hid (hE2.out h1)
    have hnl := psV_len xs
    have hcap : xs.length ≤ vc := by
      rcases ho.out.2 with ⟨h, -⟩ | ⟨_, _, _, e, _, _, h, _⟩
      · injection h with _ h1 h2
        omega
      · injection e with _ _ e
        omega
    have hsm : SmIn (psV xs) vA vc W := ⟨by omega, by omega, fun s hs => by
      obtain ⟨p, hp, rfl⟩ := List.mem_map.1 hs
      have h3 := hmem.out p hp
      have h4 := (cutC_len 32 p).1
      show (cutC 32 p).1.length ≤ maxLen
      unfold maxLen
      omega, own_slC (cs := cSm) (fun _ => rfl) (by decide) (by rw [hnl]; exact ho.out)⟩
    have hse := Lib.hid (c_streamsErr (psV xs) vA vc W hsm)
    rw [hnl, ← hEs.out] at hse
    have hxl' := xs.length
    replace hnl := Lib.hid hnl
    have L6 := k6.cell
    go_wp2_with fail
    refine hse.out.mono ?_
    rintro e w5 ⟨rfl, hb5⟩
    replace hb0 := bl_tr hb0 hb5
    replace k4 := k4.below hb5
    replace k5 := k5.below hb5
    replace k6 := k6.below hb5
    replace ho := Lib.hid (own_below ho.out hb5)
    replace hK : w5.heap[w3.heap.size]? = some (.deferred (some [])) := (hb5.block _ (Array.getElem?_eq_some_iff.1 hK).1).trans hK
    clear hb5 L6 hse hsm
    have L4 := k4.cell
    have L5 := k5.cell
    have L6 := k6.cell
    have F4 := k4.frozen
    have F5 := k5.frozen
    by_cases hE0 : E = 0
    · subst hE0
      go_wp2
      have hset : BX [w.heap.size, w.heap.size + 1] w5 ((w5.setCell ⟨w.heap.size, 0, none⟩ (.slice vA xs.length vc)).setCell ⟨w.heap.size + 1, 0, none⟩ (.int .i64 0)) := bx_set (.inl (by simp)) _ (bx_set (.inl (by simp)) _ (bx_refl _ w5))
      have q4 : Blk ((w5.setCell ⟨w.heap.size, 0, none⟩ (.slice vA xs.length vc)).setCell ⟨w.heap.size + 1, 0, none⟩ (.int .i64 0)) w.heap.size 22 #[(.slice vA xs.length vc)] := (k4.set 0 _).keep (X := [w.heap.size + 1]) (by simp) (bx_set (.inl (by simp)) _ (bx_refl _ _))
      have q5 : Blk ((w5.setCell ⟨w.heap.size, 0, none⟩ (.slice vA xs.length vc)).setCell ⟨w.heap.size + 1, 0, none⟩ (.int .i64 0)) (w.heap.size + 1) 27 #[(.int .i64 0)] := (k5.keep (X := [w.heap.size]) (by simp) (bx_set (.inl (by simp)) _ (bx_refl _ _))).set 0 _
      have hK2 : ((w5.setCell ⟨w.heap.size, 0, none⟩ (.slice vA xs.length vc)).setCell ⟨w.heap.size + 1, 0, none⟩ (.int .i64 0)).heap[w3.heap.size]? = some (.deferred (some [])) := (hset.block w3.heap.size (Array.getElem?_eq_some_iff.1 hK).1 (by simp; omega)).trans hK
      have hob := own_bxT ho.out hset (fun k hk => by have := own_ge ho.out k hk; simp; omega)
      have hbb := bx_below hb0 hset (by simp)
      generalize ((w5.setCell ⟨w.heap.size, 0, none⟩ (.slice vA xs.length vc)).setCell ⟨w.heap.size + 1, 0, none⟩ (.int .i64 0)) = Wz at *
      have hck := CK.put (D := w3.heap.size) (.deferred none) hK2 rfl (Nat.le_refl _)
      have r4 := (hck.blk q4).cell 0
      have r5 := (hck.blk q5).cell 0
      refine postM_taken hK2 (v := .tuple #[(.slice vA xs.length vc), (.int .i64 0)]) (by simp [results, Tryz.results15, go_sem, r4, r5]) ⟨hck.belowOf hDw hbb, by first | exact ⟨vA, vc, rfl, own_mono hDw (CK.own hob hck)⟩ | exact ⟨fun h => absurd rfl h, fun _ => ⟨vA, vc, rfl, own_mono hDw (CK.own hob hck)⟩⟩⟩
    · have hne : (E != 0) = true := by simp [hE0]
      replace hE0 := Lib.hid hE0
      go_wp2
      have hset : BX [w.heap.size, w.heap.size + 1] w5 ((w5.setCell ⟨w.heap.size, 0, none⟩ (.slice none 0 0)).setCell ⟨w.heap.size + 1, 0, none⟩ (.int .i64 E)) := bx_set (.inl (by simp)) _ (bx_set (.inl (by simp)) _ (bx_refl _ w5))
      have q4 : Blk ((w5.setCell ⟨w.heap.size, 0, none⟩ (.slice none 0 0)).setCell ⟨w.heap.size + 1, 0, none⟩ (.int .i64 E)) w.heap.size 22 #[(.slice none 0 0)] := (k4.set 0 _).keep (X := [w.heap.size + 1]) (by simp) (bx_set (.inl (by simp)) _ (bx_refl _ _))
      have q5 : Blk ((w5.setCell ⟨w.heap.size, 0, none⟩ (.slice none 0 0)).setCell ⟨w.heap.size + 1, 0, none⟩ (.int .i64 E)) (w.heap.size + 1) 27 #[(.int .i64 E)] := (k5.keep (X := [w.heap.size]) (by simp) (bx_set (.inl (by simp)) _ (bx_refl _ _))).set 0 _
      have hK2 : ((w5.setCell ⟨w.heap.size, 0, none⟩ (.slice none 0 0)).setCell ⟨w.heap.size + 1, 0, none⟩ (.int .i64 E)).heap[w3.heap.size]? = some (.deferred (some [])) := (hset.block w3.heap.size (Array.getElem?_eq_some_iff.1 hK).1 (by simp; omega)).trans hK
      have hob := own_bxT ho.out hset (fun k hk => by have := own_ge ho.out k hk; simp; omega)
      have hbb := bx_below hb0 hset (by simp)
      generalize ((w5.setCell ⟨w.heap.size, 0, none⟩ (.slice none 0 0)).setCell ⟨w.heap.size + 1, 0, none⟩ (.int .i64 E)) = Wz at *
      have hck := CK.put (D := w3.heap.size) (.deferred none) hK2 rfl (Nat.le_refl _)
      have r4 := (hck.blk q4).cell 0
      have r5 := (hck.blk q5).cell 0
      refine postM_taken hK2 (v := .tuple #[(.slice none 0 0), (.int .i64 E)]) (by simp [results, Tryz.results15, go_sem, r4, r5]) ⟨hck.belowOf hDw hbb, by first | exact ⟨fun _ => rfl, fun h => absurd h hE0.out⟩ | simp [hE0.out]⟩
  case stop =>
    rintro c' pre W hpre ⟨rfl, hno, hb0, k4, k5⟩ hK
    clear hit'
    subst hD
    have hno' := psOk_prefix hpre hno
    have hE7 := Lib.hid (hE1.out hno')
    go_wp2
    have hck := CK.put (D := w3.heap.size) (.deferred none) hK rfl (Nat.le_refl _)
    have r4 := (hck.blk k4).cell 0
    have r5 := (hck.blk k5).cell 0
    refine postM_taken hK (v := .tuple #[.slice none 0 0, .int .i64 7]) (by simp [results, Tryz.results15, go_sem, r4, r5]) ⟨hck.belowOf hDw hb0, fun _ => by rw [hE7.out], fun h => by rw [hE7.out] at h; cases h⟩
end Go.Proofs.YtbdgblnccjpahaaGreatDoor
namespace Go.Proofs.YtbdgblnccjpahaaGreatDoor
def wt (m : Nat → Int) : Nat → Int
  | 0 => 0
  | k + 1 => wt m k + m k
theorem wt_le {f g : Nat → Int} : ∀ {n : Nat}, (∀ k, k < n → f k ≤ g k) → wt f n ≤ wt g n
  | 0, _ => Int.le_refl _
  | n + 1, h => by
    rw [wt, wt]
    have := wt_le (n := n) fun k hk => h k (by omega)
    have := h n (by omega)
    omega
/-- Streams as they are asked for. -/
def OkSm (s : Sm) : Prop := 1 ≤ s.per ∧ s.per ≤ 60 ∧ 1 ≤ s.dl ∧ s.dl ≤ s.per ∧ 1 ≤ s.len ∧ s.len ≤ 20
theorem lenAt_nonneg {l : List Sm} (hl : ∀ s ∈ l, OkSm s) (i : Nat) : 0 ≤ lenAt l i := by
  unfold lenAt
  cases e : l[i]? with
  | none => exact Int.le_refl _
  | some s =>
    have := (hl s (List.mem_of_getElem? e)).2.2.2.2.1
    show 0 ≤ s.len
    omega
def perAt (l : List Sm) (i : Nat) : Int := match l[i]? with
  | some s => s.per
  | none => 1
end Go.Proofs.YtbdgblnccjpahaaGreatDoor
namespace Go.Proofs.YtbdgblnccjpahaaGreatDoor
theorem foldl_wt (l : List Sm) (r b : Int) : ∀ n : Nat, n ≤ l.length → ((l.take n).map fun o => o.len * ((r + o.per - 1) / o.per)).foldl (· + ·) b = b + wt (fun k => lenAt l k * ((r + perAt l k - 1) / perAt l k)) n
  | 0, _ => by simp [wt]
  | n + 1, h => by
    have e : l[n]? = some (l[n]'(by omega)) := List.getElem?_eq_getElem _
    rw [List.take_add_one, e, List.map_append, List.foldl_append, foldl_wt l r b n (by omega), wt]
    unfold lenAt perAt
    rw [e]
    simp
    omega
theorem ceil_mono {p a b : Int} (hp : 1 ≤ p) (h : a ≤ b) : (a + p - 1) / p ≤ (b + p - 1) / p := Int.ediv_le_ediv (by omega) (by omega)
theorem perAt_ok {l : List Sm} (hl : ∀ s ∈ l, OkSm s) (k : Nat) : 1 ≤ perAt l k := by
  unfold perAt
  cases e : l[k]? with
  | none => exact Int.le_refl _
  | some s => exact (hl s (List.mem_of_getElem? e)).1
end Go.Proofs.YtbdgblnccjpahaaGreatDoor
