/-
  Walks: the mode after faults, and the margin of a mode.
  Walks: the reference's smallest failures that stop a function, and the margin of a mode.
  Walks: streams by the reference: few, copied, valid.
  Walks: copies of texts, of lists of numbers; what lies in blocks of a call's own, by the types of these blocks.
  Walk: a copy of a net.
-/
import Derived.Test.YtdlmkblmljhbfaaDoorVFaults2
import Derived.Test.YtdlmkblmljhbfaaDoorU4
import Derived.Test.YtdlmkblmljhbfaaDoorVFaults1
import Derived.Test.YtdlmkblmljhbfaaDoorU6
import Derived.Test.YtdlmkblmljhbfaaDoorU3
namespace Go.Proofs.YtdlmkblmljhbfaaDoor
set_option linter.unusedSimpArgs false
set_option linter.unusedVariables false
open Go.RowKit Go.Shelf
attribute [local go_sem] bl_al bl_drew bl_drewN bl_refl bx_al bx_drew bx_drewN bx_refl
set_option maxRecDepth 20000
theorem net_md {n : Nt} (h : netErr n = 0) : n.ms.length ≤ 6 ∧ ∀ m ∈ n.ms, ∀ x ∈ m.r.l, 0 ≤ x ∧ x < n.fs.length := by
  unfold netErr netChk at h
  split at h
  · rename_i h0
    split at h
    · split at h
      · obtain ⟨a1, a2⟩ := (fst_cons _ _).1 h0
        obtain ⟨a3, -⟩ := (fst_cons _ _).1 a2
        have a4 := (unl_zero (by decide)).1 a3
        simp at a4
        refine ⟨by omega, fun m hm x hx => ?_⟩
        obtain ⟨k, hk⟩ := List.mem_iff_getElem?.1 hm
        have b1 := eachS_ok _ n.ms 0 h k m hk
        exact idxErr_ok ((fst_cons _ _).1 ((fst_cons _ _).1 b1).2).1 x hx
      · rename_i h2
        exact absurd h h2
    · rename_i h1
      exact absurd h h1
  · rename_i h0
    exact absurd h h0
/-- The mode after faults, and the error. -/
def modI (n : Nt) (l : List Int) : Int := idxF (fun m : Md => modeB m.r.l (workN n.fs (setN l) n.fs.length)) n.ms 0
def modR (n : Nt) (l : List Int) : Int × Int := if fltE n l = 0 then (max (modI n l) 0, unl (decide (0 ≤ modI n l)) 12) else (0, fltE n l)
set_option maxHeartbeats 4000000 in
theorem c_ModeAfter (n : Nt) (l : List Int) (Ap Af Am A : Option Addr) (cp cf cm c : Nat) (w : World) (hn : NtIn n Ap Af Am cp cf cm w) (hs : Sl cI 1 w A l) (hl : l.length ≤ 1000) :
    Calls Tryd.prog 51 #[vNt Ap Af Am n.ps.length n.fs.length n.ms.length cp cf cm, .slice A l.length c] w (Ret (.tuple #[.int .i64 (modR n l).1, .int .i64 (modR n l).2]) w) := by
  have hfe := Lib.hid fun W (hb : Below w.heap.size w W) => c_faultsErr n l Ap Af Am A cp cf cm c W (hn.below hb) (hs.below hb) hl
  have hso := Lib.hid fun (h : fltE n l = 0) W (hb : Below w.heap.size w W) => c_setOf l A c W (hs.below hb) (by omega) (flt_lt h).2
  have hwo := Lib.hid fun (h : fltE n l = 0) W (hb : Below w.heap.size w W) => c_working n (setN l) Ap Af Am cp cf cm W (hn.below hb) (net_fok (fltE_ok h).1).2 (net_fok (fltE_ok h).1).1 (flt_lt h).1
  have hix := Lib.hid fun (h : fltE n l = 0) (B : Nat) (W : World) (hb : Below w.heap.size w W) (kb : Blk W B 132 #[.int .u64 (workN n.fs (setN l) n.fs.length : Nat)]) =>
    c_IndexFuncM 113 #[.pointer (some ⟨B, 0, none⟩)] (fun m : Md => modeB m.r.l (workN n.fs (setN l) n.fs.length)) Am n.ms cm W (Nat.le_trans hn.mlen (by decide)) (enters_of Tryd.func113 (by kernel_rfl) rfl)
      (fun m hm W' hb' => c_mode1 m _ B W' (((hn.min m hm).below hb).below hb') (fun x hx => by have := (net_md (fltE_ok h).1).2 m hm x hx; have := (net_fok (fltE_ok h).1).1; omega) (work_lt (net_fok (fltE_ok h).1).1 _) (kb.below hb')) (hn.msl.below hb)
  have h1 : Hid (fltE n l ≠ 0 → modR n l = (0, fltE n l)) := fun h => by rw [modR, if_neg h]
  have h2 : Hid (fltE n l = 0 → modR n l = (max (modI n l) 0, unl (decide (0 ≤ modI n l)) 12)) := fun h => by rw [modR, if_pos h]
  have hmi : Hid (idxF (fun m : Md => modeB m.r.l (workN n.fs (setN l) n.fs.length)) n.ms 0 = modI n l) := rfl
  rw [hmi.out] at hix
  clear hn hs hmi
  change Calls Tryd.prog 51 #[.agg #[.slice Ap n.ps.length cp, .slice Af n.fs.length cf, .slice Am n.ms.length cm], .slice A l.length c] w _
  dsimp only [vNt, aNt] at hfe hwo
  generalize modR n l = R at *
  generalize modI n l = I at *
  generalize workN n.fs (setN l) n.fs.length = WN at *
  generalize setN l = SN at *
  generalize fltE n l = E at *
  generalize n.ps.length = np at *
  generalize n.fs.length = nf at *
  generalize n.ms.length = nm at *
  generalize l.length = ll at *
  go_enter Tryd.func51, Tryd.ntmps51
  go_upto_region 1 with fail
  first
  | apply absB1 (w0 := w) (g0 := w.heap.size)
  | apply absTB1 (w0 := w) (g0 := w.heap.size)
  | apply absIB1 (w0 := w) (g0 := w.heap.size)
  iterate 2 (focus ((with_reducible (repeat' (first | assumption | apply jA | apply jB | apply jC | apply jD | apply jE | apply jF | apply hb3 | apply jG | apply jH | apply jI | apply jJ | apply jK | apply hb3x | (apply jL; first | (simp; done) | rfl) | apply jM | apply jN | apply jO | apply jP | apply jQ | apply jR | apply jS | apply jT (hb := hb3 _ (jA _)) | omega | (simp; done) | (simp; omega) | (dsimp only; omega)))); done))
  intro wa hb0' k0'
  (try simp only [List.setIfInBounds_toArray, List.set_cons_zero, List.set_cons_succ] at k0')
  try clear hb3
  try clear hb0
  try clear k0
  have hb0 := hb0'; clear hb0'
  have k0 := k0'; clear k0'
  have L0 := k0.cell
  go_wp2_with fail
  refine (hfe.out _ hb0).mono ?_
  rintro e w3 ⟨rfl, hb3⟩
  replace hb0 := bl_tr hb0 hb3
  replace k0 := k0.below hb3
  clear L0 hb3 hfe
  by_cases h0 : E = 0
  rotate_left
  · have h0' : (E != 0) = true := by simp [h0]
    have hR := Lib.hid (h1.out h0)
    replace h0 := Lib.hid h0
    clear h1 h2
    go_wp2
    go_ret2
    exact ⟨by rw [hR.out] <;> rfl, hb0⟩
  subst h0
  have hso1 := Lib.hid (hso.out rfl)
  have hwo1 := Lib.hid (hwo.out rfl)
  have hix1 := Lib.hid (hix.out rfl)
  have hR := Lib.hid (h2.out rfl)
  clear hso hwo hix h1 h2
  go_upto_region 4 with fail
  have Lk0 := k0.later
  have Fk0 := k0.laterF
  have Qk0 := k0.lt
  refine wp_any (w0 := w3) ⟨[5], [], [some 15, some 16, some 17, some 18, some 7, none], [[], [], [1], [0, 1, 2], [], [0, 1, 2, 3, 4]], [[], [], [1], [0, 2], [], []]⟩ (fun γ => [(γ 4).n]) (by kernel_rfl) (by kernel_rfl) (by (with_reducible (repeat' (first | assumption | apply jA | apply jB | apply jC | apply jD | apply jE | apply jF | apply hb3 | omega | (simp; done) | (simp; omega) | (dsimp only; omega))))) (fun u => by simp only [putD, Act.put, List.setIfInBounds_toArray, List.set_cons_zero, List.set_cons_succ, Nat.zero_add, Nat.reduceAdd]; rfl) ?_
  apply RGW.on (i := 0) rfl
  · (simp only [gA, gB, gC] <;> rfl)
  · intro γ u W hcur hd
    clear hd
    (try dsimp only)
    refine ⟨rfl, ?_⟩
    go_simp <;> (try go_bits) <;> with_reducible rfl
  · exact fun _ _ _ => rfl
  · rfl
  dsimp only [nA, cA]
  apply RGW.on (i := 1) rfl
  · (simp only [gA, gB, gC] <;> rfl)
  · intro γ u W hcur hd
    clear hd
    (try dsimp only)
    refine ⟨rfl, ?_⟩
    go_simp <;> (try go_bits) <;> with_reducible rfl
  · exact fun _ _ _ => rfl
  · rfl
  dsimp only [nA, cA]
  apply RGW.call (i := 2) rfl
  · (simp only [gA, gB, gC] <;> rfl)
  · intro γ u W hcur hd
    obtain ⟨⟨h1, -, -⟩, -⟩ := hd
    dsimp only at h1
    (try simp only [h1])
    refine ⟨rfl, fun K hK => ?_⟩
    go_simp
    first
    | (go_at_call 111; (with_reducible refine (hso1.out _ (bl_tr hb0 hcur)).mono ?_); rintro e w3 ⟨rfl, rfl⟩)
    | (go_at_call 110; (with_reducible refine (hwo1.out _ (bl_tr hb0 hcur)).mono ?_); rintro e w3 ⟨rfl, hb3⟩; replace hb3 := bl_tt hb3)
    (try dsimp only)
    exact hK.out _ _ rfl (by (with_reducible (repeat' (first | assumption | apply jA | apply jB | apply jC | apply jD | apply jE | apply jF | apply hb3 | omega | (simp; done) | (simp; omega) | (dsimp only; omega)))))
  · exact fun _ _ _ => rfl
  · rfl
  dsimp only [nA, cA]
  apply RGW.call (i := 3) rfl
  · (simp only [gA, gB, gC] <;> rfl)
  · intro γ u W hcur hd
    obtain ⟨⟨h0, -, -⟩, ⟨h2, -, -⟩, -⟩ := hd
    dsimp only at h0 h2
    (try simp only [h0, h2])
    refine ⟨rfl, fun K hK => ?_⟩
    go_simp
    first
    | (go_at_call 111; (with_reducible refine (hso1.out _ (bl_tr hb0 hcur)).mono ?_); rintro e w3 ⟨rfl, rfl⟩)
    | (go_at_call 110; (with_reducible refine (hwo1.out _ (bl_tr hb0 hcur)).mono ?_); rintro e w3 ⟨rfl, hb3⟩; replace hb3 := bl_tt hb3)
    (try dsimp only)
    exact hK.out _ _ rfl (by (with_reducible (repeat' (first | assumption | apply jA | apply jB | apply jC | apply jD | apply jE | apply jF | apply hb3 | omega | (simp; done) | (simp; omega) | (dsimp only; omega)))))
  · exact fun _ _ _ => rfl
  · rfl
  dsimp only [nA, cA]
  apply RGW.alloc (i := 4) rfl
  · (simp only [gA, gB, gC] <;> rfl)
  · intro γ u W hcur hd
    clear hd
    (try dsimp only)
    refine ⟨rfl, fun K hK => ?_⟩
    go_simp
    exact hK.out _ _ rfl rfl
  · exact fun _ _ _ => rfl
  · rfl
  · rfl
  dsimp only [nA, cA]
  refine RGW.skip (i := 5) rfl rfl ?_
  dsimp only [nA, cA]
  refine RGW.fin (fun γ u wb hwb hd hdis => ?_)
  obtain ⟨⟨h0, -, -⟩, ⟨h1, -, -⟩, ⟨h2, -, -⟩, ⟨h3, -, -⟩, ⟨h4, r4, b4⟩, -⟩ := hd
  dsimp only at h0 h1 h2 h3 h4 r4 b4
  clear hdis
  simp only [h0, h1, h2, h3, h4]
  clear h4 h3 h2 h1 h0
  replace b4 := b4 _ (List.mem_singleton.2 rfl)
  generalize hγ4 : (γ 4).n = g4 at *
  clear hγ4
  clear u
  simp only [List.map_cons, List.map_nil]
  apply PlanW.step
  · (simp only [gA, gB, gC] <;> rfl)
  · rfl
  intro K hK
  first
  | refine wp_store_keep (X := [g4]) (w0 := wb) rfl rfl rfl (by with_reducible first | exact bx_refl _ _ | assumption) (by with_reducible first | assumption | (apply Blk.below (hb := hwb); assumption)) (by simp) (by kernel_rfl) (by rfl) (by simp [Value.oneCell']) (fun hres1 hcur => ?_)
    refine hK.out _ _ hcur (fun _ => ?_)
  | go_simp
    refine hK.out _ _ (by (with_reducible (repeat' (first | assumption | apply jG | apply jH | apply jI | apply jJ | apply jK | apply hb3x | omega | (simp; done) | (simp; omega) | (dsimp only; omega))))) (fun hcur => ?_)
  | obtain ⟨u0, v0, z0⟩ := bx_cell0 hcur (Blk.below k0 hwb) (by simp)
    go_simp
    refine hK.out _ _ (by (with_reducible (repeat' (first | assumption | apply jG | apply jH | apply jI | apply jJ | apply jK | apply hb3x | omega | (simp; done) | (simp; omega) | (dsimp only; omega))))) (fun hcur => ?_)
  | obtain ⟨u0, v0, z0⟩ := bx_cell0 (X := [g4]) (w0 := wb) (by with_reducible first | assumption | exact bx_refl _ _) r4 (by simp)
    go_simp
    refine hK.out _ _ (by (with_reducible (repeat' (first | assumption | apply jG | apply jH | apply jI | apply jJ | apply jK | apply hb3x | omega | (simp; done) | (simp; omega) | (dsimp only; omega))))) (fun hcur => ?_)
  clear hK K
  try simp only [Act.put, List.setIfInBounds_toArray, List.set_cons_zero, List.set_cons_succ]
  refine PlanW.done ?_
  have hb3 := bl_tt hwb
  first
  | apply absB2 (w0 := w) (g0 := w.heap.size) (g1 := g4)
  | apply absTB2 (w0 := w) (g0 := w.heap.size) (g1 := g4)
  | apply absIB2 (w0 := w) (g0 := w.heap.size) (g1 := g4)
  iterate 3 (focus ((with_reducible (repeat' (first | assumption | apply jA | apply jB | apply jC | apply jD | apply jE | apply jF | apply hb3 | apply jG | apply jH | apply jI | apply jJ | apply jK | apply hb3x | (apply jL; first | (simp; done) | rfl) | apply jM | apply jN | apply jO | apply jP | apply jQ | apply jR | apply jS | apply jT (hb := hb3 _ (jA _)) | omega | (simp; done) | (simp; omega) | (dsimp only; omega)))); done))
  intro wc hb0' k0' k1'
  (try simp only [List.setIfInBounds_toArray, List.set_cons_zero, List.set_cons_succ] at k0' k1')
  try clear hb3
  try clear Lk0
  try clear Fk0
  try clear Qk0
  try clear hb0
  try clear k0
  try clear k1
  have hb0 := hb0'; clear hb0'
  have k0 := k0'; clear k0'
  have k1 := k1'; clear k1'
  have L0 := k0.cell
  clear hso1 hwo1
  go_wp2_with fail
  refine (hix1.out _ _ hb0 k1).mono ?_
  rintro e w5 ⟨rfl, hb5⟩
  replace hb0 := bl_tr hb0 hb5
  clear L0 hb5 hix1 k0 k1
  go_wp2_with (go_at_call 78; (with_reducible refine (c_unless _ _ _).mono ?_); rintro e w3 ⟨rfl, rfl⟩)
  go_ret2
  exact ⟨by rw [hR.out] <;> rfl, hb0⟩
/-! ### The smallest number. -/
def minS : List Int → Int
  | [] => 0
  | x :: l => l.foldl min x
theorem minS_next {l : List Int} {k : Nat} {x : Int} (hx : l[k]? = some x) (hk : 0 < k) : minS (l.take (k + 1)) = min (minS (l.take k)) x := by
  rw [List.take_add_one, hx]
  cases l with
  | nil => simp at hx
  | cons y l =>
    obtain ⟨j, rfl⟩ : ∃ j, k = j + 1 := ⟨k - 1, by omega⟩
    rw [List.take_succ_cons]
    simp [minS, List.foldl_append]
set_option maxHeartbeats 2000000 in
theorem c_Min (l : List Int) (A : Option Addr) (c : Nat) (w : World) (hs : Sl cI 1 w A l) (hl : l.length ≤ 1000) (h0 : 0 < l.length) :
    Calls Tryd.prog 91 #[.slice A l.length c] w (Same (.int .i64 (minS l)) w) := by
  have Hs := Lib.hid hs
  have hst := Lib.hid fun (k : Nat) (x : Int) (hx : l[k]? = some x) (hk : 0 < k) => minS_next hx hk
  have hend : Hid (minS (l.take l.length) = minS l) := Lib.hid (by rw [List.take_length])
  have hx : l[0]? = some l[0] := List.getElem?_eq_getElem h0
  have h1 : Hid (minS (l.take 1) = l[0]) := Lib.hid (by rw [List.take_add_one, hx]; rfl)
  generalize l[0] = x0 at *
  obtain ⟨b, off, rfl, hc⟩ := Hs.out 0 x0 hx
  have c0 : w.cell? ⟨b, off, none⟩ = some (.int .i64 x0) := by simpa using hc 0 _ rfl
  obtain ⟨g, hg⟩ : ∃ g : Nat → Int, ∀ k, minS (l.take k) = g k := ⟨_, fun _ => rfl⟩
  simp only [hg] at hst hend h1
  clear hg hc hs hx
  obtain ⟨n, Hn⟩ : ∃ n, Hid (l.length = n) := ⟨_, rfl⟩
  rw [Hn.out] at hl h0 hend ⊢
  generalize minS l = R at *
  have hn1 : ¬ (n : Int) < 1 := by omega
  have hn2 : (0 : Int) < n := by omega
  go_enter Tryd.func91, Tryd.ntmps91
  go_wp2
  go_loopw [3, 4] (fun m i wr => ∃ k : Nat, 1 ≤ k ∧ k ≤ n ∧ i = .int .i64 k ∧ m = .int .i64 (g k) ∧ w = wr) (fun _ i _ => n - (intOf i).toNat)
  case atStart => exact ⟨1, Nat.le_refl _, h0, rfl, by rw [h1.out], rfl⟩
  case round =>
    obtain ⟨k, hk1, hk, rfl, rfl, rfl⟩ := hrel
    by_cases hkn : k < n
    · have hx : l[k]? = some (l[k]'(by rw [Hn.out]; exact hkn)) := List.getElem?_eq_getElem _
      generalize l[k]'(by rw [Hn.out]; exact hkn) = x at hx
      obtain ⟨b2, o2, e2, hc⟩ := Hs.out k x hx
      cases e2
      have c1 : w.cell? ⟨b, off + k, none⟩ = some (.int .i64 x) := by simpa using hc 0 _ rfl
      have hs := Lib.hid (hst.out k x hx (by omega))
      clear hc hx
      go_wp2
      go_roundw
      case rel => exact ⟨k + 1, by omega, by omega, by go_num, by rw [hs.out], by trivial⟩
      case measure => simp [intOf]; omega
    · obtain rfl : n = k := by omega
      go_wp2
      go_ret
      exact ⟨by rw [← hend.out] <;> rfl, rfl⟩
/-! ### The margin. -/
def szS (n : Nt) (needs : List Int) : List Int := needs.map fun x => match n.fs[x.toNat]? with
  | some f => ((sizeS (cutS f n.ps.length) : Nat) : Int)
  | none => 0
theorem szS_len (n : Nt) (needs : List Int) : (szS n needs).length = needs.length := by simp [szS]
theorem szS_at {n : Nt} {needs : List Int} {k : Nat} {x : Int} {f : Fu} (hx : needs[k]? = some x) (hf : n.fs[x.toNat]? = some f) : (szS n needs)[k]? = some ((sizeS (cutS f n.ps.length) : Nat) : Int) := by
  unfold szS
  rw [List.getElem?_map, hx]
  simp [hf]
def marE (n : Nt) (m : Int) : Int := fstE [netErr n, unl (inR m 0 ((n.ms.length : Int) - 1)) 6]
def marR (n : Nt) (m : Int) : Int × Int := if marE n m = 0 then (match n.ms[m.toNat]? with
    | some d => if d.r.l.length = 0 then (0, 12) else (minS (szS n d.r.l), 0)
    | none => (0, 0)) else (0, marE n m)
theorem cut_lt {f : Fu} {p : Nat} (hp : p ≤ 10) : cutS f p < 1024 := by
  have h2N : 2 ^ p ≤ 1024 := Nat.le_trans (Nat.pow_le_pow_right (by decide) hp) (by decide)
  have h1N := Nat.two_pow_pos p
  exact cutTo_lt _ _ _ (by omega) h2N
set_option maxHeartbeats 8000000 in
theorem c_MarginOf (n : Nt) (m : Int) (Ap Af Am : Option Addr) (cp cf cm : Nat) (w : World) (hn : NtIn n Ap Af Am cp cf cm w) (hT : Tab w) :
    Calls Tryd.prog 35 #[vNt Ap Af Am n.ps.length n.fs.length n.ms.length cp cf cm, .int .i64 m] w (Ret (.tuple #[.int .i64 (marR n m).1, .int .i64 (marR n m).2]) w) := by
  obtain ⟨i0, hi, hz0, hz1, hz2⟩ := info_parts infoI
  have hc := Lib.hid fun W (hb : Below w.heap.size w W) => c_netErr n Ap Af Am cp cf cm W (hn.below hb)
  have g1 := hn.plen
  have g3 := hn.mlen
  have hE : Hid (fstE [netErr n, unl (inR m 0 ((n.ms.length : Int) - 1)) 6] = marE n m) := rfl
  have h1 : Hid (marE n m ≠ 0 → marR n m = (0, marE n m)) := fun h => by rw [marR, if_neg h]
  have hok : Hid (marE n m = 0 → (0 ≤ m ∧ m < n.ms.length) ∧ ∃ d : Md, n.ms[m.toNat]? = some d ∧ MdIn d w ∧ (d.r.l.length = 0 → marR n m = (0, 12)) ∧ (d.r.l.length ≠ 0 → marR n m = (minS (szS n d.r.l), 0)) ∧
      (∃ b off, Am = some ⟨b, off, none⟩ ∧ ∀ W, Below w.heap.size w W → W.cell? ⟨b, off + m.toNat * 2 + 1, none⟩ = some (vRw d.r)) ∧
      ∀ (k : Nat) (x : Int), d.r.l[k]? = some x → ∃ j : Nat, x = j ∧ j < n.fs.length ∧ ∃ (f : Fu) (s : Nat), (szS n d.r.l)[k]? = some (s : Int) ∧ s ≤ 1024 ∧ (∀ W, Below w.heap.size w W → Calls Tryd.prog 86 #[vFu f, .int .i64 n.ps.length] W (Ret (.int .u64 (cutS f n.ps.length : Nat)) W)) ∧
        (∀ W, Calls Tryd.prog 90 #[.int .u64 (cutS f n.ps.length : Nat)] W (Same (.int .i64 (s : Nat)) W)) ∧ ∃ b off, Af = some ⟨b, off, none⟩ ∧ ∀ W, Below w.heap.size w W → W.cell? ⟨b, off + j * 2, none⟩ = some (.string f.name) ∧ W.cell? ⟨b, off + j * 2 + 1, none⟩ = some (.slice f.A f.ws.length f.c)) := fun h0 => by
    obtain ⟨e1, e2⟩ := (fst_cons _ _).1 h0
    obtain ⟨e3, -⟩ := (fst_cons _ _).1 e2
    have e4 := (unl_zero (by decide)).1 e3
    simp [inR] at e4
    obtain ⟨o1, o2, o3⟩ := netErr_ok e1
    have hk : m.toNat < n.ms.length := by omega
    have hd : n.ms[m.toNat]? = some n.ms[m.toNat] := List.getElem?_eq_getElem hk
    generalize n.ms[m.toNat] = d at hd
    have hm := List.mem_of_getElem? hd
    obtain ⟨b, off, eA, hcc⟩ := hn.msl m.toNat d hd
    refine ⟨by omega, d, hd, hn.min d hm, fun h => by rw [marR, if_pos h0, hd]; simp [h], fun h => by rw [marR, if_pos h0, hd]; simp [h], ⟨b, off, eA, fun W hb => kcell hb (hcc 1 _ rfl)⟩, fun k x hx => ?_⟩
    have hxb := (net_md e1).2 d hm x (List.mem_of_getElem? hx)
    have hf : n.fs[x.toNat]? = some (n.fs[x.toNat]'(by omega)) := List.getElem?_eq_getElem _
    generalize n.fs[x.toNat]'(by omega) = f at hf
    have hfm := List.mem_of_getElem? hf
    have hfo : FuOk f := fun r hr y hy => by have := o3 f hfm r hr y hy; omega
    obtain ⟨b2, off2, eA2, hc2⟩ := hn.fsl x.toNat f hf
    have hlt := cut_lt (f := f) o1
    refine ⟨x.toNat, by omega, by omega, f, sizeS (cutS f n.ps.length), szS_at hx hf, ?_, fun W hb => c_cut f n.ps.length W ((hn.fin f hfm).below hb) hfo o1 (hT.below hb), fun W => c_size _ W hlt, b2, off2, eA2, fun W hb => ⟨?_, ?_⟩⟩
    · have := listS_len (cutS f n.ps.length)
      unfold sizeS
      omega
    · have := kcell hb (hc2 0 _ rfl); exact this
    · have := kcell hb (hc2 1 _ rfl); exact this
  have hsl := Lib.hid fun needs => szS_len n needs
  clear hn hT
  change Calls Tryd.prog 35 #[.agg #[.slice Ap n.ps.length cp, .slice Af n.fs.length cf, .slice Am n.ms.length cm], .int .i64 m] w _
  dsimp only [vNt, aNt] at hc
  obtain ⟨sz, hsz⟩ : ∃ sz : List Int → List Int, ∀ l, szS n l = sz l := ⟨_, fun _ => rfl⟩
  simp only [hsz] at hok hsl
  clear hsz
  generalize netErr n = ne at *
  generalize marE n m = ce at *
  generalize marR n m = R at *
  generalize n.ps.length = np at *
  generalize n.fs.length = nf at *
  generalize n.ms.length = nm at *
  go_enter Tryd.func35, Tryd.ntmps35
  go_upto_region 1 with fail
  first
  | apply absB1 (w0 := w) (g0 := w.heap.size)
  | apply absTB1 (w0 := w) (g0 := w.heap.size)
  | apply absIB1 (w0 := w) (g0 := w.heap.size)
  iterate 2 (focus ((with_reducible (repeat' (first | assumption | apply jA | apply jB | apply jC | apply jD | apply jE | apply jF | apply hb3 | apply jG | apply jH | apply jI | apply jJ | apply jK | apply hb3x | (apply jL; first | (simp; done) | rfl) | apply jM | apply jN | apply jO | apply jP | apply jQ | apply jR | apply jS | apply jT (hb := hb3 _ (jA _)) | omega | (simp; done) | (simp; omega) | (dsimp only; omega)))); done))
  intro wa hb0' k0'
  (try simp only [List.setIfInBounds_toArray, List.set_cons_zero, List.set_cons_succ] at k0')
  try clear hb3
  try clear hb0
  try clear k0
  have hb0 := hb0'; clear hb0'
  have k0 := k0'; clear k0'
  have Lk0 := k0.later
  have Fk0 := k0.laterF
  have Qk0 := k0.lt
  refine wp_any (w0 := wa) ⟨[], [], [some 10, some 11, some 12, some 13, some 14, some 15, some 16, some 17, some 18, some 19, some 20, some 6], [[], [0], [], [], [3], [3, 4], [3, 4, 5], [0, 1, 2, 3, 4, 5, 6], [0, 1, 2, 3, 4, 5, 6, 7], [0, 1, 2, 3, 4, 5, 6, 7, 8], [0, 1, 2, 3, 4, 5, 6, 7, 8, 9], [0, 1, 2, 3, 4, 5, 6, 7, 8, 9, 10]], [[], [0], [], [], [3], [4], [5], [2, 6], [7], [1, 8], [9], [9, 10]]⟩ (fun _ => []) (by kernel_rfl) (by kernel_rfl) (by (with_reducible (repeat' (first | assumption | apply jA | apply jB | apply jC | apply jD | apply jE | apply jF | apply hb3 | omega | (simp; done) | (simp; omega) | (dsimp only; omega))))) (fun u => by simp only [putD, Act.put, List.setIfInBounds_toArray, List.set_cons_zero, List.set_cons_succ, Nat.zero_add, Nat.reduceAdd]; rfl) ?_
  apply RGW.on (i := 0) rfl
  · (simp only [gA, gB, gC] <;> rfl)
  · intro γ u W hcur hd
    clear hd
    (try dsimp only)
    refine ⟨rfl, ?_⟩
    go_simp <;> (try go_bits) <;> with_reducible rfl
  · exact fun _ _ _ => rfl
  · rfl
  dsimp only [nA, cA]
  apply RGW.call (i := 1) rfl
  · (simp only [gA, gB, gC] <;> rfl)
  · intro γ u W hcur hd
    obtain ⟨⟨h0, -, -⟩, -⟩ := hd
    dsimp only at h0
    (try simp only [h0])
    refine ⟨rfl, fun K hK => ?_⟩
    go_simp
    first
    | (go_at_call 85; (with_reducible refine (hc.out _ (bl_tr hb0 hcur)).mono ?_); rintro e w3 ⟨rfl, hb3⟩; replace hb3 := bl_tt hb3)
    | (go_at_call 74; (with_reducible refine (c_within _ _ _ _).mono ?_); rintro e w3 ⟨rfl, rfl⟩)
    | (go_at_call 78; (with_reducible refine (c_unless _ _ _).mono ?_); rintro e w3 ⟨rfl, rfl⟩)
    | (go_at_call 77; (with_reducible refine (c_first2 (by (with_reducible (repeat' (first | assumption | (apply jL; first | (simp; done) | rfl) | apply jM | apply jN | apply jO | apply jP | apply jQ | apply jR | apply jS | apply jT (hb := hb3 _ (jA _)) | omega | (simp; done) | (simp; omega) | (dsimp only; omega)))))).mono ?_); rintro e w3 ⟨rfl, rfl⟩)
    (try dsimp only)
    exact hK.out _ _ rfl (by (with_reducible (repeat' (first | assumption | apply jA | apply jB | apply jC | apply jD | apply jE | apply jF | apply hb3 | omega | (simp; done) | (simp; omega) | (dsimp only; omega)))))
  · exact fun _ _ _ => rfl
  · rfl
  dsimp only [nA, cA]
  apply RGW.on (i := 2) rfl
  · (simp only [gA, gB, gC] <;> rfl)
  · intro γ u W hcur hd
    clear hd
    (try dsimp only)
    refine ⟨rfl, ?_⟩
    go_simp <;> (try go_bits) <;> with_reducible rfl
  · exact fun _ _ _ => rfl
  · rfl
  dsimp only [nA, cA]
  apply RGW.on (i := 3) rfl
  · (simp only [gA, gB, gC] <;> rfl)
  · intro γ u W hcur hd
    clear hd
    (try dsimp only)
    refine ⟨rfl, ?_⟩
    go_simp <;> (try go_bits) <;> with_reducible rfl
  · exact fun _ _ _ => rfl
  · rfl
  dsimp only [nA, cA]
  apply RGW.on (i := 4) rfl
  · (simp only [gA, gB, gC] <;> rfl)
  · intro γ u W hcur hd
    obtain ⟨⟨h3, -, -⟩, -⟩ := hd
    dsimp only at h3
    (try simp only [h3])
    refine ⟨rfl, ?_⟩
    go_simp <;> (try go_bits) <;> with_reducible rfl
  · exact fun _ _ _ => rfl
  · rfl
  dsimp only [nA, cA]
  apply RGW.on (i := 5) rfl
  · (simp only [gA, gB, gC] <;> rfl)
  · intro γ u W hcur hd
    obtain ⟨⟨h4, -, -⟩, -⟩ := hd
    dsimp only at h4
    (try simp only [h4])
    refine ⟨rfl, ?_⟩
    go_simp <;> (try go_bits) <;> with_reducible rfl
  · exact fun _ _ _ => rfl
  · rfl
  dsimp only [nA, cA]
  apply RGW.on (i := 6) rfl
  · (simp only [gA, gB, gC] <;> rfl)
  · intro γ u W hcur hd
    obtain ⟨⟨h5, -, -⟩, -⟩ := hd
    dsimp only at h5
    (try simp only [h5])
    refine ⟨rfl, ?_⟩
    go_simp <;> (try go_bits) <;> with_reducible rfl
  · exact fun _ _ _ => rfl
  · rfl
  dsimp only [nA, cA]
  apply RGW.call (i := 7) rfl
  · (simp only [gA, gB, gC] <;> rfl)
  · intro γ u W hcur hd
    obtain ⟨⟨h2, -, -⟩, ⟨h6, -, -⟩, -⟩ := hd
    dsimp only at h2 h6
    (try simp only [h2, h6])
    refine ⟨rfl, fun K hK => ?_⟩
    go_simp
    first
    | (go_at_call 85; (with_reducible refine (hc.out _ (bl_tr hb0 hcur)).mono ?_); rintro e w3 ⟨rfl, hb3⟩; replace hb3 := bl_tt hb3)
    | (go_at_call 74; (with_reducible refine (c_within _ _ _ _).mono ?_); rintro e w3 ⟨rfl, rfl⟩)
    | (go_at_call 78; (with_reducible refine (c_unless _ _ _).mono ?_); rintro e w3 ⟨rfl, rfl⟩)
    | (go_at_call 77; (with_reducible refine (c_first2 (by (with_reducible (repeat' (first | assumption | (apply jL; first | (simp; done) | rfl) | apply jM | apply jN | apply jO | apply jP | apply jQ | apply jR | apply jS | apply jT (hb := hb3 _ (jA _)) | omega | (simp; done) | (simp; omega) | (dsimp only; omega)))))).mono ?_); rintro e w3 ⟨rfl, rfl⟩)
    (try dsimp only)
    exact hK.out _ _ rfl (by (with_reducible (repeat' (first | assumption | apply jA | apply jB | apply jC | apply jD | apply jE | apply jF | apply hb3 | omega | (simp; done) | (simp; omega) | (dsimp only; omega)))))
  · exact fun _ _ _ => rfl
  · rfl
  dsimp only [nA, cA]
  apply RGW.call (i := 8) rfl
  · (simp only [gA, gB, gC] <;> rfl)
  · intro γ u W hcur hd
    obtain ⟨⟨h7, -, -⟩, -⟩ := hd
    dsimp only at h7
    (try simp only [h7])
    refine ⟨rfl, fun K hK => ?_⟩
    go_simp
    first
    | (go_at_call 85; (with_reducible refine (hc.out _ (bl_tr hb0 hcur)).mono ?_); rintro e w3 ⟨rfl, hb3⟩; replace hb3 := bl_tt hb3)
    | (go_at_call 74; (with_reducible refine (c_within _ _ _ _).mono ?_); rintro e w3 ⟨rfl, rfl⟩)
    | (go_at_call 78; (with_reducible refine (c_unless _ _ _).mono ?_); rintro e w3 ⟨rfl, rfl⟩)
    | (go_at_call 77; (with_reducible refine (c_first2 (by (with_reducible (repeat' (first | assumption | (apply jL; first | (simp; done) | rfl) | apply jM | apply jN | apply jO | apply jP | apply jQ | apply jR | apply jS | apply jT (hb := hb3 _ (jA _)) | omega | (simp; done) | (simp; omega) | (dsimp only; omega)))))).mono ?_); rintro e w3 ⟨rfl, rfl⟩)
    (try dsimp only)
    exact hK.out _ _ rfl (by (with_reducible (repeat' (first | assumption | apply jA | apply jB | apply jC | apply jD | apply jE | apply jF | apply hb3 | omega | (simp; done) | (simp; omega) | (dsimp only; omega)))))
  · exact fun _ _ _ => rfl
  · rfl
  dsimp only [nA, cA]
  apply RGW.bslice (i := 9) rfl
  · (simp only [gA, gB, gC] <;> rfl)
  · intro γ u W hcur hd
    obtain ⟨⟨h1, -, -⟩, ⟨h8, -, -⟩, -⟩ := hd
    dsimp only at h1 h8
    (try simp only [h1, h8])
    refine ⟨rfl, fun K hK => ?_⟩
    go_simp
    exact hK.out _ _ rfl rfl
  · exact fun _ _ _ => rfl
  · rfl
  · rfl
  dsimp only [nA, cA]
  apply RGW.call (i := 10) rfl
  · (simp only [gA, gB, gC] <;> rfl)
  · intro γ u W hcur hd
    obtain ⟨⟨h9, r9, -⟩, -⟩ := hd
    dsimp only at h9 r9
    have L9 := r9.cell
    (try simp only [h9])
    refine ⟨rfl, fun K hK => ?_⟩
    go_simp
    first
    | (go_at_call 85; (with_reducible refine (hc.out _ (bl_tr hb0 hcur)).mono ?_); rintro e w3 ⟨rfl, hb3⟩; replace hb3 := bl_tt hb3)
    | (go_at_call 74; (with_reducible refine (c_within _ _ _ _).mono ?_); rintro e w3 ⟨rfl, rfl⟩)
    | (go_at_call 78; (with_reducible refine (c_unless _ _ _).mono ?_); rintro e w3 ⟨rfl, rfl⟩)
    | (go_at_call 77; (with_reducible refine (c_first2 (by (with_reducible (repeat' (first | assumption | (apply jL; first | (simp; done) | rfl) | apply jM | apply jN | apply jO | apply jP | apply jQ | apply jR | apply jS | apply jT (hb := hb3 _ (jA _)) | omega | (simp; done) | (simp; omega) | (dsimp only; omega)))))).mono ?_); rintro e w3 ⟨rfl, rfl⟩)
    (try dsimp only)
    exact hK.out _ _ rfl (by (with_reducible (repeat' (first | assumption | apply jA | apply jB | apply jC | apply jD | apply jE | apply jF | apply hb3 | omega | (simp; done) | (simp; omega) | (dsimp only; omega)))))
  · first
    | exact fun _ _ _ => rfl
    | intro γ γ' hg
      try dsimp only
      have e9 := hg 9 (by decide)
      simp only [e9]
  · rfl
  dsimp only [nA, cA]
  apply RGW.on (i := 11) rfl
  · (simp only [gA, gB, gC] <;> rfl)
  · intro γ u W hcur hd
    obtain ⟨⟨h9, r9, -⟩, ⟨h10, -, -⟩, -⟩ := hd
    dsimp only at h9 h10 r9
    have L9 := r9.cell
    (try simp only [h9, h10])
    refine ⟨rfl, ?_⟩
    go_simp <;> (try go_bits) <;> with_reducible rfl
  · first
    | exact fun _ _ _ => rfl
    | intro γ γ' hg
      try dsimp only
      have e9 := hg 9 (by decide)
      simp only [e9]
  · rfl
  dsimp only [nA, cA]
  refine RGW.fin (fun γ u wb hwb hd hdis => ?_)
  obtain ⟨⟨h0, -, -⟩, ⟨h1, -, -⟩, ⟨h2, -, -⟩, ⟨h3, -, -⟩, ⟨h4, -, -⟩, ⟨h5, -, -⟩, ⟨h6, -, -⟩, ⟨h7, -, -⟩, ⟨h8, -, -⟩, ⟨h9, r9, b9⟩, ⟨h10, -, -⟩, ⟨h11, -, -⟩, -⟩ := hd
  dsimp only at h0 h1 h2 h3 h4 h5 h6 h7 h8 h9 h10 h11 r9 b9
  clear hdis
  simp only [h0, h1, h2, h3, h4, h5, h6, h7, h8, h9, h10, h11]
  clear h11 h10 h9 h8 h7 h6 h5 h4 h3 h2 h1 h0
  replace b9 := b9 _ (List.mem_singleton.2 rfl)
  generalize hγ9 : (γ 9).n = g9 at *
  clear hγ9
  clear u
  simp only [List.map_nil]
  refine PlanW.done ?_
  have hb3 := bl_tt hwb
  rw [hE.out]
  first
  | apply absB1 (w0 := w) (g0 := w.heap.size)
  | apply absTB1 (w0 := w) (g0 := w.heap.size)
  | apply absIB1 (w0 := w) (g0 := w.heap.size)
  iterate 2 (focus ((with_reducible (repeat' (first | assumption | apply jA | apply jB | apply jC | apply jD | apply jE | apply jF | apply hb3 | apply jG | apply jH | apply jI | apply jJ | apply jK | apply hb3x | (apply jL; first | (simp; done) | rfl) | apply jM | apply jN | apply jO | apply jP | apply jQ | apply jR | apply jS | apply jT (hb := hb3 _ (jA _)) | omega | (simp; done) | (simp; omega) | (dsimp only; omega)))); done))
  intro wc hb0' k0'
  (try simp only [List.setIfInBounds_toArray, List.set_cons_zero, List.set_cons_succ] at k0')
  try clear hb3
  try clear Lk0
  try clear Fk0
  try clear Qk0
  try clear hb0
  try clear k0
  have hb0 := hb0'; clear hb0'
  have k0 := k0'; clear k0'
  by_cases h0 : ce = 0
  rotate_left
  · have hR := Lib.hid (h1.out h0)
    go_wp2
    go_ret2
    exact ⟨by rw [hR.out] <;> rfl, by (with_reducible (repeat' (first | assumption | apply jA | apply jB | apply jC | apply jD | apply jE | apply jF | apply hb3 | omega | (simp; done) | (simp; omega) | (dsimp only; omega))))⟩
  obtain ⟨⟨hk0, hk1⟩, d, -, hdi, hr0, hr1, ⟨b, off, rfl, hcell⟩, hrd⟩ := hok.out h0
  clear hok hc hE h1
  obtain ⟨mi, rfl⟩ : ∃ mi : Nat, m = mi := ⟨m.toNat, by omega⟩
  rw [Int.toNat_natCast] at hcell
  subst h0
  have hnl := hdi.row.len
  have hns := Lib.hid hdi.row.sl
  have hsl1 := Lib.hid (hsl.out d.r.l)
  replace hr0 := Lib.hid hr0
  replace hr1 := Lib.hid hr1
  replace hrd := Lib.hid hrd
  have L0 := k0.cell
  have hx0 := hcell wc hb0
  dsimp only [vRw] at hx0
  clear hcell hdi hsl
  generalize sz d.r.l = Z at *
  generalize hdl : d.r.l = dl at *
  generalize hdA : d.r.A = dA at *
  generalize hdc : d.r.c = dc at *
  clear hdl hdA hdc
  obtain ⟨nd, Hn⟩ : ∃ k, Hid (dl.length = k) := ⟨_, rfl⟩
  rw [Hn.out] at hnl hr0 hr1 hsl1 hx0
  go_wp2
  clear L0 hx0
  go_loopw [7, 31] (fun v i wr => ∃ k : Nat, k ≤ nd ∧ i = .int .i64 k ∧ Below w.heap.size w wr ∧ Blk wr w.heap.size 61 #[.slice Ap np cp, .slice Af nf cf, .slice (some ⟨b, off, none⟩) nm cm] ∧ wr.ownsRow (w.heap.size + 1) 3 1 v k ((Z.take k).map (.int .i64))) (fun _ i _ => nd - (intOf i).toNat)
  case atStart => exact ⟨0, Nat.zero_le _, rfl, hb0, k0, World.ownsRow_nil _ _ _ _⟩
  case round =>
    clear hb0 k0
    obtain ⟨k, hk, rfl, hb0, k0, ho⟩ := hrel
    replace ho := Lib.hid ho
    by_cases hkn : k < nd
    rotate_left
    · obtain rfl : nd = k := by omega
      by_cases hz : nd = 0
      · subst hz
        have hR := Lib.hid (hr0.out rfl)
        have hv : u7 = .slice none 0 0 ∨ ∃ A c, u7 = .slice A 0 c := by
          rcases ho.out.2 with ⟨h, _⟩ | ⟨g, cap, cur, h, _⟩
          · exact .inl h
          · exact .inr ⟨_, _, h⟩
        rcases hv with rfl | ⟨A, c, rfl⟩
        · go_wp2
          go_ret2
          exact ⟨by rw [hR.out] <;> rfl, hb0⟩
        · go_wp2
          go_ret2
          exact ⟨by rw [hR.out] <;> rfl, hb0⟩
      · have hR := Lib.hid (hr1.out hz)
        obtain ⟨A5, c5, hv⟩ := own_slice ho.out
        subst hv
        have hlZ : Z.length = nd := hsl1.out
        have hsZ : Sl cI 1 wr A5 Z := own_sl (by
          have h5 := ho.out
          rw [List.take_of_length_le (by omega)] at h5
          rw [hlZ]
          exact h5)
        have hmin := Lib.hid (c_Min Z A5 c5 wr hsZ (by omega) (by omega))
        rw [hlZ] at hmin
        have hz' : ((nd : Int) == 0) = false := by simp; omega
        clear hsZ hlZ
        go_wp2_with fail
        refine hmin.out.mono ?_
        rintro e w9 ⟨rfl, rfl⟩
        go_wp2
        go_ret2
        exact ⟨by rw [hR.out] <;> rfl, hb0⟩
    have hx : dl[k]? = some (dl[k]'(by rw [Hn.out]; exact hkn)) := List.getElem?_eq_getElem _
    generalize dl[k]'(by rw [Hn.out]; exact hkn) = x at hx
    obtain ⟨j, rfl, hj, f, s, hzs, hs4, hcu, hsi, b2, o2, rfl, hcl⟩ := hrd.out k x hx
    obtain ⟨b3, o3, rfl, hc3⟩ := hns.out k _ hx
    have c0 : wr.cell? ⟨b3, o3 + k, none⟩ = some (.int .i64 j) := by simpa using kcell hb0 (hc3 0 _ rfl)
    have d0 : ∀ W, Below wr.heap.size wr W → W.cell? ⟨b2, o2 + j * 2, none⟩ = some (.string f.name) := fun W hb => (hcl W (bl_tr hb0 hb)).1
    have d1 : ∀ W, Below wr.heap.size wr W → W.cell? ⟨b2, o2 + j * 2 + 1, none⟩ = some (.slice f.A f.ws.length f.c) := fun W hb => (hcl W (bl_tr hb0 hb)).2
    replace hcu := Lib.hid hcu
    replace hsi := Lib.hid hsi
    dsimp only [vFu] at hcu
    have hzn := Lib.hid (show Z.take (k + 1) = Z.take k ++ [(s : Int)] by rw [List.take_add_one, hzs]; rfl)
    clear hx hc3 hcl hzs
    generalize cutS f np = C at *
    generalize f.name = fn at *
    generalize f.A = fA at *
    generalize f.ws.length = fl at *
    generalize f.c = fc at *
    have hj2 : (j : Int) < nf := by omega
    go_upto_region 8 with fail
    clear c0
    have Lk0 := k0.later
    have Fk0 := k0.laterF
    have Qk0 := k0.lt
    refine wp_any (w0 := wr) ⟨[12, 13], [], [some 35, some 36, some 37, some 38, some 39, some 40, some 41, some 42, some 43, some 44, some 45, some 46, none, none], [[], [], [1], [], [1, 2, 3], [1, 2, 3, 4], [], [6], [6, 7], [1, 2, 3, 4, 5, 6, 7, 8], [1, 2, 3, 4, 5, 6, 7, 8, 9], [1, 2, 3, 4, 5, 6, 7, 8, 9, 10], [0, 1, 2, 3, 4, 5, 6, 7, 8, 9, 10, 11], [0, 1, 2, 3, 4, 5, 6, 7, 8, 9, 10, 11, 12]], [[], [], [1], [], [2, 3], [4], [], [6], [7], [5, 8], [9], [10], [], []]⟩ (fun _ => ownL u7) (by kernel_rfl) (by kernel_rfl) (by (with_reducible (repeat' (first | assumption | apply jA | apply jB | apply jC | apply jD | apply jE | apply jF | apply hb3 | omega | (simp; done) | (simp; omega) | (dsimp only; omega))))) (fun u => by simp only [putD, Act.put, List.setIfInBounds_toArray, List.set_cons_zero, List.set_cons_succ, Nat.zero_add, Nat.reduceAdd]; rfl) ?_
    apply RGW.on (i := 0) rfl
    · (simp only [gA, gB, gC] <;> rfl)
    · intro γ u W hcur hd
      clear hd
      (try dsimp only)
      refine ⟨rfl, ?_⟩
      go_simp <;> (try go_bits) <;> with_reducible rfl
    · exact fun _ _ _ => rfl
    · rfl
    dsimp only [nA, cA]
    apply RGW.on (i := 1) rfl
    · (simp only [gA, gB, gC] <;> rfl)
    · intro γ u W hcur hd
      clear hd
      (try dsimp only)
      refine ⟨rfl, ?_⟩
      go_simp <;> (try go_bits) <;> with_reducible rfl
    · exact fun _ _ _ => rfl
    · rfl
    dsimp only [nA, cA]
    apply RGW.on (i := 2) rfl
    · (simp only [gA, gB, gC] <;> rfl)
    · intro γ u W hcur hd
      obtain ⟨⟨h1, -, -⟩, -⟩ := hd
      dsimp only at h1
      (try simp only [h1])
      refine ⟨rfl, ?_⟩
      go_simp <;> (try go_bits) <;> with_reducible rfl
    · exact fun _ _ _ => rfl
    · rfl
    dsimp only [nA, cA]
    apply RGW.on (i := 3) rfl
    · (simp only [gA, gB, gC] <;> rfl)
    · intro γ u W hcur hd
      clear hd
      (try dsimp only)
      refine ⟨rfl, ?_⟩
      go_simp <;> (try go_bits) <;> with_reducible rfl
    · exact fun _ _ _ => rfl
    · rfl
    dsimp only [nA, cA]
    apply RGW.on (i := 4) rfl
    · (simp only [gA, gB, gC] <;> rfl)
    · intro γ u W hcur hd
      obtain ⟨⟨h2, -, -⟩, ⟨h3, -, -⟩, -⟩ := hd
      dsimp only at h2 h3
      (try simp only [h2, h3])
      refine ⟨rfl, ?_⟩
      go_simp <;> (try go_bits) <;> with_reducible rfl
    · exact fun _ _ _ => rfl
    · rfl
    dsimp only [nA, cA]
    apply RGW.on (i := 5) rfl
    · (simp only [gA, gB, gC] <;> rfl)
    · intro γ u W hcur hd
      obtain ⟨⟨h4, -, -⟩, -⟩ := hd
      dsimp only at h4
      (try simp only [h4])
      refine ⟨rfl, ?_⟩
      go_simp <;> (try go_bits) <;> with_reducible rfl
    · exact fun _ _ _ => rfl
    · rfl
    dsimp only [nA, cA]
    apply RGW.on (i := 6) rfl
    · (simp only [gA, gB, gC] <;> rfl)
    · intro γ u W hcur hd
      clear hd
      (try dsimp only)
      refine ⟨rfl, ?_⟩
      go_simp <;> (try go_bits) <;> with_reducible rfl
    · exact fun _ _ _ => rfl
    · rfl
    dsimp only [nA, cA]
    apply RGW.on (i := 7) rfl
    · (simp only [gA, gB, gC] <;> rfl)
    · intro γ u W hcur hd
      obtain ⟨⟨h6, -, -⟩, -⟩ := hd
      dsimp only at h6
      (try simp only [h6])
      refine ⟨rfl, ?_⟩
      go_simp <;> (try go_bits) <;> with_reducible rfl
    · exact fun _ _ _ => rfl
    · rfl
    dsimp only [nA, cA]
    apply RGW.on (i := 8) rfl
    · (simp only [gA, gB, gC] <;> rfl)
    · intro γ u W hcur hd
      obtain ⟨⟨h7, -, -⟩, -⟩ := hd
      dsimp only at h7
      (try simp only [h7])
      refine ⟨rfl, ?_⟩
      go_simp <;> (try go_bits) <;> with_reducible rfl
    · exact fun _ _ _ => rfl
    · rfl
    dsimp only [nA, cA]
    apply RGW.call (i := 9) rfl
    · (simp only [gA, gB, gC] <;> rfl)
    · intro γ u W hcur hd
      obtain ⟨⟨h5, -, -⟩, ⟨h8, -, -⟩, -⟩ := hd
      dsimp only at h5 h8
      (try simp only [h5, h8])
      refine ⟨rfl, fun K hK => ?_⟩
      go_simp
      first
      | (go_at_call 86; (with_reducible refine (hcu.out _ (bl_tr hb0 hcur)).mono ?_); rintro e w3 ⟨rfl, hb3⟩; replace hb3 := bl_tt hb3)
      | (go_at_call 90; (with_reducible refine (hsi.out _).mono ?_); rintro e w3 ⟨rfl, rfl⟩)
      | (refine wp_appT _ _ rfl Tryd.underlying22 hi hz0 hz1 hz2 rfl (by decide) u7 k _ [.int .i64 (s : Nat)] rfl rfl (own_below ho.out hwd) r11 rfl (by intro u hu; simp at hu; subst hu; rfl) (by unfold maxLen; omega) (by omega) (Nat.le_trans (by omega) hwd.size) ?_; intro v' w' hown' hbx' hv'; refine hK.out _ _ hbx' (fun hcur => ?_))
      (try dsimp only)
      exact hK.out _ _ rfl (by (with_reducible (repeat' (first | assumption | apply jA | apply jB | apply jC | apply jD | apply jE | apply jF | apply hb3 | omega | (simp; done) | (simp; omega) | (dsimp only; omega)))))
    · exact fun _ _ _ => rfl
    · rfl
    dsimp only [nA, cA]
    apply RGW.call (i := 10) rfl
    · (simp only [gA, gB, gC] <;> rfl)
    · intro γ u W hcur hd
      obtain ⟨⟨h9, -, -⟩, -⟩ := hd
      dsimp only at h9
      (try simp only [h9])
      refine ⟨rfl, fun K hK => ?_⟩
      go_simp
      first
      | (go_at_call 86; (with_reducible refine (hcu.out _ (bl_tr hb0 hcur)).mono ?_); rintro e w3 ⟨rfl, hb3⟩; replace hb3 := bl_tt hb3)
      | (go_at_call 90; (with_reducible refine (hsi.out _).mono ?_); rintro e w3 ⟨rfl, rfl⟩)
      | (refine wp_appT _ _ rfl Tryd.underlying22 hi hz0 hz1 hz2 rfl (by decide) u7 k _ [.int .i64 (s : Nat)] rfl rfl (own_below ho.out hwd) r11 rfl (by intro u hu; simp at hu; subst hu; rfl) (by unfold maxLen; omega) (by omega) (Nat.le_trans (by omega) hwd.size) ?_; intro v' w' hown' hbx' hv'; refine hK.out _ _ hbx' (fun hcur => ?_))
      (try dsimp only)
      exact hK.out _ _ rfl (by (with_reducible (repeat' (first | assumption | apply jA | apply jB | apply jC | apply jD | apply jE | apply jF | apply hb3 | omega | (simp; done) | (simp; omega) | (dsimp only; omega)))))
    · exact fun _ _ _ => rfl
    · rfl
    dsimp only [nA, cA]
    apply RGW.bslice (i := 11) rfl
    · (simp only [gA, gB, gC] <;> rfl)
    · intro γ u W hcur hd
      obtain ⟨⟨h10, -, -⟩, -⟩ := hd
      dsimp only at h10
      (try simp only [h10])
      refine ⟨rfl, fun K hK => ?_⟩
      go_simp
      exact hK.out _ _ rfl rfl
    · exact fun _ _ _ => rfl
    · rfl
    · rfl
    dsimp only [nA, cA]
    refine RGW.skip (i := 12) rfl rfl ?_
    dsimp only [nA, cA]
    refine RGW.skip (i := 13) rfl rfl ?_
    dsimp only [nA, cA]
    refine RGW.fin (fun γ u wd hwd hd hdis => ?_)
    obtain ⟨⟨h0, -, -⟩, ⟨h1, -, -⟩, ⟨h2, -, -⟩, ⟨h3, -, -⟩, ⟨h4, -, -⟩, ⟨h5, -, -⟩, ⟨h6, -, -⟩, ⟨h7, -, -⟩, ⟨h8, -, -⟩, ⟨h9, -, -⟩, ⟨h10, -, -⟩, ⟨h11, r11, b11⟩, -⟩ := hd
    dsimp only at h0 h1 h2 h3 h4 h5 h6 h7 h8 h9 h10 h11 r11 b11
    clear hdis
    simp only [h0, h1, h2, h3, h4, h5, h6, h7, h8, h9, h10, h11]
    clear h11 h10 h9 h8 h7 h6 h5 h4 h3 h2 h1 h0
    replace b11 := b11 _ (List.mem_singleton.2 rfl)
    generalize hγ11 : (γ 11).n = g11 at *
    clear hγ11
    clear u
    simp only [List.map_cons, List.map_nil]
    apply PlanW.step
    · (simp only [gA, gB, gC] <;> rfl)
    · rfl
    intro K hK
    first
    | (go_at_call 86; (with_reducible refine (hcu.out _ (bl_tr hb0 hcur)).mono ?_); rintro e w3 ⟨rfl, hb3⟩; replace hb3 := bl_tt hb3)
    | (go_at_call 90; (with_reducible refine (hsi.out _).mono ?_); rintro e w3 ⟨rfl, rfl⟩)
    | (refine wp_appT _ _ rfl Tryd.underlying22 hi hz0 hz1 hz2 rfl (by decide) u7 k _ [.int .i64 (s : Nat)] rfl rfl (own_below ho.out hwd) r11 rfl (by intro u hu; simp at hu; subst hu; rfl) (by unfold maxLen; omega) (by omega) (Nat.le_trans (by omega) hwd.size) ?_; intro v' w' hown' hbx' hv'; refine hK.out _ _ hbx' (fun hcur => ?_))
    clear hK K
    try simp only [Act.put, List.setIfInBounds_toArray, List.set_cons_zero, List.set_cons_succ]
    apply PlanW.step
    · (simp only [gA, gB, gC] <;> rfl)
    · rfl
    intro K hK
    go_simp
    refine hK.out _ _ (by with_reducible first | assumption | exact bx_refl _ _) (fun hcur => ?_)
    clear hK K
    try simp only [Act.put, List.setIfInBounds_toArray, List.set_cons_zero, List.set_cons_succ]
    refine PlanW.done ?_
    have hb3 := bl_tt hwd
    have hge := ownL_ge ho.out
    have hb9 := bx_below (bl_tr hb0 hwd) hcur (fun g hg => by have := hge g hg; omega)
    have k9 := (k0.below hwd).keep (fun h => by have := hge _ h; omega) hcur
    have hown9 := Lib.hid (show w'.ownsRow (w.heap.size + 1) 3 1 v' (k + 1) ((Z.take (k + 1)).map (.int .i64)) by rw [hzn.out]; simpa using hown')
    clear hge hcur hbx' hv' hown' hb0 k0 hb3 r11 b11 hwd ho hcu hsi hrd
    go_wp2
    go_roundw
    case rel => exact ⟨k + 1, by omega, by go_num, hb9, k9, hown9.out⟩
    case measure => simp [intOf]; omega
end Go.Proofs.YtdlmkblmljhbfaaDoor
namespace Go.Proofs.YtdlmkblmljhbfaaDoor
set_option linter.unusedSimpArgs false
set_option linter.unusedVariables false
open Go.RowKit Go.Shelf
attribute [local go_sem] bl_al bl_drew bl_drewN bl_refl bx_al bx_drew bx_drewN bx_refl
set_option maxRecDepth 20000
theorem i64_and2 (a b : Nat) (ha : a < 1024) (hb : b < 1024) : bits .and .i64 (a : Int) (b : Int) = ((a &&& b : Nat) : Int) := by
  have hx : a &&& b ≤ a := Nat.and_le_left
  have h1 : (BitVec.ofInt 64 (a : Int)).toNat = a := by
    rw [BitVec.ofInt_natCast, BitVec.toNat_ofNat]; exact Nat.mod_eq_of_lt (by omega)
  have h2 : (BitVec.ofInt 64 (b : Int)).toNat = b := by
    rw [BitVec.ofInt_natCast, BitVec.toNat_ofNat]; exact Nat.mod_eq_of_lt (by omega)
  show IntKind.i64.wrap ((BitVec.ofInt 64 (a : Int) &&& BitVec.ofInt 64 (b : Int)).toNat : Int) = _
  rw [BitVec.toNat_and, h1, h2]
  exact IntWalk.i64_in _ (by omega)
theorem bit_at2 (P k : Nat) (hP : P < 1024) : (bits .and .i64 ((P : Int) / 2 ^ k) 1 == 1) = P.testBit k := by
  have e : ((P : Int) / 2 ^ k) = ((P / 2 ^ k : Nat) : Int) := by simp
  have hlt : P / 2 ^ k < 1024 := Nat.lt_of_le_of_lt (Nat.div_le_self _ _) (by omega)
  have := i64_and2 (P / 2 ^ k) 1 hlt (by decide)
  rw [e, show (1 : Int) = ((1 : Nat) : Int) from rfl, this, Nat.and_one_is_mod, Nat.testBit_eq_decide_div_mod_eq, Bool.eq_iff_iff]
  simp
  omega
theorem rcut_len (f : Fu) (p : Nat) : ∀ k, (rcut f p k).2.length ≤ p
  | 0 => Nat.zero_le _
  | k + 1 => by
    unfold rcut
    dsimp only
    split
    · exact setL_len k p
    · exact rcut_len f p k
theorem rcut_next (f : Fu) (p k : Nat) (fb : Bool) (bl : List Int) (h : rcut f p k = (fb, bl)) : rcut f p (k + 1) = if !wksB f (setL k p) && (!fb || decide ((setL k p).length < bl.length) || (decide ((setL k p).length = bl.length) && lexB (setL k p) bl)) then (true, setL k p) else (fb, bl) := by
  rw [rcut, h]
/-- A slice of numbers, wherever it lies. -/
def RetL (L : List Int) (w : World) (e : Ending) (w' : World) : Prop := Below w.heap.size w w' ∧ ∃ A c, e = .returned (.slice A L.length c) ∧ Sl cI 1 w' A L
set_option maxHeartbeats 8000000 in
theorem r_Cut (n : Nt) (i : Nat) (f : Fu) (Ap Af Am : Option Addr) (cp cf cm : Nat) (w : World) (hn : NtIn n Ap Af Am cp cf cm w) (hp : n.ps.length ≤ 10) (hf : n.fs[i]? = some f) :
    Calls Tryd.prog 38 #[vNt Ap Af Am n.ps.length n.fs.length n.ms.length cp cf cm, .int .i64 (i : Nat)] w (RetL (rcut f n.ps.length (2 ^ n.ps.length)).2 w) := by
  obtain ⟨i0, hi, hz0, hz1, hz2⟩ := info_parts infoI
  have hwk := Lib.hid fun (k : Nat) (A : Option Addr) (c : Nat) W (hb : Below w.heap.size w W) (hs : Sl cI 1 W A (setL k n.ps.length)) => r_Works f (setL k n.ps.length) A c W ((hn.fin f (List.mem_of_getElem? hf)).below hb) hs (by have := setL_len k n.ps.length; omega)
  have hil := (List.getElem?_eq_some_iff.1 hf).1
  have hfl := hn.flen
  have hN4 : 2 ^ n.ps.length ≤ 1024 := Nat.le_trans (Nat.pow_le_pow_right (by decide) hp) (by decide)
  have hst := Lib.hid fun (k : Nat) (fb : Bool) (bl : List Int) (h : rcut f n.ps.length k = (fb, bl)) => rcut_next f n.ps.length k fb bl h
  have hrl := Lib.hid (rcut_len f n.ps.length)
  have h0 : Hid (rcut f n.ps.length 0 = (false, [])) := rfl
  have hs0 : Hid (∀ k, setL k 0 = []) := fun _ => rfl
  have hsn : Hid (∀ k j, setL k (j + 1) = setL k j ++ if k.testBit j then [(j : Int)] else []) := fun _ _ => rfl
  have hsl := Lib.hid setL_len
  have hsh : wrap64 ((2 : Int) ^ n.ps.length) = ((2 ^ n.ps.length : Nat) : Int) := by
    have : ((2 : Int) ^ n.ps.length) = ((2 ^ n.ps.length : Nat) : Int) := by simp
    rw [this]
    have h1N := Nat.two_pow_pos n.ps.length
    generalize 2 ^ n.ps.length = q at *
    unfold wrap64
    omega
  obtain ⟨r, hr⟩ : ∃ r : Nat → Bool × List Int, ∀ k, rcut f n.ps.length k = r k := ⟨_, fun _ => rfl⟩
  simp only [hr] at hst hrl h0 ⊢
  clear hr
  obtain ⟨b, off, rfl, hc⟩ := hn.fsl i f hf
  have hcell : ∀ W, Below w.heap.size w W → W.cell? ⟨b, off + i * 2, none⟩ = some (.string f.name) ∧ W.cell? ⟨b, off + i * 2 + 1, none⟩ = some (.slice f.A f.ws.length f.c) := fun W hb => ⟨by simpa using kcell hb (hc 0 _ rfl), kcell hb (hc 1 _ rfl)⟩
  clear hn hf hc
  dsimp only [vFu] at hwk
  generalize wksB f = wk at *
  change Calls Tryd.prog 38 #[.agg #[.slice Ap n.ps.length cp, .slice (some ⟨b, off, none⟩) n.fs.length cf, .slice Am n.ms.length cm], .int .i64 (i : Nat)] w _
  generalize n.ps.length = np at *
  generalize n.fs.length = nf at *
  generalize n.ms.length = nm at *
  generalize f.name = fn at *
  generalize f.ws.length = fl at *
  generalize f.A = fA at *
  generalize f.c = fc at *
  generalize 2 ^ np = N at *
  obtain ⟨S, hS⟩ : ∃ S : Nat → Nat → List Int, ∀ k j, setL k j = S k j := ⟨_, fun _ _ => rfl⟩
  simp only [hS] at hwk hst hs0 hsn hsl
  clear hS
  have hil2 : (i : Int) < nf := by omega
  go_enter Tryd.func38, Tryd.ntmps38
  go_upto_region 1 with fail
  first
  | apply absB1 (w0 := w) (g0 := w.heap.size)
  | apply absTB1 (w0 := w) (g0 := w.heap.size)
  | apply absIB1 (w0 := w) (g0 := w.heap.size)
  iterate 2 (focus ((with_reducible (repeat' (first | assumption | apply jA | apply jB | apply jC | apply jD | apply jE | apply jF | apply hb3 | apply jG | apply jH | apply jI | apply jJ | apply jK | apply hb3x | (apply jL; first | (simp; done) | rfl) | apply jM | apply jN | apply jO | apply jP | apply jQ | apply jR | apply jS | apply jT (hb := hb3 _ (jA _)) | omega | (simp; done) | (simp; omega) | (dsimp only; omega)))); done))
  intro wa hb0' k0'
  (try simp only [List.setIfInBounds_toArray, List.set_cons_zero, List.set_cons_succ] at k0')
  try clear hb3
  try clear hb0
  try clear k0
  have hb0 := hb0'; clear hb0'
  have k0 := k0'; clear k0'
  go_wp2
  go_loopw [5, 6, 7] (fun u v x wr => ∃ (k : Nat) (fb : Bool) (bl : List Int), k ≤ N ∧ x = .int .i64 k ∧ v = .bool fb ∧ r k = (fb, bl) ∧ Below w.heap.size w wr ∧ Blk wr w.heap.size 61 #[.slice Ap np cp, .slice (some ⟨b, off, none⟩) nf cf, .slice Am nm cm] ∧ ∃ B c, u = .slice B bl.length c ∧ Sl cI 1 wr B bl) (fun _ _ x _ => N - (intOf x).toNat)
  case atStart => exact ⟨0, false, [], Nat.zero_le _, rfl, rfl, h0.out, hb0, k0, none, 0, rfl, fun k x hx => by simp at hx⟩
  case round =>
    clear hb0 k0
    obtain ⟨k, fb, bl, hk, rfl, rfl, hrk, hb0, k0, B, c, rfl, hB⟩ := hrel
    replace hB := Lib.hid hB
    replace hrk := Lib.hid hrk
    have L0 := k0.cell
    by_cases hkn : k < N
    rotate_left
    · obtain rfl : N = k := by omega
      go_wp2_with (simp only [hsh])
      go_ret
      rw [hrk.out]
      exact ⟨hb0, B, c, rfl, hB.out⟩
    have hkn2 : (k : Int) < N := by omega
    have hsk := Lib.hid (hst.out k fb bl hrk.out)
    have hbl := hrl.out k
    rw [hrk.out] at hbl
    dsimp only at hbl
    go_wp2_with (simp only [hsh])
    clear L0
    obtain ⟨wo, rfl⟩ : ∃ wo : World, wo = wr := ⟨_, rfl⟩
    go_loopw [8, 9] (fun v x wi => ∃ j : Nat, j ≤ np ∧ x = .int .i64 j ∧ Below wo.heap.size wo wi ∧ wi.ownsRow wo.heap.size 3 1 v (S k j).length ((S k j).map (.int .i64))) (fun _ x _ => np - (intOf x).toNat)
    case atStart => exact ⟨0, Nat.zero_le _, rfl, bl_refl _, by rw [hs0.out]; exact World.ownsRow_nil _ _ _ _⟩
    case round =>
      obtain ⟨j, hj, rfl, hb1, ho⟩ := hrel
      replace ho := Lib.hid ho
      have k1 := k0.below hb1
      have L0 := k1.cell
      by_cases hjn : j < np
      · have hbt := bit_at2 k j (by omega)
        have hsnj := Lib.hid (hsn.out k j)
        have hslj := hsl.out k j
        cases hT : k.testBit j
        · rw [hT] at hbt hsnj
          have e := Lib.hid (show S k (j + 1) = S k j by rw [hsnj.out]; simp)
          go_wp2
          go_roundw
          case rel => exact ⟨j + 1, by omega, by go_num, hb1, by rw [e.out]; exact ho.out⟩
          case measure => simp [intOf]; omega
        · rw [hT] at hbt hsnj
          have e := Lib.hid (show S k (j + 1) = S k j ++ [(j : Int)] by rw [hsnj.out]; simp)
          have hsz := hb1.size
          have hoA := Lib.hid (own_below ho.out (bl_al (.cells #[.int .i64 j] 3) (bl_refl _)))
          go_wp2_with (at_builtin; refine wpList_append_own2 rfl _ _ 22 rfl wo.heap.size 3 i0 (.int .i64 0) 1 8 Tryd.underlying22 hi hz0 hz1 hz2 rfl (by decide) _ _ _ rfl hoA.out ⟨_, 0, none⟩ 1 1 [.int .i64 j] rfl rfl ?c1 ?c2 ?c3 ?c4 ?c5 ?_)
          case c2 => first | (intro u hu; simp at hu; subst hu; rfl) | rfl
          case c3 => unfold maxLen; omega
          case c4 => omega
          case c5 => first | omega | (simp; omega)
          intro v1 w4 hown hg2 hd2
          have hge := own_ge ho.out
          have hb9 := (bl_al (.cells #[.int .i64 j] 3) hb1).grown hg2 (by simp; omega) hge
          replace hown := Lib.hid hown
          clear hg2 hd2 hge ho hoA
          go_wp2
          go_roundw
          case rel => exact ⟨j + 1, by omega, by go_num, hb9, by rw [e.out]; simpa using hown.out⟩
          case measure => simp [intOf]; omega
      obtain rfl : np = j := by omega
      obtain ⟨A5, c5, hv⟩ := own_slice ho.out
      subst hv
      have hsO := Lib.hid (own_sl ho.out)
      have hb2 := bl_tr hb0 hb1
      have hwf := Lib.hid (hwk.out k A5 c5 wr hb2 hsO.out)
      have hsz := hsl.out k np
      have c0 := (hcell wr hb2).1
      have c1 := (hcell wr hb2).2
      have hB2 := Lib.hid (hB.out.below hb1)
      have hbf := Lib.hid fun W (hb : Below wr.heap.size wr W) => r_Before (S k np) bl A5 B c5 c W (hsO.out.below hb) (hB2.out.below hb) (by omega) (by omega)
      clear hsn hs0 hst hrl hsl hwk hB h0 ho hb0 k0
      generalize wk (S k np) = WB at *
      generalize S k np = SS at *
      generalize lexB SS bl = LX at *
      generalize hls : SS.length = ls at *
      generalize hlb : bl.length = lb at *
      replace hls := Lib.hid hls
      replace hlb := Lib.hid hlb
      go_upto_region 12 with fail
      cases WB
      rotate_left
      · have e := Lib.hid (show r (k + 1) = (fb, bl) by rw [hsk.out]; simp)
        go_wp2_with fail
        refine (hwf.out).mono ?_
        rintro e w3 ⟨rfl, hb3⟩
        go_wp2
        go_roundw
        case rel => exact ⟨k + 1, fb, bl, by omega, by go_num, rfl, e.out, bl_tr hb2 hb3, k1.below hb3, B, c, by rw [hlb.out], hB2.out.below hb3⟩
        case measure => simp [intOf]; omega
      cases fb
      · have e := Lib.hid (show r (k + 1) = (true, SS) by rw [hsk.out]; simp)
        go_wp2_with fail
        refine (hwf.out).mono ?_
        rintro e w3 ⟨rfl, hb3⟩
        go_wp2
        go_roundw
        case rel => exact ⟨k + 1, true, SS, by omega, by go_num, rfl, e.out, bl_tr hb2 hb3, k1.below hb3, A5, c5, by rw [hls.out], hsO.out.below hb3⟩
        case measure => simp [intOf]; omega
      by_cases q1 : ls < lb
      · have e := Lib.hid (show r (k + 1) = (true, SS) by rw [hsk.out]; simp [q1])
        have q2 : (ls : Int) < lb := by omega
        go_wp2_with fail
        refine (hwf.out).mono ?_
        rintro e w3 ⟨rfl, hb3⟩
        go_wp2
        go_roundw
        case rel => exact ⟨k + 1, true, SS, by omega, by go_num, rfl, e.out, bl_tr hb2 hb3, k1.below hb3, A5, c5, by rw [hls.out], hsO.out.below hb3⟩
        case measure => simp [intOf]; omega
      by_cases q3 : ls = lb
      · have hsk2 := Lib.hid (show r (k + 1) = if LX then (true, SS) else (true, bl) by rw [hsk.out]; simp [q3])
        clear q1
        subst q3
        go_wp2_with fail
        refine (hwf.out).mono ?_
        rintro e w3 ⟨rfl, hb3⟩
        go_wp2_with fail
        refine (hbf.out _ hb3).mono ?_
        rintro e w4 ⟨rfl, hb4⟩
        have hb5 := bl_tr hb3 hb4
        cases LX
        · have e := Lib.hid (show r (k + 1) = (true, bl) by rw [hsk2.out]; simp)
          go_wp2
          go_roundw
          case rel => exact ⟨k + 1, true, bl, by omega, by go_num, rfl, e.out, bl_tr hb2 hb5, k1.below hb5, B, c, by rw [hlb.out], hB2.out.below hb5⟩
          case measure => simp [intOf]; omega
        · have e := Lib.hid (show r (k + 1) = (true, SS) by rw [hsk2.out]; simp)
          go_wp2
          go_roundw
          case rel => exact ⟨k + 1, true, SS, by omega, by go_num, rfl, e.out, bl_tr hb2 hb5, k1.below hb5, A5, c5, by rw [hls.out], hsO.out.below hb5⟩
          case measure => simp [intOf]; omega
      · have e := Lib.hid (show r (k + 1) = (true, bl) by rw [hsk.out]; simp [q1, q3])
        have q2 : ¬ (ls : Int) < lb := by omega
        have q4 : ((ls : Int) == lb) = false := by simp; omega
        have q5 : ¬ (ls : Int) = lb := by omega
        go_wp2_with fail
        refine (hwf.out).mono ?_
        rintro e w3 ⟨rfl, hb3⟩
        go_wp2
        go_roundw
        case rel => exact ⟨k + 1, true, bl, by omega, by go_num, rfl, e.out, bl_tr hb2 hb3, k1.below hb3, B, c, by rw [hlb.out], hB2.out.below hb3⟩
        case measure => simp [intOf]; omega
/-! ### The margin. -/
def mgK (p : Nat) (zs : List Int) (k : Nat) : Int := (zs.take k).foldl min (p : Int)
theorem mgK_next {p : Nat} {zs : List Int} {k : Nat} {x : Int} (hx : zs[k]? = some x) : mgK p zs (k + 1) = min (mgK p zs k) x := by
  unfold mgK
  rw [List.take_add_one, hx]
  simp [List.foldl_append]
/-- What a function needs for its smallest failures to be found. -/
def CutOk (n : Nt) : Prop := n.ps.length ≤ 10 ∧ ∀ f ∈ n.fs, NonNeg f ∧ Stops f n.ps.length
set_option maxHeartbeats 8000000 in
theorem r_Margin (n : Nt) (i : Nat) (d : Md) (Ap Af Am : Option Addr) (cp cf cm : Nat) (w : World) (hn : NtIn n Ap Af Am cp cf cm w) (hno : NeedOk n) (hco : CutOk n) (hd : n.ms[i]? = some d) :
    Calls Tryd.prog 39 #[vNt Ap Af Am n.ps.length n.fs.length n.ms.length cp cf cm, .int .i64 (i : Nat)] w (Ret (.int .i64 (mgK n.ps.length (szS n d.r.l) d.r.l.length)) w) := by
  have hdi := hn.min d (List.mem_of_getElem? hd)
  have hmn := hn.mlen
  have hil := (List.getElem?_eq_some_iff.1 hd).1
  have hpl := hco.1
  have hnd := Lib.hid fun (k : Nat) (x : Int) (hx : d.r.l[k]? = some x) => (show ∃ (j s : Nat), x = j ∧ s ≤ 10 ∧ (szS n d.r.l)[k]? = some (s : Int) ∧ ∀ W, Below w.heap.size w W → Calls Tryd.prog 38 #[vNt Ap Af Am n.ps.length n.fs.length n.ms.length cp cf cm, .int .i64 (j : Nat)] W (fun e w' => Below W.heap.size W w' ∧ ∃ A c, e = .returned (.slice A s c)) from by
    have h := hno d (List.mem_of_getElem? hd) x (List.mem_of_getElem? hx)
    have hf : n.fs[x.toNat]? = some (n.fs[x.toNat]'(by omega)) := List.getElem?_eq_getElem _
    generalize n.fs[x.toNat]'(by omega) = f at hf
    have hfo := hco.2 f (List.mem_of_getElem? hf)
    have hre := rcut_end hco.1 hfo.1 hfo.2
    refine ⟨x.toNat, sizeS (cutS f n.ps.length), by omega, listS_len _, szS_at hx hf, fun W hb => (r_Cut n x.toNat f Ap Af Am cp cf cm W (hn.below hb) hco.1 hf).mono fun e w' ⟨h1, A, c, h2, _⟩ => ⟨h1, A, c, ?_⟩⟩
    rw [h2, hre]
    rfl)
  have hst := Lib.hid fun (k : Nat) (x : Int) (hx : (szS n d.r.l)[k]? = some x) => mgK_next (p := n.ps.length) hx
  have h0 : Hid (mgK n.ps.length (szS n d.r.l) 0 = (n.ps.length : Int)) := rfl
  have hbd : Hid (∀ k, mgK n.ps.length (szS n d.r.l) k ≤ n.ps.length) := fun k => by
    unfold mgK
    generalize (szS n d.r.l).take k = zs
    have key : ∀ (zs : List Int) (p : Int), zs.foldl min p ≤ p := by
      intro zs
      induction zs with
      | nil => intro p; exact Int.le_refl _
      | cons x zs ih =>
        intro p
        rw [List.foldl_cons]
        have := ih (min p x)
        omega
    exact key zs _
  generalize szS n d.r.l = Z at *
  obtain ⟨g, hg⟩ : ∃ g : Nat → Int, ∀ k, mgK n.ps.length Z k = g k := ⟨_, fun _ => rfl⟩
  simp only [hg] at h0 hst hbd ⊢
  clear hg
  obtain ⟨b, off, rfl, hc⟩ := hn.msl i d hd
  have hcell : ∀ W, Below w.heap.size w W → W.cell? ⟨b, off + i * 2 + 1, none⟩ = some (.slice d.r.A d.r.l.length d.r.c) := fun W hb => kcell hb (hc 1 _ rfl)
  have hns := Lib.hid hdi.row.sl
  have hnl := hdi.row.len
  clear hn hno hco hd hdi hc
  dsimp only [vNt, aNt] at hnd
  change Calls Tryd.prog 39 #[.agg #[.slice Ap n.ps.length cp, .slice Af n.fs.length cf, .slice (some ⟨b, off, none⟩) n.ms.length cm], .int .i64 (i : Nat)] w _
  obtain ⟨nd, Hn⟩ : ∃ k, Hid (d.r.l.length = k) := ⟨_, rfl⟩
  rw [Hn.out] at hnl hcell ⊢
  generalize hdl : d.r.l = dl at *
  generalize hdA : d.r.A = dA at *
  generalize hdc : d.r.c = dc at *
  clear hdl hdA hdc
  generalize n.ps.length = np at *
  generalize n.fs.length = nf at *
  generalize n.ms.length = nm at *
  have hil2 : (i : Int) < nm := by omega
  go_enter Tryd.func39, Tryd.ntmps39
  go_upto_region 1 with fail
  first
  | apply absB1 (w0 := w) (g0 := w.heap.size)
  | apply absTB1 (w0 := w) (g0 := w.heap.size)
  | apply absIB1 (w0 := w) (g0 := w.heap.size)
  iterate 2 (focus ((with_reducible (repeat' (first | assumption | apply jA | apply jB | apply jC | apply jD | apply jE | apply jF | apply hb3 | apply jG | apply jH | apply jI | apply jJ | apply jK | apply hb3x | (apply jL; first | (simp; done) | rfl) | apply jM | apply jN | apply jO | apply jP | apply jQ | apply jR | apply jS | apply jT (hb := hb3 _ (jA _)) | omega | (simp; done) | (simp; omega) | (dsimp only; omega)))); done))
  intro wa hb0' k0'
  (try simp only [List.setIfInBounds_toArray, List.set_cons_zero, List.set_cons_succ] at k0')
  try clear hb3
  try clear hb0
  try clear k0
  have hb0 := hb0'; clear hb0'
  have k0 := k0'; clear k0'
  have L0 := k0.cell
  go_wp2
  clear L0
  go_loopw [5, 6] (fun m i wr => ∃ k : Nat, k ≤ nd ∧ i = .int .i64 k ∧ m = .int .i64 (g k) ∧ Below w.heap.size w wr ∧ Blk wr w.heap.size 61 #[.slice Ap np cp, .slice Af nf cf, .slice (some ⟨b, off, none⟩) nm cm]) (fun _ i _ => nd - (intOf i).toNat)
  case atStart => exact ⟨0, Nat.zero_le _, rfl, by rw [h0.out], hb0, k0⟩
  case round =>
    clear hb0 k0
    obtain ⟨k, hk, rfl, rfl, hb0, k0⟩ := hrel
    have L0 := k0.cell
    have c0 := hcell wr hb0
    by_cases hkn : k < nd
    rotate_left
    · obtain rfl : nd = k := by omega
      go_wp2
      go_ret
      exact ⟨rfl, hb0⟩
    have hx : dl[k]? = some (dl[k]'(by rw [Hn.out]; exact hkn)) := List.getElem?_eq_getElem _
    generalize dl[k]'(by rw [Hn.out]; exact hkn) = x at hx
    obtain ⟨j, s, rfl, hs10, hzs, hcu⟩ := hnd.out k x hx
    replace hcu := Lib.hid hcu
    have hd := Lib.hid (hst.out k _ hzs)
    obtain ⟨b3, o3, rfl, hc3⟩ := hns.out k _ hx
    have d0 : ∀ W, Below wr.heap.size wr W → W.cell? ⟨b3, o3 + k, none⟩ = some (.int .i64 j) := later (by simpa using kcell hb0 (hc3 0 _ rfl))
    have d3 : ∀ W, Below wr.heap.size wr W → W.cell? ⟨b, off + i * 2 + 1, none⟩ = some (.slice (some ⟨b3, o3, none⟩) nd dc) := fun W hb => hcell W (bl_tr hb0 hb)
    have hgb := hbd.out k
    clear hc3 hx hzs
    have hkn2 : (k : Int) < nd := by omega
    go_upto_region 5 with fail
    clear L0 c0
    have Lk0 := k0.later
    have Fk0 := k0.laterF
    have Qk0 := k0.lt
    refine wp_any (w0 := wr) ⟨[14], [], [some 21, some 22, some 23, some 24, some 25, some 26, some 27, some 28, some 29, some 30, some 31, some 32, some 33, some 34, none], [[], [], [], [2], [], [2, 3, 4], [2, 3, 4, 5], [2, 3, 4, 5, 6], [], [2, 3, 4, 5, 6, 7, 8], [2, 3, 4, 5, 6, 7, 8, 9], [1, 2, 3, 4, 5, 6, 7, 8, 9, 10], [1, 2, 3, 4, 5, 6, 7, 8, 9, 10, 11], [0, 1, 2, 3, 4, 5, 6, 7, 8, 9, 10, 11, 12], [0, 1, 2, 3, 4, 5, 6, 7, 8, 9, 10, 11, 12, 13]], [[], [], [], [2], [], [3, 4], [5], [6], [], [7, 8], [9], [1, 10], [11], [0, 11, 12], []]⟩ (fun _ => []) (by kernel_rfl) (by kernel_rfl) (by (with_reducible (repeat' (first | assumption | apply jA | apply jB | apply jC | apply jD | apply jE | apply jF | apply hb3 | omega | (simp; done) | (simp; omega) | (dsimp only; omega))))) (fun u => by simp only [putD, Act.put, List.setIfInBounds_toArray, List.set_cons_zero, List.set_cons_succ, Nat.zero_add, Nat.reduceAdd]; rfl) ?_
    apply RGW.on (i := 0) rfl
    · (simp only [gA, gB, gC] <;> rfl)
    · intro γ u W hcur hd
      clear hd
      (try dsimp only)
      refine ⟨rfl, ?_⟩
      go_simp <;> (try go_bits) <;> with_reducible rfl
    · exact fun _ _ _ => rfl
    · rfl
    dsimp only [nA, cA]
    apply RGW.on (i := 1) rfl
    · (simp only [gA, gB, gC] <;> rfl)
    · intro γ u W hcur hd
      clear hd
      (try dsimp only)
      refine ⟨rfl, ?_⟩
      go_simp <;> (try go_bits) <;> with_reducible rfl
    · exact fun _ _ _ => rfl
    · rfl
    dsimp only [nA, cA]
    apply RGW.on (i := 2) rfl
    · (simp only [gA, gB, gC] <;> rfl)
    · intro γ u W hcur hd
      clear hd
      (try dsimp only)
      refine ⟨rfl, ?_⟩
      go_simp <;> (try go_bits) <;> with_reducible rfl
    · exact fun _ _ _ => rfl
    · rfl
    dsimp only [nA, cA]
    apply RGW.on (i := 3) rfl
    · (simp only [gA, gB, gC] <;> rfl)
    · intro γ u W hcur hd
      obtain ⟨⟨h2, -, -⟩, -⟩ := hd
      dsimp only at h2
      (try simp only [h2])
      refine ⟨rfl, ?_⟩
      go_simp <;> (try go_bits) <;> with_reducible rfl
    · exact fun _ _ _ => rfl
    · rfl
    dsimp only [nA, cA]
    apply RGW.on (i := 4) rfl
    · (simp only [gA, gB, gC] <;> rfl)
    · intro γ u W hcur hd
      clear hd
      (try dsimp only)
      refine ⟨rfl, ?_⟩
      go_simp <;> (try go_bits) <;> with_reducible rfl
    · exact fun _ _ _ => rfl
    · rfl
    dsimp only [nA, cA]
    apply RGW.on (i := 5) rfl
    · (simp only [gA, gB, gC] <;> rfl)
    · intro γ u W hcur hd
      obtain ⟨⟨h3, -, -⟩, ⟨h4, -, -⟩, -⟩ := hd
      dsimp only at h3 h4
      (try simp only [h3, h4])
      refine ⟨rfl, ?_⟩
      go_simp <;> (try go_bits) <;> with_reducible rfl
    · exact fun _ _ _ => rfl
    · rfl
    dsimp only [nA, cA]
    apply RGW.on (i := 6) rfl
    · (simp only [gA, gB, gC] <;> rfl)
    · intro γ u W hcur hd
      obtain ⟨⟨h5, -, -⟩, -⟩ := hd
      dsimp only at h5
      (try simp only [h5])
      refine ⟨rfl, ?_⟩
      go_simp <;> (try go_bits) <;> with_reducible rfl
    · exact fun _ _ _ => rfl
    · rfl
    dsimp only [nA, cA]
    apply RGW.on (i := 7) rfl
    · (simp only [gA, gB, gC] <;> rfl)
    · intro γ u W hcur hd
      obtain ⟨⟨h6, -, -⟩, -⟩ := hd
      dsimp only at h6
      (try simp only [h6])
      refine ⟨rfl, ?_⟩
      go_simp <;> (try go_bits) <;> with_reducible rfl
    · exact fun _ _ _ => rfl
    · rfl
    dsimp only [nA, cA]
    apply RGW.on (i := 8) rfl
    · (simp only [gA, gB, gC] <;> rfl)
    · intro γ u W hcur hd
      clear hd
      (try dsimp only)
      refine ⟨rfl, ?_⟩
      go_simp <;> (try go_bits) <;> with_reducible rfl
    · exact fun _ _ _ => rfl
    · rfl
    dsimp only [nA, cA]
    apply RGW.on (i := 9) rfl
    · (simp only [gA, gB, gC] <;> rfl)
    · intro γ u W hcur hd
      obtain ⟨⟨h7, -, -⟩, ⟨h8, -, -⟩, -⟩ := hd
      dsimp only at h7 h8
      (try simp only [h7, h8])
      refine ⟨rfl, ?_⟩
      go_simp <;> (try go_bits) <;> with_reducible rfl
    · exact fun _ _ _ => rfl
    · rfl
    dsimp only [nA, cA]
    apply RGW.on (i := 10) rfl
    · (simp only [gA, gB, gC] <;> rfl)
    · intro γ u W hcur hd
      obtain ⟨⟨h9, -, -⟩, -⟩ := hd
      dsimp only at h9
      (try simp only [h9])
      refine ⟨rfl, ?_⟩
      go_simp <;> (try go_bits) <;> with_reducible rfl
    · exact fun _ _ _ => rfl
    · rfl
    dsimp only [nA, cA]
    apply RGW.gh (⟨fun γ => .slice (γ 11).A s (γ 11).c, fun _ _ => True, fun _ => []⟩) (i := 11) rfl
    · (simp only [gA, gB, gC] <;> rfl)
    · intro γ u W hcur hd
      obtain ⟨⟨h1, -, -⟩, ⟨h10, -, -⟩, -⟩ := hd
      dsimp only at h1 h10
      (try simp only [h1, h10])
      refine ⟨rfl, fun K hK => ?_⟩
      go_simp
      (go_at_call 38; (with_reducible refine (hcu.out _ (bl_tr hb0 hcur)).mono ?_); rintro e w3 ⟨hb3, Ax, cx, rfl⟩; dsimp only; exact hK.out ⟨0, undef, Ax, cx⟩ _ _ (by simp [up]) hb3 trivial (by simp))
    · first
      | exact fun _ _ _ => rfl
      | intro γ γ' hg
        try dsimp only
        have e11 := hg 11 (by decide)
        simp only [e11]
        try exact ⟨trivial, fun _ h => h⟩
    · intro γ W W' hbl hR
      first | exact hR.below hbl | exact own_below hR hbl | exact trivial | exact ⟨hR.1.below hbl, hR.2⟩
    · rfl
    dsimp only [nA, cA]
    apply RGW.on (i := 12) rfl
    · (simp only [gA, gB, gC] <;> rfl)
    · intro γ u W hcur hd
      obtain ⟨⟨h11, r11, -⟩, -⟩ := hd
      dsimp only at h11 r11
      (try simp only [h11])
      refine ⟨rfl, ?_⟩
      go_simp <;> (try go_bits) <;> with_reducible rfl
    · first
      | exact fun _ _ _ => rfl
      | intro γ γ' hg
        try dsimp only
        have e11 := hg 11 (by decide)
        simp only [e11]
    · rfl
    dsimp only [nA, cA]
    apply RGW.on (i := 13) rfl
    · (simp only [gA, gB, gC] <;> rfl)
    · intro γ u W hcur hd
      obtain ⟨⟨h0, -, -⟩, ⟨h11, r11, -⟩, ⟨h12, -, -⟩, -⟩ := hd
      dsimp only at h0 h11 h12 r11
      (try simp only [h0, h11, h12])
      refine ⟨rfl, ?_⟩
      go_simp <;> (try go_bits) <;> with_reducible rfl
    · first
      | exact fun _ _ _ => rfl
      | intro γ γ' hg
        try dsimp only
        have e11 := hg 11 (by decide)
        simp only [e11]
    · rfl
    dsimp only [nA, cA]
    refine RGW.skip (i := 14) rfl rfl ?_
    dsimp only [nA, cA]
    refine RGW.fin (fun γ u wj hwj hd hdis => ?_)
    obtain ⟨⟨h0, -, -⟩, ⟨h1, -, -⟩, ⟨h2, -, -⟩, ⟨h3, -, -⟩, ⟨h4, -, -⟩, ⟨h5, -, -⟩, ⟨h6, -, -⟩, ⟨h7, -, -⟩, ⟨h8, -, -⟩, ⟨h9, -, -⟩, ⟨h10, -, -⟩, ⟨h11, r11, b11⟩, ⟨h12, -, -⟩, ⟨h13, -, -⟩, -⟩ := hd
    dsimp only at h0 h1 h2 h3 h4 h5 h6 h7 h8 h9 h10 h11 h12 h13 r11 b11
    clear hdis
    simp only [h0, h1, h2, h3, h4, h5, h6, h7, h8, h9, h10, h11, h12, h13]
    clear h13 h12 h11 h10 h9 h8 h7 h6 h5 h4 h3 h2 h1 h0
    clear u
    simp only [List.map_cons, List.map_nil]
    apply PlanW.step
    · (simp only [gA, gB, gC] <;> rfl)
    · rfl
    intro K hK
    go_simp
    refine hK.out _ _ (by with_reducible first | assumption | exact bx_refl _ _) (fun hcur => ?_)
    clear hK K
    try simp only [Act.put, List.setIfInBounds_toArray, List.set_cons_zero, List.set_cons_succ]
    refine PlanW.done ?_
    have hb3 := bl_tt hwj
    have hbj := bl_tr hb0 hwj
    replace k0 := k0.below hwj
    go_wp2
    go_roundw
    case rel => exact ⟨k + 1, by omega, by go_num, by rw [hd.out] <;> rfl, hbj, k0⟩
    case measure => simp [intOf]; omega
end Go.Proofs.YtdlmkblmljhbfaaDoor
namespace Go.Proofs.YtdlmkblmljhbfaaDoor
set_option linter.unusedSimpArgs false
set_option linter.unusedVariables false
open Go.RowKit Go.Shelf
attribute [local go_sem] bl_al bl_drew bl_drewN bl_refl bx_al bx_drew bx_drewN bx_refl
set_option maxRecDepth 20000
/-- Streams that the laws take. -/
def fewB (l : List Sm) : Bool := decide ((l.length : Int) ≤ 8) && l.all fun s => decide ((s.name.size : Int) ≤ 30)
set_option maxHeartbeats 2000000 in
theorem r_fewStreams (l : List Sm) (A : Option Addr) (c : Nat) (w : World) (hs : Sl cSm 4 w A l) : Calls Tryd.prog 40 #[.slice A l.length c] w (Same (.bool (fewB l)) w) := by
  have Hs := Lib.hid hs
  clear hs
  by_cases h8 : (l.length : Int) ≤ 8
  rotate_left
  · have e : fewB l = false := by simp [fewB, h8]
    rw [e]
    have h8' : (8 : Int) < l.length := by omega
    clear e Hs
    generalize l.length = n at *
    go_enter Tryd.func40, Tryd.ntmps40
    go_wp2
    go_ret
    exact ⟨rfl, rfl⟩
  have he : fewB l = l.all fun s => decide ((s.name.size : Int) ≤ 30) := by simp [fewB, h8]
  have hst := Lib.hid fun k x (hx : l[k]? = some x) => (show ((l.drop k).all fun s => decide ((s.name.size : Int) ≤ 30)) = (decide ((x.name.size : Int) ≤ 30) && ((l.drop (k + 1)).all fun s => decide ((s.name.size : Int) ≤ 30))) by
    have hk := (List.getElem?_eq_some_iff.1 hx).1
    rw [List.drop_eq_getElem_cons hk, (List.getElem?_eq_some_iff.1 hx).2, List.all_cons])
  have hen : Hid (((l.drop l.length).all fun s => decide ((s.name.size : Int) ≤ 30)) = true) := Lib.hid (by rw [List.drop_length]; rfl)
  obtain ⟨g, hg⟩ : ∃ g : Nat → Bool, ∀ k, ((l.drop k).all fun s => decide ((s.name.size : Int) ≤ 30)) = g k := ⟨_, fun _ => rfl⟩
  have he0 : fewB l = g 0 := by rw [he, ← hg]; rfl
  rw [he0]
  simp only [hg] at hst hen
  clear hg he he0
  have h8' : ¬ (8 : Int) < l.length := by omega
  obtain ⟨n, Hn⟩ : ∃ n, Hid (l.length = n) := ⟨_, rfl⟩
  rw [Hn.out] at h8 h8' hen ⊢
  go_enter Tryd.func40, Tryd.ntmps40
  go_wp2
  go_loop [3] (fun i => ∃ k : Nat, k ≤ n ∧ i = .int .i64 k ∧ g 0 = g k) (fun i => n - (intOf i).toNat)
  case atStart => exact ⟨0, Nat.zero_le _, rfl, rfl⟩
  case round =>
    obtain ⟨k, hk, rfl, hi⟩ := hrel
    replace hi := Lib.hid hi
    by_cases hlt : k < n
    · have hx : l[k]? = some (l[k]'(by rw [Hn.out]; exact hlt)) := List.getElem?_eq_getElem _
      generalize l[k]'(by rw [Hn.out]; exact hlt) = x at hx
      have hs := hst.out k x hx
      obtain ⟨b, off, rfl, hc⟩ := Hs.out k x hx
      have c0 : w.cell? ⟨b, off + k * 4, none⟩ = some (.string x.name) := by simpa using hc 0 _ rfl
      clear hc hx
      by_cases hT : (x.name.size : Int) ≤ 30
      · have hT' : ¬ (30 : Int) < x.name.size := by omega
        have h2 : Hid (g k = g (k + 1)) := Lib.hid (by rw [hs]; simp [hT])
        clear hs hT
        go_wp2
        go_round
        case rel => exact ⟨k + 1, by omega, by go_num, by rw [hi.out, h2.out]⟩
        case measure => simp [intOf]; omega
      · have hT' : (30 : Int) < x.name.size := by omega
        have h2 : Hid (g k = false) := Lib.hid (by rw [hs]; simp [hT])
        clear hs hT
        go_wp2
        go_ret
        exact ⟨by rw [hi.out, h2.out] <;> rfl, rfl⟩
    · have e : k = n := by omega
      go_wp2
      go_ret
      exact ⟨by rw [hi.out, e, hen.out] <;> rfl, rfl⟩
theorem infoSm : (Tryd.prog.info? 82).map (fun i => (i.zero, i.size, i.bytes)) = some (some (.agg #[.string ByteArray.empty, .int .i64 0, .int .i64 0, .int .i64 0]), 4, 40) := by kernel_rfl
theorem r_CopyStreams (l : List Sm) (A : Option Addr) (c : Nat) (w : World) (hn : SmIn l A c w) : Calls Tryd.prog 44 #[.slice A l.length c] w (fun e w' => ∃ A2 c2, e = .returned (.slice A2 l.length c2) ∧ Below w.heap.size w w' ∧ SmIn l A2 c2 w') := by
  obtain ⟨i0, hi, hz0, hz1, hz2⟩ := info_parts infoSm
  have Hn := Lib.hid hn
  have hl := hn.len
  clear hn
  go_enter Tryd.func44, Tryd.ntmps44
  go_wp2_with (at_builtin; refine wpList_plain rfl fun _ hK => wp_copy (cs := cSm) (l := l) (A := A) (c := c) (g := w.heap.size) _ _ rfl Tryd.underlying74 hi hz0 hz1 hz2 rfl (by decide) (fun _ => rfl) (fun x u hu => by simp [cSm] at hu; rcases hu with h | h | h | h <;> subst h <;> rfl) rfl rfl (Hn.out.sl.below (bl_al _ (bl_refl _))) hl (by decide) (Blk.new w _ _) (fun A2 c2 w' ho hb => hK _ _ ?_))
  have hb2 : Below w.heap.size w w' := bl_tr (bl_al _ (bl_refl w)) hb
  replace ho := Lib.hid ho
  clear hb
  go_wp2
  go_ret
  refine ⟨A2, c2, rfl, hb2, Hn.out.len, ?_, Hn.out.nm, own_slC (cs := cSm) (fun _ => rfl) (by decide) ho.out⟩
  rcases ho.out.2 with ⟨e, h⟩ | ⟨_, _, _, e, _, _, h, _⟩
  · omega
  · injection e with _ _ e
    omega
theorem knownS_step (l : List Sm) (s : ByteArray) (j : Nat) (y : Sm) (hy : l[j]? = some y) : knownB ((l.take (j + 1)).map (·.name)) s = (knownB ((l.take j).map (·.name)) s || (y.name.toList == s.toList)) := by
  unfold knownB
  rw [List.take_add_one, hy]
  simp [List.any_append]
theorem knownS_hit (l : List Sm) (s : ByteArray) (j k : Nat) (y : Sm) (hy : l[j]? = some y) (hjk : j < k) (h : (y.name.toList == s.toList) = true) : knownB ((l.take k).map (·.name)) s = true := by
  unfold knownB
  rw [List.any_eq_true]
  refine ⟨y.name, ?_, h⟩
  have : (l.take k)[j]? = some y := by rw [List.getElem?_take, if_pos hjk]; exact hy
  exact List.mem_map.2 ⟨y, List.mem_of_getElem? this, rfl⟩
set_option maxHeartbeats 4000000 in
theorem r_CheckStreams (l : List Sm) (A : Option Addr) (c : Nat) (w : World) (hn : SmIn l A c w) :
    Calls Tryd.prog 94 #[.slice A l.length c] w (Ret (.tuple #[.int .i64 (smsChk l).1, .int .i64 (smsChk l).2]) w) := by
  have hN := Lib.hid hn
  have hr0 : Hid (lenE l.length 6 = fstE [unl (decide (0 < l.length)) 10, unl (decide ((l.length : Int) ≤ 6)) 8]) := rfl
  have hs1 : Hid (lenE l.length 6 = 0 → smsChk l = eachS (smErr l) l 0) := fun h => by rw [smsChk, if_pos h]
  have hs2 : Hid (lenE l.length 6 ≠ 0 → smsChk l = (0, lenE l.length 6)) := fun h => by rw [smsChk, if_neg h]
  clear hn
  obtain ⟨n, Hn⟩ : ∃ n, Hid (l.length = n) := ⟨_, rfl⟩
  rw [Hn.out] at hr0 hs1 hs2 ⊢
  by_cases h0 : n = 0
  · subst h0
    have e : smsChk l = (0, 10) := hs2.out (by decide)
    rw [e]
    go_enter Tryd.func94, Tryd.ntmps94
    go_wp2
    go_ret2
    exact ⟨rfl, bl_refl _⟩
  by_cases h6 : (n : Int) ≤ 6
  rotate_left
  · have e1 : lenE n 6 = 8 := by rw [hr0.out]; simp [fstE, unl, h6]; omega
    have e : smsChk l = (0, 8) := by rw [hs2.out (by rw [e1]; decide), e1]
    rw [e]
    have h0' : ((n : Int) == 0) = false := by simp; omega
    have h6' : (6 : Int) < n := by omega
    clear e e1 hr0 hs1 hs2
    go_enter Tryd.func94, Tryd.ntmps94
    go_wp2
    go_ret2
    exact ⟨rfl, bl_refl _⟩
  have e1 : lenE n 6 = 0 := by rw [hr0.out]; simp [fstE, unl, h6]; omega
  rw [hs1.out e1]
  have h0' : ((n : Int) == 0) = false := by simp; omega
  have h6' : ¬ (6 : Int) < n := by omega
  have hn6 : n ≤ 6 := by omega
  clear e1 hr0 hs1 hs2 h0 h6
  go_enter Tryd.func94, Tryd.ntmps94
  go_wp2
  clear h0' h6'
  go_loopw [4] (fun i wr => ∃ k : Nat, k ≤ n ∧ i = .int .i64 k ∧ Below w.heap.size w wr ∧ eachS (smErr l) l 0 = eachS (smErr l) (l.drop k) k) (fun i _ => n - (intOf i).toNat)
  case atStart => exact ⟨0, Nat.zero_le _, rfl, Below.refl _ _, rfl⟩
  case round =>
    obtain ⟨k, hk, rfl, hb0, hi⟩ := hrel
    replace hi := Lib.hid hi
    by_cases hlt : k < n
    · have hx : l[k]? = some (l[k]'(by rw [Hn.out]; exact hlt)) := List.getElem?_eq_getElem _
      generalize l[k]'(by rw [Hn.out]; exact hlt) = x at hx
      have hm : x ∈ l := List.mem_of_getElem? hx
      have hd := Lib.hid (eachS_drop (smErr l) l k x hx)
      have hnm := Lib.hid (hN.out.nm x hm)
      obtain ⟨b, off, hA, hc⟩ := hN.out.sl k x hx
      have hS : Hid (Sl cSm 4 w (some ⟨b, off, none⟩) l) := by rw [← hA]; exact hN.out.sl
      have c0 : wr.cell? ⟨b, off + k * 4, none⟩ = some (.string x.name) := by simpa using kcell hb0 (hc 0 _ rfl)
      have c1 : wr.cell? ⟨b, off + k * 4 + 1, none⟩ = some (.int .i64 x.per) := by simpa using kcell hb0 (hc 1 _ rfl)
      have c2 : wr.cell? ⟨b, off + k * 4 + 2, none⟩ = some (.int .i64 x.dl) := by simpa using kcell hb0 (hc 2 _ rfl)
      have c3 : wr.cell? ⟨b, off + k * 4 + 3, none⟩ = some (.int .i64 x.len) := by simpa using kcell hb0 (hc 3 _ rfl)
      have hre : smErr l k x = fstE [unl (nameB x.name) 4, unl (!knownB ((l.take k).map (·.name)) x.name) 5, unl (inR x.per 1 60 && (inR x.dl 1 x.per && inR x.len 1 20)) 2] := rfl
      clear hc hm hx
      obtain ⟨bn, h⟩ : ∃ b', nameB x.name = b' := ⟨_, rfl⟩
      have hcn := Lib.hid fun W : World => h ▸ r_IsName x.name W hnm.out
      rw [h] at hre
      clear h
      obtain ⟨ba, h⟩ : ∃ b', inR x.per 1 60 = b' := ⟨_, rfl⟩
      have hca := Lib.hid fun W : World => h ▸ r_Within x.per 1 60 W
      rw [h] at hre
      clear h
      obtain ⟨bb, h⟩ : ∃ b', inR x.dl 1 x.per = b' := ⟨_, rfl⟩
      have hcb := Lib.hid fun W : World => h ▸ r_Within x.dl 1 x.per W
      rw [h] at hre
      clear h
      obtain ⟨bc, h⟩ : ∃ b', inR x.len 1 20 = b' := ⟨_, rfl⟩
      have hcc := Lib.hid fun W : World => h ▸ r_Within x.len 1 20 W
      rw [h] at hre
      clear h
      subst hA
      obtain ⟨xn, xp, xd, xl⟩ := x
      dsimp only at *
      go_upto_region 9 with fail
      have hqw := hb0.size
      first
      | apply absB1 (w0 := w) (g0 := wr.heap.size)
      | apply absTB1 (w0 := w) (g0 := wr.heap.size)
      | apply absIB1 (w0 := w) (g0 := wr.heap.size)
      iterate 2 (focus ((with_reducible (repeat' (first | assumption | apply jA | apply jB | apply jC | apply jD | apply jE | apply jF | apply hb3 | apply jG | apply jH | apply jI | apply jJ | apply jK | apply hb3x | (apply jL; first | (simp; done) | rfl) | apply jM | apply jN | apply jO | apply jP | apply jQ | apply jR | apply jS | apply jT (hb := hb3 _ (jA _)) | omega | (simp; done) | (simp; omega) | (dsimp only; omega)))); done))
      intro wb hb0' k0'
      (try simp only [List.setIfInBounds_toArray, List.set_cons_zero, List.set_cons_succ] at k0')
      try clear hb3
      try clear hb0
      try clear k0
      have hb0 := hb0'; clear hb0'
      have k0 := k0'; clear k0'
      clear c0 c1 c2 c3
      have L0 := k0.cell
      cases bn
      · replace hre := Lib.hid hre
        go_wp2_with (go_at_call 114; (with_reducible refine (hcn.out _).mono ?_); rintro e w3 ⟨rfl, hb3⟩)
        go_ret2
        exact ⟨by rw [hi.out, hd.out, hre.out] <;> rfl, bl_tr hb0 hb3⟩
      go_upto_region 11 with (go_at_call 114; (with_reducible refine (hcn.out _).mono ?_); rintro e w3 ⟨rfl, hb3⟩)
      clear L0
      replace hb0 := bl_tr hb0 hb3
      replace k0 := k0.below hb3
      clear hb3 hcn
      go_wp2
      obtain ⟨wo, rfl⟩ : ∃ wo : World, wo = wr := ⟨_, rfl⟩
      go_loopw [6] (fun i wi => ∃ j : Nat, j ≤ k ∧ i = .int .i64 j ∧ Below w.heap.size w wi ∧ Blk wi wo.heap.size 82 #[.string xn, .int .i64 xp, .int .i64 xd, .int .i64 xl] ∧ knownB ((l.take j).map (·.name)) xn = false) (fun i _ => k - (intOf i).toNat)
      case atStart => exact ⟨0, Nat.zero_le _, rfl, hb0, k0, by simp [knownB]⟩
      case round =>
        clear hb0 k0
        obtain ⟨j, hj, rfl, hb0, k0, hkn⟩ := hrel
        replace hkn := Lib.hid hkn
        by_cases hjk : j < k
        · have hy : l[j]? = some (l[j]'(by rw [Hn.out]; omega)) := List.getElem?_eq_getElem _
          generalize l[j]'(by rw [Hn.out]; omega) = y at hy
          obtain ⟨b2, off2, e2, hc2⟩ := hS.out j y hy
          cases e2
          have d0 : ∀ W, Below wr.heap.size wr W → W.cell? ⟨b, off + j * 4, none⟩ = some (.string y.name) := later (by simpa using kcell hb0 (hc2 0 _ rfl))
          have hks := Lib.hid (knownS_step l xn j y hy)
          have hkh := Lib.hid (knownS_hit l xn j k y hy hjk)
          clear hc2 hy
          have hjn : (j : Int) < n := by omega
          have hjn2 : j < n := by omega
          go_upto_region 14 with fail
          have Lk0 := k0.later
          have Fk0 := k0.laterF
          have Qk0 := k0.lt
          refine wp_any (w0 := wr) ⟨[], [], [some 33, some 34, some 35, some 36, some 37, some 38, some 39, some 40], [[], [], [0, 1], [0, 1, 2], [0, 1, 2, 3], [], [5], [0, 1, 2, 3, 4, 5, 6]], [[], [], [0, 1], [2], [3], [], [5], [4, 6]]⟩ (fun _ => []) (by kernel_rfl) (by kernel_rfl) (by (with_reducible (repeat' (first | assumption | apply jA | apply jB | apply jC | apply jD | apply jE | apply jF | apply hb3 | omega | (simp; done) | (simp; omega) | (dsimp only; omega))))) (fun u => by simp only [putD, Act.put, List.setIfInBounds_toArray, List.set_cons_zero, List.set_cons_succ, Nat.zero_add, Nat.reduceAdd]; rfl) ?_
          apply RGW.on (i := 0) rfl
          · (simp only [gA, gB, gC] <;> rfl)
          · intro γ u W hcur hd
            clear hd
            (try dsimp only)
            refine ⟨rfl, ?_⟩
            go_simp <;> (try go_bits) <;> with_reducible rfl
          · exact fun _ _ _ => rfl
          · rfl
          dsimp only [nA, cA]
          apply RGW.on (i := 1) rfl
          · (simp only [gA, gB, gC] <;> rfl)
          · intro γ u W hcur hd
            clear hd
            (try dsimp only)
            refine ⟨rfl, ?_⟩
            go_simp <;> (try go_bits) <;> with_reducible rfl
          · exact fun _ _ _ => rfl
          · rfl
          dsimp only [nA, cA]
          apply RGW.on (i := 2) rfl
          · (simp only [gA, gB, gC] <;> rfl)
          · intro γ u W hcur hd
            obtain ⟨⟨h0, -, -⟩, ⟨h1, -, -⟩, -⟩ := hd
            dsimp only at h0 h1
            (try simp only [h0, h1])
            refine ⟨rfl, ?_⟩
            go_simp <;> (try go_bits) <;> with_reducible rfl
          · exact fun _ _ _ => rfl
          · rfl
          dsimp only [nA, cA]
          apply RGW.on (i := 3) rfl
          · (simp only [gA, gB, gC] <;> rfl)
          · intro γ u W hcur hd
            obtain ⟨⟨h2, -, -⟩, -⟩ := hd
            dsimp only at h2
            (try simp only [h2])
            refine ⟨rfl, ?_⟩
            go_simp <;> (try go_bits) <;> with_reducible rfl
          · exact fun _ _ _ => rfl
          · rfl
          dsimp only [nA, cA]
          apply RGW.on (i := 4) rfl
          · (simp only [gA, gB, gC] <;> rfl)
          · intro γ u W hcur hd
            obtain ⟨⟨h3, -, -⟩, -⟩ := hd
            dsimp only at h3
            (try simp only [h3])
            refine ⟨rfl, ?_⟩
            go_simp <;> (try go_bits) <;> with_reducible rfl
          · exact fun _ _ _ => rfl
          · rfl
          dsimp only [nA, cA]
          apply RGW.on (i := 5) rfl
          · (simp only [gA, gB, gC] <;> rfl)
          · intro γ u W hcur hd
            clear hd
            (try dsimp only)
            refine ⟨rfl, ?_⟩
            go_simp <;> (try go_bits) <;> with_reducible rfl
          · exact fun _ _ _ => rfl
          · rfl
          dsimp only [nA, cA]
          apply RGW.on (i := 6) rfl
          · (simp only [gA, gB, gC] <;> rfl)
          · intro γ u W hcur hd
            obtain ⟨⟨h5, -, -⟩, -⟩ := hd
            dsimp only at h5
            (try simp only [h5])
            refine ⟨rfl, ?_⟩
            go_simp <;> (try go_bits) <;> with_reducible rfl
          · exact fun _ _ _ => rfl
          · rfl
          dsimp only [nA, cA]
          apply RGW.on (i := 7) rfl
          · (simp only [gA, gB, gC] <;> rfl)
          · intro γ u W hcur hd
            obtain ⟨⟨h4, -, -⟩, ⟨h6, -, -⟩, -⟩ := hd
            dsimp only at h4 h6
            (try simp only [h4, h6])
            refine ⟨rfl, ?_⟩
            go_simp <;> (try go_bits) <;> with_reducible rfl
          · exact fun _ _ _ => rfl
          · rfl
          dsimp only [nA, cA]
          refine RGW.fin (fun γ u wj hwj hd hdis => ?_)
          obtain ⟨⟨h0, -, -⟩, ⟨h1, -, -⟩, ⟨h2, -, -⟩, ⟨h3, -, -⟩, ⟨h4, -, -⟩, ⟨h5, -, -⟩, ⟨h6, -, -⟩, ⟨h7, -, -⟩, -⟩ := hd
          dsimp only at h0 h1 h2 h3 h4 h5 h6 h7
          clear hdis
          simp only [h0, h1, h2, h3, h4, h5, h6, h7]
          clear h7 h6 h5 h4 h3 h2 h1 h0
          clear u
          simp only [List.map_nil]
          refine PlanW.done ?_
          have hb3 := bl_tt hwj
          have hbj := bl_tr hb0 hwj
          have kj := k0.below hwj
          cases hyx : y.name.toList == xn.toList
          · go_wp2
            go_roundw
            case rel => exact ⟨j + 1, by omega, by go_num, hbj, kj, by rw [hks.out, hkn.out, hyx]; rfl⟩
            case measure => simp [intOf]; omega
          · rw [hkh.out hyx] at hre
            replace hre := Lib.hid hre
            go_wp2
            go_ret2
            exact ⟨by rw [hi.out, hd.out, hre.out] <;> rfl, hbj⟩
        · obtain rfl : j = k := by omega
          rw [hkn.out] at hre
          have L0 := k0.cell
          cases ba
          · replace hre := Lib.hid hre
            go_wp2_with (go_at_call 21; (first | (with_reducible refine (hca.out _).mono ?_) | (with_reducible refine (hcb.out _).mono ?_) | (with_reducible refine (hcc.out _).mono ?_)); rintro e w3 ⟨rfl, rfl⟩)
            go_ret2
            exact ⟨by rw [hi.out, hd.out, hre.out] <;> rfl, hb0⟩
          cases bb
          · replace hre := Lib.hid hre
            go_wp2_with (go_at_call 21; (first | (with_reducible refine (hca.out _).mono ?_) | (with_reducible refine (hcb.out _).mono ?_) | (with_reducible refine (hcc.out _).mono ?_)); rintro e w3 ⟨rfl, rfl⟩)
            go_ret2
            exact ⟨by rw [hi.out, hd.out, hre.out] <;> rfl, hb0⟩
          cases bc
          · replace hre := Lib.hid hre
            go_wp2_with (go_at_call 21; (first | (with_reducible refine (hca.out _).mono ?_) | (with_reducible refine (hcb.out _).mono ?_) | (with_reducible refine (hcc.out _).mono ?_)); rintro e w3 ⟨rfl, rfl⟩)
            go_ret2
            exact ⟨by rw [hi.out, hd.out, hre.out] <;> rfl, hb0⟩
          replace hre := Lib.hid hre
          go_wp2_with (go_at_call 21; (first | (with_reducible refine (hca.out _).mono ?_) | (with_reducible refine (hcb.out _).mono ?_) | (with_reducible refine (hcc.out _).mono ?_)); rintro e w3 ⟨rfl, rfl⟩)
          go_roundw
          case rel => exact ⟨j + 1, by omega, by go_num, hb0, by rw [hi.out, hd.out, hre.out] <;> rfl⟩
          case measure => simp [intOf]; omega
    · go_wp2
      go_ret2
      have : k = l.length := by have := Hn.out; omega
      exact ⟨by rw [hi.out, this]; simp [eachS], hb0⟩
theorem r_StreamsErr (l : List Sm) (A : Option Addr) (c : Nat) (w : World) (hn : SmIn l A c w) : Calls Tryd.prog 41 #[.slice A l.length c] w (Ret (.int .i64 (smsErr l)) w) := by
  have hcall := Lib.hid (r_CheckStreams l A c w hn)
  have he : Hid ((smsChk l).2 = smsErr l) := rfl
  clear hn
  generalize l.length = n at *
  go_enter Tryd.func41, Tryd.ntmps41
  go_wp2_with fail
  refine hcall.out.mono ?_
  rintro e w3 ⟨rfl, hb3⟩
  go_wp2
  go_ret
  exact ⟨by rw [he.out] <;> rfl, hb3⟩
end Go.Proofs.YtdlmkblmljhbfaaDoor
namespace Go.Proofs.YtdlmkblmljhbfaaDoor
set_option linter.unusedSimpArgs false
set_option linter.unusedVariables false
open Go.RowKit Go.Shelf
attribute [local go_sem] bl_al bl_drew bl_drewN bl_refl bx_al bx_drew bx_drewN bx_refl
set_option maxRecDepth 20000
theorem infoS : (Tryd.prog.info? 9).map (fun i => (i.zero, i.size, i.bytes)) = some (some (.string ByteArray.empty), 1, 16) := by kernel_rfl
theorem infoLs : (Tryd.prog.info? 22).map (fun i => (i.zero, i.size, i.bytes)) = some (some (.slice none 0 0), 1, 24) := by kernel_rfl
theorem infoFu : (Tryd.prog.info? 129).map (fun i => (i.zero, i.size, i.bytes)) = some (some (.agg #[.string ByteArray.empty, .slice none 0 0]), 2, 40) := by kernel_rfl
theorem infoMd : (Tryd.prog.info? 71).map (fun i => (i.zero, i.size, i.bytes)) = some (some (.agg #[.string ByteArray.empty, .slice none 0 0]), 2, 40) := by kernel_rfl
/-- No block among these is of that type. -/
def NoT (X : List Nat) (W : World) (e : TypeId) : Prop := ∀ g ∈ X, ∀ cs, W.heap[g]? ≠ some (.cells cs e (0, 0))
theorem own_keepT {W W' : World} {base n size : Nat} {e : TypeId} {v : Value} {xs : List Value} {X : List Nat} (h : W.ownsRow base e size v n xs) (hb : BX X W W') (hX : NoT X W e) : W'.ownsRow base e size v n xs :=
  own_bxT h hb fun k hk hm => by
    rcases h.2 with ⟨rfl, _⟩ | ⟨g, cap, cur, rfl, _, hg, _⟩
    · simp [Value.ownBlock] at hk
    · have : g = k := by simpa [Value.ownBlock] using hk
      subst this
      exact hX g hm cur hg
theorem noT_own {W : World} {base n size : Nat} {e e' : TypeId} {v : Value} {xs : List Value} (h : W.ownsRow base e size v n xs) (hne : e ≠ e') : NoT (ownL v) W e' := fun g hg cs hc => by
  rcases h.2 with ⟨rfl, _⟩ | ⟨k, cap, cur, rfl, _, hk, _⟩
  · simp [ownL, Value.ownBlock] at hg
  · obtain rfl : g = k := by simpa [ownL, Value.ownBlock] using hg
    rw [hk] at hc
    injection hc with hc
    injection hc with _ hc _
    exact hne hc
theorem noT_blk {W : World} {g : Nat} {t e : TypeId} {cs : Array Value} {X : List Nat} (h : Blk W g t cs) (hne : t ≠ e) (hX : NoT X W e) : NoT (g :: X) W e := fun k hk cs' hc => by
  rcases List.mem_cons.1 hk with rfl | hk
  · have h2 : W.heap[k]? = some (.cells cs t (0, 0)) := h
    rw [h2] at hc
    injection hc with hc
    injection hc with _ hc _
    exact hne hc
  · exact hX k hk cs' hc
structure RwO (r : Rw) (W : World) : Prop where
  len : r.l.length ≤ 1000
  own : W.ownsRow 0 3 1 (.slice r.A r.l.length r.c) r.l.length (r.l.map (.int .i64))
structure FuO (f : Fu) (W : World) : Prop where
  nm : f.name.size ≤ maxLen
  len : f.ws.length ≤ 1000
  own : W.ownsRow 0 22 1 (.slice f.A f.ws.length f.c) f.ws.length (f.ws.flatMap cRw)
  rows : ∀ r ∈ f.ws, RwO r W
structure MdO (m : Md) (W : World) : Prop where
  nm : m.name.size ≤ maxLen
  row : RwO m.r W
theorem own_cap {W : World} {b n c sz : Nat} {e : TypeId} {A : Option Addr} {xs : List Value} (h : W.ownsRow b e sz (.slice A n c) n xs) : n ≤ c := by
  rcases h.2 with ⟨e, h⟩ | ⟨_, _, _, e, _, _, h, _⟩
  · omega
  · injection e with _ _ e
    omega
theorem RwO.row {r : Rw} {W : World} (h : RwO r W) : RwIn r W := ⟨h.len, own_cap h.own, own_sl h.own⟩
theorem FuO.fu {f : Fu} {W : World} (h : FuO f W) : FuIn f W := ⟨h.nm, h.len, own_cap h.own, own_slC (cs := cRw) (fun _ => rfl) (by decide) h.own, fun r hr => (h.rows r hr).row⟩
theorem MdO.md {m : Md} {W : World} (h : MdO m W) : MdIn m W := ⟨h.nm, h.row.row⟩
theorem RwO.keep {r : Rw} {X : List Nat} {W W' : World} (h : RwO r W) (hb : BX X W W') (hX : NoT X W 3) : RwO r W' := ⟨h.len, own_keepT h.own hb hX⟩
theorem FuO.keep {f : Fu} {X : List Nat} {W W' : World} (h : FuO f W) (hb : BX X W W') (hX : NoT X W 3) (hY : NoT X W 22) : FuO f W' := ⟨h.nm, h.len, own_keepT h.own hb hY, fun r hr => (h.rows r hr).keep hb hX⟩
theorem MdO.keep {m : Md} {X : List Nat} {W W' : World} (h : MdO m W) (hb : BX X W W') (hX : NoT X W 3) : MdO m W' := ⟨h.nm, h.row.keep hb hX⟩
theorem noT_nil (W : World) (e : TypeId) : NoT [] W e := fun g hg => by simp at hg
theorem RwO.below {r : Rw} {W W' : World} (h : RwO r W) (hb : Below W.heap.size W W') : RwO r W' := h.keep (bx_bl [] hb) (noT_nil _ _)
theorem FuO.below {f : Fu} {W W' : World} (h : FuO f W) (hb : Below W.heap.size W W') : FuO f W' := h.keep (bx_bl [] hb) (noT_nil _ _) (noT_nil _ _)
theorem MdO.below {m : Md} {W W' : World} (h : MdO m W) (hb : Below W.heap.size W W') : MdO m W' := h.keep (bx_bl [] hb) (noT_nil _ _)
set_option maxHeartbeats 2000000 in
theorem r_CopyTexts (l : List ByteArray) (A : Option Addr) (c : Nat) (w : World) (hs : Sl cS 1 w A l) (hl : l.length ≤ 1000) :
    Calls Tryd.prog 88 #[.slice A l.length c] w (fun e w' => ∃ A2 c2, e = .returned (.slice A2 l.length c2) ∧ Below w.heap.size w w' ∧ w'.ownsRow w.heap.size 9 1 (.slice A2 l.length c2) l.length (l.flatMap cS)) := by
  obtain ⟨i0, hi, hz0, hz1, hz2⟩ := info_parts infoS
  have Hs := Lib.hid hs
  clear hs
  go_enter Tryd.func88, Tryd.ntmps88
  go_wp2_with (at_builtin; refine wpList_plain rfl fun _ hK => wp_copy (cs := cS) (l := l) (A := A) (c := c) (g := w.heap.size) _ _ rfl Tryd.underlying57 hi hz0 hz1 hz2 rfl (by decide) (fun _ => rfl) (fun x u hu => by simp [cS] at hu; subst hu; rfl) rfl rfl (Hs.out.below (bl_al _ (bl_refl _))) hl (by decide) (Blk.new w _ _) (fun A2 c2 w' ho hb => hK _ _ ?_))
  have hb2 : Below w.heap.size w w' := bl_tr (bl_al _ (bl_refl w)) hb
  replace ho := Lib.hid ho
  clear hb
  go_wp2
  go_ret
  exact ⟨A2, c2, rfl, hb2, ho.out⟩
/-- A copy of lists of numbers. -/
def LsO (ls : List (List Int)) (A : Option Addr) (c : Nat) (W : World) : Prop :=
  ∃ ws : List Rw, (ws.map fun r : Rw => r.l) = ls ∧ W.ownsRow 0 22 1 (.slice A ls.length c) ls.length (ws.flatMap cRw) ∧ ∀ r ∈ ws, RwO r W
theorem LsO.below {ls : List (List Int)} {A : Option Addr} {c : Nat} {W W' : World} (h : LsO ls A c W) (hb : Below W.heap.size W W') : LsO ls A c W' := by
  obtain ⟨ws, h1, h2, h3⟩ := h
  exact ⟨ws, h1, own_below h2 hb, fun r hr => (h3 r hr).below hb⟩
set_option maxHeartbeats 4000000 in
theorem r_CopyLists (ls : List Rw) (A : Option Addr) (c : Nat) (w : World) (hs : Sl cRw 1 w A ls) (hr : ∀ r ∈ ls, RwIn r w) (hl : ls.length ≤ 1000) :
    Calls Tryd.prog 89 #[.slice A ls.length c] w (fun e w' => ∃ A2 c2, e = .returned (.slice A2 ls.length c2) ∧ Below w.heap.size w w' ∧ LsO (ls.map fun r : Rw => r.l) A2 c2 w') := by
  obtain ⟨i0, hi, hz0, hz1, hz2⟩ := info_parts infoLs
  have hci := Lib.hid fun (r : Rw) (h : r ∈ ls) W (hb : Below w.heap.size w W) => r_CopyInts r.l r.A r.c W ((hr r h).sl.below hb) (hr r h).len
  have hrl := Lib.hid fun (r : Rw) (h : r ∈ ls) => (hr r h).len
  have Hs := Lib.hid hs
  clear hs hr
  obtain ⟨n, Hn⟩ : ∃ n, Hid (ls.length = n) := ⟨_, rfl⟩
  rw [Hn.out] at hl ⊢
  go_enter Tryd.func89, Tryd.ntmps89
  go_wp2
  go_loopw [3, 4] (fun v i wr => ∃ (k : Nat) (ws : List Rw), k ≤ n ∧ i = .int .i64 k ∧ (ws.map fun r : Rw => r.l) = (ls.take k).map (fun r : Rw => r.l) ∧ Below w.heap.size w wr ∧ wr.ownsRow w.heap.size 22 1 v k (ws.flatMap cRw) ∧ ∀ r ∈ ws, RwO r wr) (fun _ i _ => n - (intOf i).toNat)
  case atStart => exact ⟨0, [], Nat.zero_le _, rfl, rfl, bl_refl _, World.ownsRow_nil _ _ _ _, fun r hr => by simp at hr⟩
  case round =>
    obtain ⟨k, ws, hk, rfl, hws, hb0, ho, hro⟩ := hrel
    replace hws := Lib.hid hws
    replace ho := Lib.hid ho
    replace hro := Lib.hid hro
    by_cases hkn : k < n
    rotate_left
    · obtain rfl : n = k := by omega
      obtain ⟨A5, c5, hv⟩ := own_slice ho.out
      subst hv
      go_wp2
      go_ret
      refine ⟨A5, c5, rfl, hb0, ws, ?_, ?_, hro.out⟩
      · rw [hws.out, ← Hn.out, List.take_length]
      · have e : (ls.map fun r : Rw => r.l).length = n := by rw [List.length_map, Hn.out]
        rw [e]
        exact own_mono (Nat.zero_le _) ho.out
    have hx : ls[k]? = some (ls[k]'(by rw [Hn.out]; exact hkn)) := List.getElem?_eq_getElem _
    generalize ls[k]'(by rw [Hn.out]; exact hkn) = r at hx
    have hm := List.mem_of_getElem? hx
    have hcr := Lib.hid (hci.out r hm)
    have hrn := hrl.out r hm
    have htk := Lib.hid (show (ls.take (k + 1)).map (fun r : Rw => r.l) = (ls.take k).map (fun r : Rw => r.l) ++ [r.l] by rw [List.take_add_one, hx]; simp)
    obtain ⟨b, off, rfl, hc⟩ := Hs.out k r hx
    have c0 : wr.cell? ⟨b, off + k, none⟩ = some (.slice r.A r.l.length r.c) := by simpa using kcell hb0 (hc 0 _ rfl)
    clear hc hx hm
    obtain ⟨rA, rc, rl⟩ := r
    dsimp only at *
    obtain ⟨ll, Hl⟩ : ∃ k, Hid (rl.length = k) := ⟨_, rfl⟩
    rw [Hl.out] at c0 hcr hrn
    go_wp2_with fail
    refine (hcr.out _ hb0).mono ?_
    rintro e w3 ⟨A2, c2, rfl, hb3, ho3⟩
    rw [Hl.out]
    have hoB := Lib.hid (own_below ho.out (bl_tr hb3 (bl_al (.cells #[.slice A2 ll c2] 22) (bl_refl w3))))
    have hkB := Lib.hid (Blk.new w3 22 #[.slice A2 ll c2])
    have hsz := hb0.size
    have hsz3 := hb3.size
    clear c0 hcr
    go_wp2_with (at_builtin; refine wpList_plain rfl fun _ hK => wp_appT _ _ rfl Tryd.underlying127 hi hz0 hz1 hz2 rfl (by decide) _ k _ [.slice A2 ll c2] rfl rfl hoB.out hkB.out rfl (by intro u hu; simp at hu; subst hu; rfl) (by unfold maxLen; omega) (by omega) (by simp; omega) (fun v' w4 hown hbx hv' => hK _ _ ?_))
    have hbn := bl_al (.cells #[.slice A2 ll c2] 22) (bl_refl w3)
    have hge := ownL_ge hoB.out
    have hb9 : Below w.heap.size w w4 := bx_below (bl_tr (bl_tr hb0 hb3) hbn) hbx hge
    have hnoT := noT_own hoB.out (show 22 ≠ 3 by decide)
    have hnew : RwO ⟨A2, c2, rl⟩ w4 := ⟨by rw [Hl.out]; exact hrn, own_keepT (own_below (own_mono (Nat.zero_le _) ho3) hbn) hbx hnoT⟩
    have hold : ∀ r ∈ ws, RwO r w4 := fun r hr => (((hro.out r hr).below hb3).below hbn).keep hbx hnoT
    have hown9 := Lib.hid (show w4.ownsRow w.heap.size 22 1 v' (k + 1) ((ws ++ [(⟨A2, c2, rl⟩ : Rw)]).flatMap cRw) by
      have e : (ws ++ [(⟨A2, c2, rl⟩ : Rw)]).flatMap cRw = ws.flatMap cRw ++ [.slice A2 ll c2] := by rw [← Hl.out]; simp [cRw]
      rw [e]
      exact hown)
    clear hoB hkB hge hbx hown hv' hnoT hbn ho ho3 hb0 hb3
    go_wp2
    go_roundw
    case rel =>
      refine ⟨k + 1, ws ++ [⟨A2, c2, rl⟩], by omega, by go_num, ?_, hb9, hown9.out, fun r hr => ?_⟩
      · rw [List.map_append, hws.out, htk.out]
        rfl
      · rcases List.mem_append.1 hr with hr | hr
        · exact hold r hr
        · have := List.mem_singleton.1 hr
          subst this
          exact hnew
    case measure => simp [intOf]; omega
end Go.Proofs.YtdlmkblmljhbfaaDoor
namespace Go.Proofs.YtdlmkblmljhbfaaDoor
set_option linter.unusedSimpArgs false
set_option linter.unusedVariables false
open Go.RowKit Go.Shelf
attribute [local go_sem] bl_al bl_drew bl_drewN bl_refl bx_al bx_drew bx_drewN bx_refl
set_option maxRecDepth 20000
theorem absPN {P : Program} {fn : Func} {R : Ending → World → Prop} {x : Exit} {a : Act} {w : World} (C : World → Prop) (hC : C w) (h : ∀ W, C W → bodyPost P fn R x a W) : bodyPost P fn R x a w := h w hC
set_option maxHeartbeats 8000000 in
theorem r_CopyNet (n : Nt) (Ap Af Am : Option Addr) (cp cf cm : Nat) (w : World) (hn : NtIn n Ap Af Am cp cf cm w) :
    Calls Tryd.prog 34 #[vNt Ap Af Am n.ps.length n.fs.length n.ms.length cp cf cm] w (fun e w' => Below w.heap.size w w' ∧ ∃ (m : Nt) (Bp Bf Bm : Option Addr) (dp df dm : Nat), NtEq n m ∧ NtIn m Bp Bf Bm dp df dm w' ∧ e = .returned (vNt Bp Bf Bm n.ps.length n.fs.length n.ms.length dp df dm)) := by
  obtain ⟨i1, hi1, hy0, hy1, hy2⟩ := info_parts infoFu
  obtain ⟨i2, hi2, hx0, hx1, hx2⟩ := info_parts infoMd
  have Hn := Lib.hid hn
  have g1 := hn.plen
  have g2 := hn.flen
  have g3 := hn.mlen
  have hct := Lib.hid fun W (hb : Below w.heap.size w W) => r_CopyTexts n.ps Ap cp W (hn.psl.below hb) g1
  have hcl := Lib.hid fun (f : Fu) (h : f ∈ n.fs) W (hb : Below w.heap.size w W) => r_CopyLists f.ws f.A f.c W ((hn.fin f h).sl.below hb) (fun r hr => ((hn.fin f h).rows r hr).below hb) (hn.fin f h).len
  have hci := Lib.hid fun (m : Md) (h : m ∈ n.ms) W (hb : Below w.heap.size w W) => r_CopyInts m.r.l m.r.A m.r.c W ((hn.min m h).row.sl.below hb) (hn.min m h).row.len
  clear hn
  change Calls Tryd.prog 34 #[.agg #[.slice Ap n.ps.length cp, .slice Af n.fs.length cf, .slice Am n.ms.length cm]] w _
  obtain ⟨np, Hp⟩ : ∃ k, Hid (n.ps.length = k) := ⟨_, rfl⟩
  obtain ⟨nf, Hf⟩ : ∃ k, Hid (n.fs.length = k) := ⟨_, rfl⟩
  obtain ⟨nm, Hm⟩ : ∃ k, Hid (n.ms.length = k) := ⟨_, rfl⟩
  rw [Hp.out] at g1 hct ⊢
  rw [Hf.out] at g2 ⊢
  rw [Hm.out] at g3 ⊢
  go_enter Tryd.func34, Tryd.ntmps34
  go_upto_region 1 with fail
  first
  | apply absB2 (w0 := w) (g0 := w.heap.size) (g1 := w.heap.size + 1)
  | apply absTB2 (w0 := w) (g0 := w.heap.size) (g1 := w.heap.size + 1)
  | apply absIB2 (w0 := w) (g0 := w.heap.size) (g1 := w.heap.size + 1)
  iterate 3 (focus ((with_reducible (repeat' (first | assumption | apply jA | apply jB | apply jC | apply jD | apply jE | apply jF | apply hb3 | apply jG | apply jH | apply jI | apply jJ | apply jK | apply hb3x | (apply jL; first | (simp; done) | rfl) | apply jM | apply jN | apply jO | apply jP | apply jQ | apply jR | apply jS | apply jT (hb := hb3 _ (jA _)) | omega | (simp; done) | (simp; omega) | (dsimp only; omega)))); done))
  intro wa hb0' k0' k1'
  (try simp only [List.setIfInBounds_toArray, List.set_cons_zero, List.set_cons_succ] at k0' k1')
  try clear hb3
  try clear hb0
  try clear k0
  try clear k1
  have hb0 := hb0'; clear hb0'
  have k0 := k0'; clear k0'
  have k1 := k1'; clear k1'
  have L0 := k0.cell
  go_wp2_with fail
  refine (hct.out _ hb0).mono ?_
  rintro e w3 ⟨Bp, dp, rfl, hb3, hop⟩
  replace hop := Lib.hid hop
  have hz3 := hb3.size
  have hz0 := hb0.size
  have q1 := k1.lt
  replace hb0 := bl_tr hb0 hb3
  replace k0 := k0.below hb3
  replace k1 := k1.below hb3
  clear L0
  go_upto_region 2 with fail
  have kO := Blk.new w3 61 #[.slice Bp np dp, .slice none 0 0, .slice none 0 0]
  have hbA := bl_al (.cells #[.slice Bp np dp, .slice none 0 0, .slice none 0 0] 61) (bl_refl w3)
  replace hop := Lib.hid (own_below (own_mono (Nat.zero_le _) hop.out) hbA)
  replace hb0 := bl_tr hb0 hbA
  replace k0 := k0.below hbA
  replace k1 := k1.below hbA
  have hsA := kO.lt
  generalize hg0 : w3.heap.size = gO at *
  generalize w3.alloc (.cells #[.slice Bp np dp, .slice none 0 0, .slice none 0 0] 61) = wA at *
  have hgO : w.heap.size + 1 < gO := by omega
  clear hbA hb3 hg0
  go_wp2
  go_loopw [4] (fun i wr => ∃ (k : Nat) (fs : List Fu) (v : Value), k ≤ nf ∧ i = .int .i64 k ∧ fs.map Fu.con = (n.fs.take k).map Fu.con ∧ Below w.heap.size w wr ∧ Blk wr w.heap.size 61 #[.slice Ap np cp, .slice Af nf cf, .slice Am nm cm] ∧ Blk wr (w.heap.size + 1) 61 #[.slice none 0 0, .slice none 0 0, .slice none 0 0] ∧
    Blk wr gO 61 #[.slice Bp np dp, v, .slice none 0 0] ∧ wr.ownsRow 0 9 1 (.slice Bp np dp) np (n.ps.flatMap cS) ∧ wr.ownsRow (gO + 1) 129 2 v k (fs.flatMap cFu) ∧ ∀ f ∈ fs, FuO f wr) (fun i _ => nf - (intOf i).toNat)
  case atStart => exact ⟨0, [], .slice none 0 0, Nat.zero_le _, rfl, rfl, hb0, k0, k1, kO, hop.out, World.ownsRow_nil _ _ _ _, fun f hf => by simp at hf⟩
  case round =>
    clear hb0 k0 k1 kO hop
    obtain ⟨k, fs, v, hk, rfl, hfs, hb0, k0, k1, kO, hop, how, hfo⟩ := hrel
    obtain ⟨vA, vc, rfl⟩ := own_slice how
    replace hfs := Lib.hid hfs
    replace hop := Lib.hid hop
    replace how := Lib.hid how
    replace hfo := Lib.hid hfo
    have L0 := k0.cell
    by_cases hkn : k < nf
    · have hx : n.fs[k]? = some (n.fs[k]'(by rw [Hf.out]; exact hkn)) := List.getElem?_eq_getElem _
      generalize n.fs[k]'(by rw [Hf.out]; exact hkn) = f at hx
      have hm := List.mem_of_getElem? hx
      have hcf := Lib.hid (hcl.out f hm)
      have hfn := Lib.hid (Hn.out.fin f hm).nm
      have hfl := (Hn.out.fin f hm).len
      have htk := Lib.hid (show (n.fs.take (k + 1)).map Fu.con = (n.fs.take k).map Fu.con ++ [f.con] by rw [List.take_add_one, hx]; simp)
      obtain ⟨b, off, rfl, hc⟩ := Hn.out.fsl k f hx
      have d0 : ∀ W, Below wr.heap.size wr W → W.cell? ⟨b, off + k * 2, none⟩ = some (.string f.name) := later (by simpa using kcell hb0 (hc 0 _ rfl))
      have d1 : ∀ W, Below wr.heap.size wr W → W.cell? ⟨b, off + k * 2 + 1, none⟩ = some (.slice f.A f.ws.length f.c) := later (kcell hb0 (hc 1 _ rfl))
      have hcon : f.con = (f.name, f.ws.map fun r : Rw => r.l) := rfl
      rw [hcon] at htk
      have hll : (f.ws.map fun r : Rw => r.l).length = f.ws.length := by simp
      clear hc hx hm hcon
      generalize (f.ws.map fun r : Rw => r.l) = LL at *
      generalize f.name = fn at *
      generalize hfw : f.ws.length = fw at *
      generalize f.A = fA at *
      generalize f.c = fc at *
      clear hfw
      replace hll := Lib.hid hll
      go_upto_region 5 with fail
      clear L0
      have hkn2 : (k : Int) < nf := by omega
      have Lk0 := k0.later
      have Fk0 := k0.laterF
      have Qk0 := k0.lt
      have Lk1 := k1.later
      have Fk1 := k1.laterF
      have Qk1 := k1.lt
      have LkO := kO.later
      have FkO := kO.laterF
      have QkO := kO.lt
      refine wp_any (w0 := wr) ⟨[17, 18, 19], [], [some 17, some 18, some 19, some 20, some 21, some 22, some 23, some 24, some 25, some 26, some 27, some 28, some 29, some 30, some 31, some 32, some 33, none, none, none], [[], [0], [], [2], [], [2, 3, 4], [2, 3, 4, 5], [2, 3, 4, 5, 6], [], [8], [], [8, 9, 10], [8, 9, 10, 11], [8, 9, 10, 11, 12], [8, 9, 10, 11, 12, 13], [2, 3, 4, 5, 6, 7, 8, 9, 10, 11, 12, 13, 14], [2, 3, 4, 5, 6, 7, 8, 9, 10, 11, 12, 13, 14, 15], [0, 1, 2, 3, 4, 5, 6, 7, 8, 9, 10, 11, 12, 13, 14, 15, 16], [0, 1, 2, 3, 4, 5, 6, 7, 8, 9, 10, 11, 12, 13, 14, 15, 16, 17], [0, 1, 2, 3, 4, 5, 6, 7, 8, 9, 10, 11, 12, 13, 14, 15, 16, 17, 18]], [[], [0], [], [2], [], [3, 4], [5], [6], [], [8], [], [9, 10], [11], [12], [13], [7, 14], [14, 15], [], [], []]⟩ (fun _ => gO :: ownL (.slice vA k vc)) (by kernel_rfl) (by kernel_rfl) (by (with_reducible (repeat' (first | assumption | apply jA | apply jB | apply jC | apply jD | apply jE | apply jF | apply hb3 | omega | (simp; done) | (simp; omega) | (dsimp only; omega))))) (fun u => by simp only [putD, Act.put, List.setIfInBounds_toArray, List.set_cons_zero, List.set_cons_succ, Nat.zero_add, Nat.reduceAdd]; rfl) ?_
      apply RGW.on (i := 0) rfl
      · (simp only [gA, gB, gC] <;> rfl)
      · intro γ u W hcur hd
        clear hd
        (try dsimp only)
        refine ⟨rfl, ?_⟩
        go_simp <;> (try go_bits) <;> with_reducible rfl
      · exact fun _ _ _ => rfl
      · rfl
      dsimp only [nA, cA]
      apply RGW.on (i := 1) rfl
      · (simp only [gA, gB, gC] <;> rfl)
      · intro γ u W hcur hd
        obtain ⟨⟨h0, -, -⟩, -⟩ := hd
        dsimp only at h0
        (try simp only [h0])
        refine ⟨rfl, ?_⟩
        go_simp <;> (try go_bits) <;> with_reducible rfl
      · exact fun _ _ _ => rfl
      · rfl
      dsimp only [nA, cA]
      apply RGW.on (i := 2) rfl
      · (simp only [gA, gB, gC] <;> rfl)
      · intro γ u W hcur hd
        clear hd
        (try dsimp only)
        refine ⟨rfl, ?_⟩
        go_simp <;> (try go_bits) <;> with_reducible rfl
      · exact fun _ _ _ => rfl
      · rfl
      dsimp only [nA, cA]
      apply RGW.on (i := 3) rfl
      · (simp only [gA, gB, gC] <;> rfl)
      · intro γ u W hcur hd
        obtain ⟨⟨h2, -, -⟩, -⟩ := hd
        dsimp only at h2
        (try simp only [h2])
        refine ⟨rfl, ?_⟩
        go_simp <;> (try go_bits) <;> with_reducible rfl
      · exact fun _ _ _ => rfl
      · rfl
      dsimp only [nA, cA]
      apply RGW.on (i := 4) rfl
      · (simp only [gA, gB, gC] <;> rfl)
      · intro γ u W hcur hd
        clear hd
        (try dsimp only)
        refine ⟨rfl, ?_⟩
        go_simp <;> (try go_bits) <;> with_reducible rfl
      · exact fun _ _ _ => rfl
      · rfl
      dsimp only [nA, cA]
      apply RGW.on (i := 5) rfl
      · (simp only [gA, gB, gC] <;> rfl)
      · intro γ u W hcur hd
        obtain ⟨⟨h3, -, -⟩, ⟨h4, -, -⟩, -⟩ := hd
        dsimp only at h3 h4
        (try simp only [h3, h4])
        refine ⟨rfl, ?_⟩
        go_simp <;> (try go_bits) <;> with_reducible rfl
      · exact fun _ _ _ => rfl
      · rfl
      dsimp only [nA, cA]
      apply RGW.on (i := 6) rfl
      · (simp only [gA, gB, gC] <;> rfl)
      · intro γ u W hcur hd
        obtain ⟨⟨h5, -, -⟩, -⟩ := hd
        dsimp only at h5
        (try simp only [h5])
        refine ⟨rfl, ?_⟩
        go_simp <;> (try go_bits) <;> with_reducible rfl
      · exact fun _ _ _ => rfl
      · rfl
      dsimp only [nA, cA]
      apply RGW.on (i := 7) rfl
      · (simp only [gA, gB, gC] <;> rfl)
      · intro γ u W hcur hd
        obtain ⟨⟨h6, -, -⟩, -⟩ := hd
        dsimp only at h6
        (try simp only [h6])
        refine ⟨rfl, ?_⟩
        go_simp <;> (try go_bits) <;> with_reducible rfl
      · exact fun _ _ _ => rfl
      · rfl
      dsimp only [nA, cA]
      apply RGW.on (i := 8) rfl
      · (simp only [gA, gB, gC] <;> rfl)
      · intro γ u W hcur hd
        clear hd
        (try dsimp only)
        refine ⟨rfl, ?_⟩
        go_simp <;> (try go_bits) <;> with_reducible rfl
      · exact fun _ _ _ => rfl
      · rfl
      dsimp only [nA, cA]
      apply RGW.on (i := 9) rfl
      · (simp only [gA, gB, gC] <;> rfl)
      · intro γ u W hcur hd
        obtain ⟨⟨h8, -, -⟩, -⟩ := hd
        dsimp only at h8
        (try simp only [h8])
        refine ⟨rfl, ?_⟩
        go_simp <;> (try go_bits) <;> with_reducible rfl
      · exact fun _ _ _ => rfl
      · rfl
      dsimp only [nA, cA]
      apply RGW.on (i := 10) rfl
      · (simp only [gA, gB, gC] <;> rfl)
      · intro γ u W hcur hd
        clear hd
        (try dsimp only)
        refine ⟨rfl, ?_⟩
        go_simp <;> (try go_bits) <;> with_reducible rfl
      · exact fun _ _ _ => rfl
      · rfl
      dsimp only [nA, cA]
      apply RGW.on (i := 11) rfl
      · (simp only [gA, gB, gC] <;> rfl)
      · intro γ u W hcur hd
        obtain ⟨⟨h9, -, -⟩, ⟨h10, -, -⟩, -⟩ := hd
        dsimp only at h9 h10
        (try simp only [h9, h10])
        refine ⟨rfl, ?_⟩
        go_simp <;> (try go_bits) <;> with_reducible rfl
      · exact fun _ _ _ => rfl
      · rfl
      dsimp only [nA, cA]
      apply RGW.on (i := 12) rfl
      · (simp only [gA, gB, gC] <;> rfl)
      · intro γ u W hcur hd
        obtain ⟨⟨h11, -, -⟩, -⟩ := hd
        dsimp only at h11
        (try simp only [h11])
        refine ⟨rfl, ?_⟩
        go_simp <;> (try go_bits) <;> with_reducible rfl
      · exact fun _ _ _ => rfl
      · rfl
      dsimp only [nA, cA]
      apply RGW.on (i := 13) rfl
      · (simp only [gA, gB, gC] <;> rfl)
      · intro γ u W hcur hd
        obtain ⟨⟨h12, -, -⟩, -⟩ := hd
        dsimp only at h12
        (try simp only [h12])
        refine ⟨rfl, ?_⟩
        go_simp <;> (try go_bits) <;> with_reducible rfl
      · exact fun _ _ _ => rfl
      · rfl
      dsimp only [nA, cA]
      apply RGW.gh (⟨fun γ => .slice (γ 14).A fw (γ 14).c, fun γ W => LsO LL (γ 14).A (γ 14).c W, fun _ => []⟩) (i := 14) rfl
      · (simp only [gA, gB, gC] <;> rfl)
      · intro γ u W hcur hd
        obtain ⟨⟨h13, -, -⟩, -⟩ := hd
        dsimp only at h13
        (try simp only [h13])
        refine ⟨rfl, fun K hK => ?_⟩
        go_simp
        first
        | (go_at_call 89; (with_reducible refine (hcf.out _ (bl_tr hb0 hcur)).mono ?_); rintro e w3 ⟨Ax, cx, rfl, hb3, hox⟩; dsimp only; exact hK.out ⟨0, undef, Ax, cx⟩ _ _ (by simp [up]) hb3 (by simpa [up] using hox) (by simp))
        | (refine wp_appT _ _ rfl Tryd.underlying58 hi1 hy0 hy1 hy2 rfl (by decide) (.slice vA k vc) k _ [.string fn, .slice (γ 14).A fw (γ 14).c] rfl rfl (own_below how.out hwd) r16 rfl (by intro u hu; simp at hu; rcases hu with rfl | rfl <;> rfl) (by unfold maxLen; omega) (by omega) (Nat.le_trans (by omega) hwd.size) ?_; intro v' w' hown' hbx' hv'; obtain ⟨vA', vc', rfl⟩ := own_slice hown'; refine hK.out _ _ (bx_sub hbx' (fun g hg => List.mem_cons_of_mem _ hg)) (fun hcur => ?_); have u0 : w'.cell? ⟨gO, 1, none⟩ = some (.slice vA k vc) := (by rw [((kO.below hwd).keep (fun h => by have := ownL_ge how.out _ h; omega) hbx').cell]; rfl); have z0 : w'.frozen? ⟨gO, 1, none⟩ = false := ((kO.below hwd).keep (fun h => by have := ownL_ge how.out _ h; omega) hbx').frozen _)
      · first
        | exact fun _ _ _ => rfl
        | intro γ γ' hg
          try dsimp only
          have e14 := hg 14 (by decide)
          simp only [e14]
          try exact ⟨trivial, fun _ h => h⟩
      · intro γ W W' hbl hR
        first | exact hR.below hbl | exact own_below hR hbl | exact trivial | exact ⟨hR.1.below hbl, hR.2⟩
      · rfl
      dsimp only [nA, cA]
      apply RGW.on (i := 15) rfl
      · (simp only [gA, gB, gC] <;> rfl)
      · intro γ u W hcur hd
        obtain ⟨⟨h7, -, -⟩, ⟨h14, r14, -⟩, -⟩ := hd
        dsimp only at h7 h14 r14
        (try simp only [h7, h14])
        refine ⟨rfl, ?_⟩
        go_simp <;> (try go_bits) <;> with_reducible rfl
      · first
        | exact fun _ _ _ => rfl
        | intro γ γ' hg
          try dsimp only
          have e14 := hg 14 (by decide)
          simp only [e14]
      · rfl
      dsimp only [nA, cA]
      apply RGW.bslice (i := 16) rfl
      · (simp only [gA, gB, gC] <;> rfl)
      · intro γ u W hcur hd
        obtain ⟨⟨h14, r14, -⟩, ⟨h15, -, -⟩, -⟩ := hd
        dsimp only at h14 h15 r14
        (try simp only [h14, h15])
        refine ⟨rfl, fun K hK => ?_⟩
        go_simp
        exact hK.out _ _ rfl rfl
      · first
        | exact fun _ _ _ => rfl
        | intro γ γ' hg
          try dsimp only
          have e14 := hg 14 (by decide) (by decide)
          simp only [e14]
      · rfl
      · rfl
      dsimp only [nA, cA]
      refine RGW.skip (i := 17) rfl rfl ?_
      dsimp only [nA, cA]
      refine RGW.skip (i := 18) rfl rfl ?_
      dsimp only [nA, cA]
      refine RGW.skip (i := 19) rfl rfl ?_
      dsimp only [nA, cA]
      refine RGW.fin (fun γ u wd hwd hd hdis => ?_)
      obtain ⟨⟨h0, -, -⟩, ⟨h1, -, -⟩, ⟨h2, -, -⟩, ⟨h3, -, -⟩, ⟨h4, -, -⟩, ⟨h5, -, -⟩, ⟨h6, -, -⟩, ⟨h7, -, -⟩, ⟨h8, -, -⟩, ⟨h9, -, -⟩, ⟨h10, -, -⟩, ⟨h11, -, -⟩, ⟨h12, -, -⟩, ⟨h13, -, -⟩, ⟨h14, r14, b14⟩, ⟨h15, -, -⟩, ⟨h16, r16, b16⟩, -⟩ := hd
      dsimp only at h0 h1 h2 h3 h4 h5 h6 h7 h8 h9 h10 h11 h12 h13 h14 h15 h16 r14 r16 b14 b16
      clear hdis
      simp only [h0, h1, h2, h3, h4, h5, h6, h7, h8, h9, h10, h11, h12, h13, h14, h15, h16]
      clear h16 h15 h14 h13 h12 h11 h10 h9 h8 h7 h6 h5 h4 h3 h2 h1 h0
      replace b16 := b16 _ (List.mem_singleton.2 rfl)
      generalize hγ16 : (γ 16).n = g16 at *
      clear hγ16
      clear u
      simp only [List.map_cons, List.map_nil]
      apply PlanW.step
      · (simp only [gA, gB, gC] <;> rfl)
      · rfl
      intro K hK
      first
      | (go_at_call 89; (with_reducible refine (hcf.out _ (bl_tr hb0 hcur)).mono ?_); rintro e w3 ⟨Ax, cx, rfl, hb3, hox⟩; dsimp only; exact hK.out ⟨0, undef, Ax, cx⟩ _ _ (by simp [up]) hb3 (by simpa [up] using hox) (by simp))
      | (refine wp_appT _ _ rfl Tryd.underlying58 hi1 hy0 hy1 hy2 rfl (by decide) (.slice vA k vc) k _ [.string fn, .slice (γ 14).A fw (γ 14).c] rfl rfl (own_below how.out hwd) r16 rfl (by intro u hu; simp at hu; rcases hu with rfl | rfl <;> rfl) (by unfold maxLen; omega) (by omega) (Nat.le_trans (by omega) hwd.size) ?_; intro v' w' hown' hbx' hv'; obtain ⟨vA', vc', rfl⟩ := own_slice hown'; refine hK.out _ _ (bx_sub hbx' (fun g hg => List.mem_cons_of_mem _ hg)) (fun hcur => ?_); have u0 : w'.cell? ⟨gO, 1, none⟩ = some (.slice vA k vc) := (by rw [((kO.below hwd).keep (fun h => by have := ownL_ge how.out _ h; omega) hbx').cell]; rfl); have z0 : w'.frozen? ⟨gO, 1, none⟩ = false := ((kO.below hwd).keep (fun h => by have := ownL_ge how.out _ h; omega) hbx').frozen _)
      clear hK K
      try simp only [Act.put, List.setIfInBounds_toArray, List.set_cons_zero, List.set_cons_succ]
      apply PlanW.step
      · (simp only [gA, gB, gC] <;> rfl)
      · rfl
      intro K hK
      go_simp
      refine hK.out _ _ (by with_reducible first | assumption | exact bx_refl _ _) (fun hcur => ?_)
      clear hK K
      try simp only [Act.put, List.setIfInBounds_toArray, List.set_cons_zero, List.set_cons_succ]
      apply PlanW.step
      · (simp only [gA, gB, gC] <;> rfl)
      · rfl
      intro K hK
      first
      | refine wp_store_keep (X := gO :: ownL (.slice vA k vc)) (w0 := wd) rfl rfl rfl (by with_reducible first | exact bx_refl _ _ | assumption) (by with_reducible first | assumption | (apply Blk.below (hb := hwd); assumption)) (by simp) (by kernel_rfl) (by rfl) (by simp [Value.oneCell']) (fun hres1 hcur => ?_)
        refine hK.out _ _ hcur (fun _ => ?_)
      | go_simp
        refine hK.out _ _ (by (with_reducible (repeat' (first | assumption | apply jG | apply jH | apply jI | apply jJ | apply jK | apply hb3x | omega | (simp; done) | (simp; omega) | (dsimp only; omega))))) (fun hcur => ?_)
      | obtain ⟨u0, v0, z0⟩ := bx_cell0 hcur (Blk.below k0 hwd) (by simp)
        go_simp
        refine hK.out _ _ (by (with_reducible (repeat' (first | assumption | apply jG | apply jH | apply jI | apply jJ | apply jK | apply hb3x | omega | (simp; done) | (simp; omega) | (dsimp only; omega))))) (fun hcur => ?_)
      | obtain ⟨u0, v0, z0⟩ := bx_cell0 hcur (Blk.below k1 hwd) (by simp)
        go_simp
        refine hK.out _ _ (by (with_reducible (repeat' (first | assumption | apply jG | apply jH | apply jI | apply jJ | apply jK | apply hb3x | omega | (simp; done) | (simp; omega) | (dsimp only; omega))))) (fun hcur => ?_)
      | obtain ⟨u0, v0, z0⟩ := bx_cell0 hcur (Blk.below kO hwd) (by simp)
        go_simp
        refine hK.out _ _ (by (with_reducible (repeat' (first | assumption | apply jG | apply jH | apply jI | apply jJ | apply jK | apply hb3x | omega | (simp; done) | (simp; omega) | (dsimp only; omega))))) (fun hcur => ?_)
      | obtain ⟨u0, v0, z0⟩ := bx_cell0 (X := gO :: ownL (.slice vA k vc)) (w0 := wd) (by with_reducible first | assumption | exact bx_refl _ _) r16 (by simp)
        go_simp
        refine hK.out _ _ (by (with_reducible (repeat' (first | assumption | apply jG | apply jH | apply jI | apply jJ | apply jK | apply hb3x | omega | (simp; done) | (simp; omega) | (dsimp only; omega))))) (fun hcur => ?_)
      clear hK K
      try simp only [Act.put, List.setIfInBounds_toArray, List.set_cons_zero, List.set_cons_succ]
      refine PlanW.done ?_
      have hb3 := bl_tt hwd
      obtain ⟨ws, hws, hwo, hwr⟩ := r14
      have hwl : ws.length = fw := by rw [← hll.out, ← hws, List.length_map]
      rw [hll.out] at hwo
      have hge := ownL_ge how.out
      have hwD := own_below how.out hwd
      have hX1 := noT_blk (kO.below hwd) (show 61 ≠ 3 by decide) (noT_own hwD (show 129 ≠ 3 by decide))
      have hX2 := noT_blk (kO.below hwd) (show 61 ≠ 22 by decide) (noT_own hwD (show 129 ≠ 22 by decide))
      have hX3 := noT_blk (kO.below hwd) (show 61 ≠ 9 by decide) (noT_own hwD (show 129 ≠ 9 by decide))
      have hXg : ∀ g ∈ gO :: ownL (.slice vA k vc), gO ≤ g := fun g hg => by
        rcases List.mem_cons.1 hg with rfl | hg
        · exact Nat.le_refl _
        · have := hge g hg; omega
      have hfnew : FuO ⟨fn, (γ 14).A, (γ 14).c, ws⟩ wd := ⟨hfn.out, by rw [hwl]; exact hfl, by rw [hwl]; exact hwo, hwr⟩
      have kO2 := ((kO.below hwd).keep (fun h => by have := hge _ h; omega) hbx').set 1 (.slice vA' (k + 1) vc')
      have ho9 := own_bx hown' (bx_set (X := [gO]) (g := gO) (i := 1) (.inl (List.mem_singleton.2 rfl)) (.slice vA' (k + 1) vc') (bx_refl [gO] w')) (fun x hx => by have := List.mem_singleton.1 hx; omega)
      have hb9 := bx_below (bl_tr hb0 hwd) hcur (fun g hg => by have := hXg g hg; omega)
      have k09 := (k0.below hwd).keep (fun h => by have := hXg _ h; omega) hcur
      have k19 := (k1.below hwd).keep (fun h => by have := hXg _ h; omega) hcur
      have hp9 := own_keepT (own_below hop.out hwd) hcur hX3
      have hf9 : ∀ f ∈ fs ++ [(⟨fn, (γ 14).A, (γ 14).c, ws⟩ : Fu)], FuO f (w'.setCell ⟨gO, 1, none⟩ (.slice vA' (k + 1) vc')) := fun f hf => by
        rcases List.mem_append.1 hf with hf | hf
        · exact ((hfo.out f hf).below hwd).keep hcur hX1 hX2
        · have := List.mem_singleton.1 hf
          subst this
          exact hfnew.keep hcur hX1 hX2
      have hc9 := Lib.hid (show (fs ++ [(⟨fn, (γ 14).A, (γ 14).c, ws⟩ : Fu)]).map Fu.con = (n.fs.take (k + 1)).map Fu.con by rw [List.map_append, hfs.out, htk.out, ← hws]; rfl)
      have hw9 := Lib.hid (show (w'.setCell ⟨gO, 1, none⟩ (.slice vA' (k + 1) vc')).ownsRow (gO + 1) 129 2 (.slice vA' (k + 1) vc') (k + 1) ((fs ++ [(⟨fn, (γ 14).A, (γ 14).c, ws⟩ : Fu)]).flatMap cFu) by
        have e : (fs ++ [(⟨fn, (γ 14).A, (γ 14).c, ws⟩ : Fu)]).flatMap cFu = fs.flatMap cFu ++ [.string fn, .slice (γ 14).A fw (γ 14).c] := by rw [← hwl]; simp [cFu]
        rw [e]
        exact ho9)
      generalize w'.setCell ⟨gO, 1, none⟩ (.slice vA' (k + 1) vc') = w9 at *
      clear hfnew hX1 hX2 hX3 hXg hge hwD ho9 hcur hbx' hown' hv' u0 z0 hb0 k0 k1 kO hop how hfo hwo hwr hll hfs htk hcf r16 hb3 hwd
      go_wp2
      go_roundw
      case rel => exact ⟨k + 1, _, _, by omega, by go_num, hc9.out, hb9, k09, k19, by simpa using kO2, hp9, hw9.out, hf9⟩
      case measure => simp [intOf]; omega
    as_aux_lemma =>
      obtain rfl : nf = k := by omega
      have hfs9 := Lib.hid (show fs.map Fu.con = n.fs.map Fu.con by rw [hfs.out, ← Hf.out, List.take_length])
      clear hfs hkn hcl hct
      go_wp2
      clear L0
      go_loopw [5] (fun i wr => ∃ (k : Nat) (ms : List Md) (v : Value), k ≤ nm ∧ i = .int .i64 k ∧ ms.map Md.con = (n.ms.take k).map Md.con ∧ Below w.heap.size w wr ∧ Blk wr w.heap.size 61 #[.slice Ap np cp, .slice Af nf cf, .slice Am nm cm] ∧ Blk wr (w.heap.size + 1) 61 #[.slice none 0 0, .slice none 0 0, .slice none 0 0] ∧
        Blk wr gO 61 #[.slice Bp np dp, .slice vA nf vc, v] ∧ wr.ownsRow 0 9 1 (.slice Bp np dp) np (n.ps.flatMap cS) ∧ wr.ownsRow 0 129 2 (.slice vA nf vc) nf (fs.flatMap cFu) ∧ (∀ f ∈ fs, FuO f wr) ∧ wr.ownsRow (gO + 1) 71 2 v k (ms.flatMap cMd) ∧ ∀ m ∈ ms, MdO m wr) (fun i _ => nm - (intOf i).toNat)
      case atStart => exact ⟨0, [], .slice none 0 0, Nat.zero_le _, rfl, rfl, hb0, k0, k1, kO, hop.out, own_mono (Nat.zero_le _) how.out, hfo.out, World.ownsRow_nil _ _ _ _, fun f hf => by simp at hf⟩
      case round =>
        clear hb0 k0 k1 kO hop how hfo
        obtain ⟨k, ms, v, hk, rfl, hms, hb0, k0, k1, kO, hop, how, hfo, hov, hmo⟩ := hrel
        obtain ⟨uA, uc, rfl⟩ := own_slice hov
        replace hms := Lib.hid hms
        replace hop := Lib.hid hop
        replace how := Lib.hid how
        replace hfo := Lib.hid hfo
        replace hov := Lib.hid hov
        replace hmo := Lib.hid hmo
        have L0 := k0.cell
        by_cases hkn : k < nm
        · have hx : n.ms[k]? = some (n.ms[k]'(by rw [Hm.out]; exact hkn)) := List.getElem?_eq_getElem _
          generalize n.ms[k]'(by rw [Hm.out]; exact hkn) = f at hx
          have hm := List.mem_of_getElem? hx
          have hcf := Lib.hid (hci.out f hm)
          have hfn := Lib.hid (Hn.out.min f hm).nm
          have hfl := (Hn.out.min f hm).row.len
          have htk := Lib.hid (show (n.ms.take (k + 1)).map Md.con = (n.ms.take k).map Md.con ++ [(f.name, f.r.l)] by rw [List.take_add_one, hx]; simp [Md.con])
          obtain ⟨b, off, rfl, hc⟩ := Hn.out.msl k f hx
          have d0 : ∀ W, Below wr.heap.size wr W → W.cell? ⟨b, off + k * 2, none⟩ = some (.string f.name) := later (by simpa using kcell hb0 (hc 0 _ rfl))
          have d1 : ∀ W, Below wr.heap.size wr W → W.cell? ⟨b, off + k * 2 + 1, none⟩ = some (.slice f.r.A f.r.l.length f.r.c) := later (kcell hb0 (hc 1 _ rfl))
          clear hc hx hm
          generalize f.name = fn at *
          generalize f.r.A = fA at *
          generalize f.r.c = fc at *
          generalize f.r.l = LL at *
          obtain ⟨fw, Hw⟩ : ∃ k, Hid (LL.length = k) := ⟨_, rfl⟩
          rw [Hw.out] at hfl d1 hcf
          go_upto_region 9 with fail
          clear L0
          have hkn2 : (k : Int) < nm := by omega
          have Lk0 := k0.later
          have Fk0 := k0.laterF
          have Qk0 := k0.lt
          have Lk1 := k1.later
          have Fk1 := k1.laterF
          have Qk1 := k1.lt
          have LkO := kO.later
          have FkO := kO.laterF
          have QkO := kO.lt
          refine wp_any (w0 := wr) ⟨[17, 18, 19], [], [some 43, some 44, some 45, some 46, some 47, some 48, some 49, some 50, some 51, some 52, some 53, some 54, some 55, some 56, some 57, some 58, some 59, none, none, none], [[], [0], [], [2], [], [2, 3, 4], [2, 3, 4, 5], [2, 3, 4, 5, 6], [], [8], [], [8, 9, 10], [8, 9, 10, 11], [8, 9, 10, 11, 12], [8, 9, 10, 11, 12, 13], [2, 3, 4, 5, 6, 7, 8, 9, 10, 11, 12, 13, 14], [2, 3, 4, 5, 6, 7, 8, 9, 10, 11, 12, 13, 14, 15], [0, 1, 2, 3, 4, 5, 6, 7, 8, 9, 10, 11, 12, 13, 14, 15, 16], [0, 1, 2, 3, 4, 5, 6, 7, 8, 9, 10, 11, 12, 13, 14, 15, 16, 17], [0, 1, 2, 3, 4, 5, 6, 7, 8, 9, 10, 11, 12, 13, 14, 15, 16, 17, 18]], [[], [0], [], [2], [], [3, 4], [5], [6], [], [8], [], [9, 10], [11], [12], [13], [7, 14], [14, 15], [], [], []]⟩ (fun _ => gO :: ownL (.slice uA k uc)) (by kernel_rfl) (by kernel_rfl) (by (with_reducible (repeat' (first | assumption | apply jA | apply jB | apply jC | apply jD | apply jE | apply jF | apply hb3 | omega | (simp; done) | (simp; omega) | (dsimp only; omega))))) (fun u => by simp only [putD, Act.put, List.setIfInBounds_toArray, List.set_cons_zero, List.set_cons_succ, Nat.zero_add, Nat.reduceAdd]; rfl) ?_
          apply RGW.on (i := 0) rfl
          · (simp only [gA, gB, gC] <;> rfl)
          · intro γ u W hcur hd
            clear hd
            (try dsimp only)
            refine ⟨rfl, ?_⟩
            go_simp <;> (try go_bits) <;> with_reducible rfl
          · exact fun _ _ _ => rfl
          · rfl
          dsimp only [nA, cA]
          apply RGW.on (i := 1) rfl
          · (simp only [gA, gB, gC] <;> rfl)
          · intro γ u W hcur hd
            obtain ⟨⟨h0, -, -⟩, -⟩ := hd
            dsimp only at h0
            (try simp only [h0])
            refine ⟨rfl, ?_⟩
            go_simp <;> (try go_bits) <;> with_reducible rfl
          · exact fun _ _ _ => rfl
          · rfl
          dsimp only [nA, cA]
          apply RGW.on (i := 2) rfl
          · (simp only [gA, gB, gC] <;> rfl)
          · intro γ u W hcur hd
            clear hd
            (try dsimp only)
            refine ⟨rfl, ?_⟩
            go_simp <;> (try go_bits) <;> with_reducible rfl
          · exact fun _ _ _ => rfl
          · rfl
          dsimp only [nA, cA]
          apply RGW.on (i := 3) rfl
          · (simp only [gA, gB, gC] <;> rfl)
          · intro γ u W hcur hd
            obtain ⟨⟨h2, -, -⟩, -⟩ := hd
            dsimp only at h2
            (try simp only [h2])
            refine ⟨rfl, ?_⟩
            go_simp <;> (try go_bits) <;> with_reducible rfl
          · exact fun _ _ _ => rfl
          · rfl
          dsimp only [nA, cA]
          apply RGW.on (i := 4) rfl
          · (simp only [gA, gB, gC] <;> rfl)
          · intro γ u W hcur hd
            clear hd
            (try dsimp only)
            refine ⟨rfl, ?_⟩
            go_simp <;> (try go_bits) <;> with_reducible rfl
          · exact fun _ _ _ => rfl
          · rfl
          dsimp only [nA, cA]
          apply RGW.on (i := 5) rfl
          · (simp only [gA, gB, gC] <;> rfl)
          · intro γ u W hcur hd
            obtain ⟨⟨h3, -, -⟩, ⟨h4, -, -⟩, -⟩ := hd
            dsimp only at h3 h4
            (try simp only [h3, h4])
            refine ⟨rfl, ?_⟩
            go_simp <;> (try go_bits) <;> with_reducible rfl
          · exact fun _ _ _ => rfl
          · rfl
          dsimp only [nA, cA]
          apply RGW.on (i := 6) rfl
          · (simp only [gA, gB, gC] <;> rfl)
          · intro γ u W hcur hd
            obtain ⟨⟨h5, -, -⟩, -⟩ := hd
            dsimp only at h5
            (try simp only [h5])
            refine ⟨rfl, ?_⟩
            go_simp <;> (try go_bits) <;> with_reducible rfl
          · exact fun _ _ _ => rfl
          · rfl
          dsimp only [nA, cA]
          apply RGW.on (i := 7) rfl
          · (simp only [gA, gB, gC] <;> rfl)
          · intro γ u W hcur hd
            obtain ⟨⟨h6, -, -⟩, -⟩ := hd
            dsimp only at h6
            (try simp only [h6])
            refine ⟨rfl, ?_⟩
            go_simp <;> (try go_bits) <;> with_reducible rfl
          · exact fun _ _ _ => rfl
          · rfl
          dsimp only [nA, cA]
          apply RGW.on (i := 8) rfl
          · (simp only [gA, gB, gC] <;> rfl)
          · intro γ u W hcur hd
            clear hd
            (try dsimp only)
            refine ⟨rfl, ?_⟩
            go_simp <;> (try go_bits) <;> with_reducible rfl
          · exact fun _ _ _ => rfl
          · rfl
          dsimp only [nA, cA]
          apply RGW.on (i := 9) rfl
          · (simp only [gA, gB, gC] <;> rfl)
          · intro γ u W hcur hd
            obtain ⟨⟨h8, -, -⟩, -⟩ := hd
            dsimp only at h8
            (try simp only [h8])
            refine ⟨rfl, ?_⟩
            go_simp <;> (try go_bits) <;> with_reducible rfl
          · exact fun _ _ _ => rfl
          · rfl
          dsimp only [nA, cA]
          apply RGW.on (i := 10) rfl
          · (simp only [gA, gB, gC] <;> rfl)
          · intro γ u W hcur hd
            clear hd
            (try dsimp only)
            refine ⟨rfl, ?_⟩
            go_simp <;> (try go_bits) <;> with_reducible rfl
          · exact fun _ _ _ => rfl
          · rfl
          dsimp only [nA, cA]
          apply RGW.on (i := 11) rfl
          · (simp only [gA, gB, gC] <;> rfl)
          · intro γ u W hcur hd
            obtain ⟨⟨h9, -, -⟩, ⟨h10, -, -⟩, -⟩ := hd
            dsimp only at h9 h10
            (try simp only [h9, h10])
            refine ⟨rfl, ?_⟩
            go_simp <;> (try go_bits) <;> with_reducible rfl
          · exact fun _ _ _ => rfl
          · rfl
          dsimp only [nA, cA]
          apply RGW.on (i := 12) rfl
          · (simp only [gA, gB, gC] <;> rfl)
          · intro γ u W hcur hd
            obtain ⟨⟨h11, -, -⟩, -⟩ := hd
            dsimp only at h11
            (try simp only [h11])
            refine ⟨rfl, ?_⟩
            go_simp <;> (try go_bits) <;> with_reducible rfl
          · exact fun _ _ _ => rfl
          · rfl
          dsimp only [nA, cA]
          apply RGW.on (i := 13) rfl
          · (simp only [gA, gB, gC] <;> rfl)
          · intro γ u W hcur hd
            obtain ⟨⟨h12, -, -⟩, -⟩ := hd
            dsimp only at h12
            (try simp only [h12])
            refine ⟨rfl, ?_⟩
            go_simp <;> (try go_bits) <;> with_reducible rfl
          · exact fun _ _ _ => rfl
          · rfl
          dsimp only [nA, cA]
          apply RGW.gh (⟨fun γ => .slice (γ 14).A fw (γ 14).c, fun γ W => W.ownsRow 0 3 1 (.slice (γ 14).A fw (γ 14).c) fw (LL.map (.int .i64)), fun _ => []⟩) (i := 14) rfl
          · (simp only [gA, gB, gC] <;> rfl)
          · intro γ u W hcur hd
            obtain ⟨⟨h13, -, -⟩, -⟩ := hd
            dsimp only at h13
            (try simp only [h13])
            refine ⟨rfl, fun K hK => ?_⟩
            go_simp
            first
            | (go_at_call 17; (with_reducible refine (hcf.out _ (bl_tr hb0 hcur)).mono ?_); rintro e w3 ⟨Ax, cx, rfl, hb3, hox⟩; dsimp only; rw [Hw.out] at hox ⊢; exact hK.out ⟨0, undef, Ax, cx⟩ _ _ (by simp [up]) hb3 (by simpa [up] using own_mono (Nat.zero_le _) hox) (by simp))
            | (refine wp_appT _ _ rfl Tryd.underlying59 hi2 hx0 hx1 hx2 rfl (by decide) (.slice uA k uc) k _ [.string fn, .slice (γ 14).A fw (γ 14).c] rfl rfl (own_below hov.out hwd) r16 rfl (by intro u hu; simp at hu; rcases hu with rfl | rfl <;> rfl) (by unfold maxLen; omega) (by omega) (Nat.le_trans (by omega) hwd.size) ?_; intro v' w' hown' hbx' hv'; obtain ⟨vA', vc', rfl⟩ := own_slice hown'; refine hK.out _ _ (bx_sub hbx' (fun g hg => List.mem_cons_of_mem _ hg)) (fun hcur => ?_); have u0 : w'.cell? ⟨gO, 2, none⟩ = some (.slice uA k uc) := (by rw [((kO.below hwd).keep (fun h => by have := ownL_ge hov.out _ h; omega) hbx').cell]; rfl); have z0 : w'.frozen? ⟨gO, 2, none⟩ = false := ((kO.below hwd).keep (fun h => by have := ownL_ge hov.out _ h; omega) hbx').frozen _)
          · first
            | exact fun _ _ _ => rfl
            | intro γ γ' hg
              try dsimp only
              have e14 := hg 14 (by decide)
              simp only [e14]
              try exact ⟨trivial, fun _ h => h⟩
          · intro γ W W' hbl hR
            first | exact hR.below hbl | exact own_below hR hbl | exact trivial | exact ⟨hR.1.below hbl, hR.2⟩
          · rfl
          dsimp only [nA, cA]
          apply RGW.on (i := 15) rfl
          · (simp only [gA, gB, gC] <;> rfl)
          · intro γ u W hcur hd
            obtain ⟨⟨h7, -, -⟩, ⟨h14, r14, -⟩, -⟩ := hd
            dsimp only at h7 h14 r14
            (try simp only [h7, h14])
            refine ⟨rfl, ?_⟩
            go_simp <;> (try go_bits) <;> with_reducible rfl
          · first
            | exact fun _ _ _ => rfl
            | intro γ γ' hg
              try dsimp only
              have e14 := hg 14 (by decide)
              simp only [e14]
          · rfl
          dsimp only [nA, cA]
          apply RGW.bslice (i := 16) rfl
          · (simp only [gA, gB, gC] <;> rfl)
          · intro γ u W hcur hd
            obtain ⟨⟨h14, r14, -⟩, ⟨h15, -, -⟩, -⟩ := hd
            dsimp only at h14 h15 r14
            (try simp only [h14, h15])
            refine ⟨rfl, fun K hK => ?_⟩
            go_simp
            exact hK.out _ _ rfl rfl
          · first
            | exact fun _ _ _ => rfl
            | intro γ γ' hg
              try dsimp only
              have e14 := hg 14 (by decide) (by decide)
              simp only [e14]
          · rfl
          · rfl
          dsimp only [nA, cA]
          refine RGW.skip (i := 17) rfl rfl ?_
          dsimp only [nA, cA]
          refine RGW.skip (i := 18) rfl rfl ?_
          dsimp only [nA, cA]
          refine RGW.skip (i := 19) rfl rfl ?_
          dsimp only [nA, cA]
          refine RGW.fin (fun γ u wd hwd hd hdis => ?_)
          obtain ⟨⟨h0, -, -⟩, ⟨h1, -, -⟩, ⟨h2, -, -⟩, ⟨h3, -, -⟩, ⟨h4, -, -⟩, ⟨h5, -, -⟩, ⟨h6, -, -⟩, ⟨h7, -, -⟩, ⟨h8, -, -⟩, ⟨h9, -, -⟩, ⟨h10, -, -⟩, ⟨h11, -, -⟩, ⟨h12, -, -⟩, ⟨h13, -, -⟩, ⟨h14, r14, b14⟩, ⟨h15, -, -⟩, ⟨h16, r16, b16⟩, -⟩ := hd
          dsimp only at h0 h1 h2 h3 h4 h5 h6 h7 h8 h9 h10 h11 h12 h13 h14 h15 h16 r14 r16 b14 b16
          clear hdis
          simp only [h0, h1, h2, h3, h4, h5, h6, h7, h8, h9, h10, h11, h12, h13, h14, h15, h16]
          clear h16 h15 h14 h13 h12 h11 h10 h9 h8 h7 h6 h5 h4 h3 h2 h1 h0
          replace b16 := b16 _ (List.mem_singleton.2 rfl)
          generalize hγ16 : (γ 16).n = g16 at *
          clear hγ16
          clear u
          simp only [List.map_cons, List.map_nil]
          apply PlanW.step
          · (simp only [gA, gB, gC] <;> rfl)
          · rfl
          intro K hK
          first
          | (go_at_call 17; (with_reducible refine (hcf.out _ (bl_tr hb0 hcur)).mono ?_); rintro e w3 ⟨Ax, cx, rfl, hb3, hox⟩; dsimp only; rw [Hw.out] at hox ⊢; exact hK.out ⟨0, undef, Ax, cx⟩ _ _ (by simp [up]) hb3 (by simpa [up] using own_mono (Nat.zero_le _) hox) (by simp))
          | (refine wp_appT _ _ rfl Tryd.underlying59 hi2 hx0 hx1 hx2 rfl (by decide) (.slice uA k uc) k _ [.string fn, .slice (γ 14).A fw (γ 14).c] rfl rfl (own_below hov.out hwd) r16 rfl (by intro u hu; simp at hu; rcases hu with rfl | rfl <;> rfl) (by unfold maxLen; omega) (by omega) (Nat.le_trans (by omega) hwd.size) ?_; intro v' w' hown' hbx' hv'; obtain ⟨vA', vc', rfl⟩ := own_slice hown'; refine hK.out _ _ (bx_sub hbx' (fun g hg => List.mem_cons_of_mem _ hg)) (fun hcur => ?_); have u0 : w'.cell? ⟨gO, 2, none⟩ = some (.slice uA k uc) := (by rw [((kO.below hwd).keep (fun h => by have := ownL_ge hov.out _ h; omega) hbx').cell]; rfl); have z0 : w'.frozen? ⟨gO, 2, none⟩ = false := ((kO.below hwd).keep (fun h => by have := ownL_ge hov.out _ h; omega) hbx').frozen _)
          clear hK K
          try simp only [Act.put, List.setIfInBounds_toArray, List.set_cons_zero, List.set_cons_succ]
          apply PlanW.step
          · (simp only [gA, gB, gC] <;> rfl)
          · rfl
          intro K hK
          go_simp
          refine hK.out _ _ (by with_reducible first | assumption | exact bx_refl _ _) (fun hcur => ?_)
          clear hK K
          try simp only [Act.put, List.setIfInBounds_toArray, List.set_cons_zero, List.set_cons_succ]
          apply PlanW.step
          · (simp only [gA, gB, gC] <;> rfl)
          · rfl
          intro K hK
          first
          | refine wp_store_keep (X := gO :: ownL (.slice uA k uc)) (w0 := wd) rfl rfl rfl (by with_reducible first | exact bx_refl _ _ | assumption) (by with_reducible first | assumption | (apply Blk.below (hb := hwd); assumption)) (by simp) (by kernel_rfl) (by rfl) (by simp [Value.oneCell']) (fun hres1 hcur => ?_)
            refine hK.out _ _ hcur (fun _ => ?_)
          | go_simp
            refine hK.out _ _ (by (with_reducible (repeat' (first | assumption | apply jG | apply jH | apply jI | apply jJ | apply jK | apply hb3x | omega | (simp; done) | (simp; omega) | (dsimp only; omega))))) (fun hcur => ?_)
          | obtain ⟨u0, v0, z0⟩ := bx_cell0 hcur (Blk.below k0 hwd) (by simp)
            go_simp
            refine hK.out _ _ (by (with_reducible (repeat' (first | assumption | apply jG | apply jH | apply jI | apply jJ | apply jK | apply hb3x | omega | (simp; done) | (simp; omega) | (dsimp only; omega))))) (fun hcur => ?_)
          | obtain ⟨u0, v0, z0⟩ := bx_cell0 hcur (Blk.below k1 hwd) (by simp)
            go_simp
            refine hK.out _ _ (by (with_reducible (repeat' (first | assumption | apply jG | apply jH | apply jI | apply jJ | apply jK | apply hb3x | omega | (simp; done) | (simp; omega) | (dsimp only; omega))))) (fun hcur => ?_)
          | obtain ⟨u0, v0, z0⟩ := bx_cell0 hcur (Blk.below kO hwd) (by simp)
            go_simp
            refine hK.out _ _ (by (with_reducible (repeat' (first | assumption | apply jG | apply jH | apply jI | apply jJ | apply jK | apply hb3x | omega | (simp; done) | (simp; omega) | (dsimp only; omega))))) (fun hcur => ?_)
          | obtain ⟨u0, v0, z0⟩ := bx_cell0 (X := gO :: ownL (.slice uA k uc)) (w0 := wd) (by with_reducible first | assumption | exact bx_refl _ _) r16 (by simp)
            go_simp
            refine hK.out _ _ (by (with_reducible (repeat' (first | assumption | apply jG | apply jH | apply jI | apply jJ | apply jK | apply hb3x | omega | (simp; done) | (simp; omega) | (dsimp only; omega))))) (fun hcur => ?_)
          clear hK K
          try simp only [Act.put, List.setIfInBounds_toArray, List.set_cons_zero, List.set_cons_succ]
          refine PlanW.done ?_
          have hb3 := bl_tt hwd
          have hge := ownL_ge hov.out
          have hwD := own_below hov.out hwd
          have hX1 := noT_blk (kO.below hwd) (show 61 ≠ 3 by decide) (noT_own hwD (show 71 ≠ 3 by decide))
          have hX2 := noT_blk (kO.below hwd) (show 61 ≠ 22 by decide) (noT_own hwD (show 71 ≠ 22 by decide))
          have hX3 := noT_blk (kO.below hwd) (show 61 ≠ 9 by decide) (noT_own hwD (show 71 ≠ 9 by decide))
          have hX4 := noT_blk (kO.below hwd) (show 61 ≠ 129 by decide) (noT_own hwD (show 71 ≠ 129 by decide))
          have hXg : ∀ g ∈ gO :: ownL (.slice uA k uc), gO ≤ g := fun g hg => by
            rcases List.mem_cons.1 hg with rfl | hg
            · exact Nat.le_refl _
            · have := hge g hg; omega
          have hfnew : MdO ⟨fn, ⟨(γ 14).A, (γ 14).c, LL⟩⟩ wd := ⟨hfn.out, ⟨by rw [Hw.out]; exact hfl, by dsimp only; rw [Hw.out]; exact r14⟩⟩
          have kO2 := ((kO.below hwd).keep (fun h => by have := hge _ h; omega) hbx').set 2 (.slice vA' (k + 1) vc')
          have ho9 := own_bx hown' (bx_set (X := [gO]) (g := gO) (i := 2) (.inl (List.mem_singleton.2 rfl)) (.slice vA' (k + 1) vc') (bx_refl [gO] w')) (fun x hx => by have := List.mem_singleton.1 hx; omega)
          have hb9 := bx_below (bl_tr hb0 hwd) hcur (fun g hg => by have := hXg g hg; omega)
          have k09 := (k0.below hwd).keep (fun h => by have := hXg _ h; omega) hcur
          have k19 := (k1.below hwd).keep (fun h => by have := hXg _ h; omega) hcur
          have hp9 := own_keepT (own_below hop.out hwd) hcur hX3
          have hq9 := own_keepT (own_below how.out hwd) hcur hX4
          have hf9 : ∀ f ∈ fs, FuO f (w'.setCell ⟨gO, 2, none⟩ (.slice vA' (k + 1) vc')) := fun f hf => ((hfo.out f hf).below hwd).keep hcur hX1 hX2
          have hm9 : ∀ f ∈ ms ++ [(⟨fn, ⟨(γ 14).A, (γ 14).c, LL⟩⟩ : Md)], MdO f (w'.setCell ⟨gO, 2, none⟩ (.slice vA' (k + 1) vc')) := fun f hf => by
            rcases List.mem_append.1 hf with hf | hf
            · exact ((hmo.out f hf).below hwd).keep hcur hX1
            · have := List.mem_singleton.1 hf
              subst this
              exact hfnew.keep hcur hX1
          have hc9 := Lib.hid (show (ms ++ [(⟨fn, ⟨(γ 14).A, (γ 14).c, LL⟩⟩ : Md)]).map Md.con = (n.ms.take (k + 1)).map Md.con by rw [List.map_append, hms.out, htk.out]; rfl)
          have hw9 := Lib.hid (show (w'.setCell ⟨gO, 2, none⟩ (.slice vA' (k + 1) vc')).ownsRow (gO + 1) 71 2 (.slice vA' (k + 1) vc') (k + 1) ((ms ++ [(⟨fn, ⟨(γ 14).A, (γ 14).c, LL⟩⟩ : Md)]).flatMap cMd) by
            have e : (ms ++ [(⟨fn, ⟨(γ 14).A, (γ 14).c, LL⟩⟩ : Md)]).flatMap cMd = ms.flatMap cMd ++ [.string fn, .slice (γ 14).A fw (γ 14).c] := by rw [← Hw.out]; simp [cMd]
            rw [e]
            exact ho9)
          generalize w'.setCell ⟨gO, 2, none⟩ (.slice vA' (k + 1) vc') = w9 at *
          clear hfnew hX1 hX2 hX3 hX4 hXg hge hwD ho9 hcur hbx' hown' hv' u0 z0 hb0 k0 k1 kO hop how hfo hov hmo hms htk hcf r16 r14 hb3 hwd
          go_wp2
          go_roundw
          case rel => exact ⟨k + 1, _, _, by omega, by go_num, hc9.out, hb9, k09, k19, by simpa using kO2, hp9, hq9, hf9, hw9.out, hm9⟩
          case measure => simp [intOf]; omega
        obtain rfl : nm = k := by omega
        have hms9 := Lib.hid (show ms.map Md.con = n.ms.map Md.con by rw [hms.out, ← Hm.out, List.take_length])
        have LO := kO.cell
        have L1 := k1.cell
        have F1 := k1.frozen
        go_wp2
        clear LO L1 F1 L0
        refine absPN (fun W => BX [w.heap.size + 1] wr W ∧ Blk W (w.heap.size + 1) 61 #[.slice Bp np dp, .slice vA nf vc, .slice uA nm uc]) ⟨bx_set (.inl (List.mem_singleton.2 rfl)) _ (bx_set (.inl (List.mem_singleton.2 rfl)) _ (bx_set (.inl (List.mem_singleton.2 rfl)) _ (bx_refl _ _))), by simpa using ((k1.set 0 (.slice Bp np dp)).set 1 (.slice vA nf vc)).set 2 (.slice uA nm uc)⟩ fun W ⟨hbx, kr⟩ => ?_
        have hr := kr.cell
        have hY1 := noT_blk k1 (show 61 ≠ 3 by decide) (noT_nil wr _)
        have hY2 := noT_blk k1 (show 61 ≠ 22 by decide) (noT_nil wr _)
        have hY3 := noT_blk k1 (show 61 ≠ 9 by decide) (noT_nil wr _)
        have hY4 := noT_blk k1 (show 61 ≠ 129 by decide) (noT_nil wr _)
        have hY5 := noT_blk k1 (show 61 ≠ 71 by decide) (noT_nil wr _)
        have hfl9 : fs.length = nf := by have := congrArg List.length hfs9.out; simp at this; rw [this, Hf.out]
        have hml9 : ms.length = nm := by have := congrArg List.length hms9.out; simp at this; rw [this, Hm.out]
        have hp9 := own_keepT hop.out hbx hY3
        have hq9 := own_keepT how.out hbx hY4
        have hv9 := own_keepT hov.out hbx hY5
        refine bodyPost_ret (v := .agg #[.slice Bp np dp, .slice vA nf vc, .slice uA nm uc]) (by simp [results, Tryd.results34, go_sem, hr]) rfl ⟨bx_below hb0 hbx (by simp), ⟨n.ps, fs, ms⟩, Bp, vA, uA, dp, vc, uc, ⟨rfl, hfs9.out, hms9.out⟩, ?_, rfl⟩
        refine ⟨by rw [Hp.out]; exact g1, by dsimp only; omega, by dsimp only; omega, by dsimp only; rw [Hp.out]; exact own_cap hp9, by dsimp only; rw [hfl9]; exact own_cap hq9, by dsimp only; rw [hml9]; exact own_cap hv9, ?_, ?_, ?_, Hn.out.pnm, fun f hf => ((hfo.out f hf).keep hbx hY1 hY2).fu, fun f hf => ((hmo.out f hf).keep hbx hY1).md⟩
        · exact own_slC (cs := cS) (fun _ => rfl) (by decide) (by dsimp only; rw [Hp.out]; exact hp9)
        · exact own_slC (cs := cFu) (fun _ => rfl) (by decide) (by dsimp only; rw [hfl9]; exact hq9)
        · exact own_slC (cs := cMd) (fun _ => rfl) (by decide) (by dsimp only; rw [hml9]; exact hv9)
end Go.Proofs.YtdlmkblmljhbfaaDoor
