/-
  Walks: the reference's names; the errors of a vote.
  Walks: whether a box is too great for a search; the reference's error of a net alone, and of a box.
  Walk: the reference's names.
  Walk: which nets are valid, by the reference.
  Walks: the reference's errors of a net alone, of a box, of readings.
  Walks: the law of boxes.
-/
import Derived.Test.YtephimmamkafoaaGreatU15
import Derived.Test.YtephimmamkafoaaGreatU10
import Derived.Test.YtephimmamkafoaaGreatU14
import Derived.Test.YtephimmamkafoaaGreatU3
import Derived.Test.YtephimmamkafoaaGreatU13
import Derived.Test.YtephimmamkafoaaGreatU4
set_option linter.unusedSimpArgs false
set_option linter.unusedVariables false
namespace Go.Proofs.YtephimmamkafoaaGreat
open Go.RowKit Go.Shelf
attribute [local go_sem] bl_al bl_drew bl_drewN bl_refl bx_al bx_drew bx_drewN bx_refl
set_option maxRecDepth 20000
/-- The errors of a vote of a valid net. -/
def refVote (nb : Nat) (v : Vt) : Int := if (refReads nb v.rs).2 = 0 then unl (inR v.wrong 0 v.rs.length) 2 else (refReads nb v.rs).2
set_option maxHeartbeats 4000000 in
theorem r_VoteErr (wd : Bx) (nb : Nat) (v : Vt) (s : Option Addr) (A' : Option Addr) (c c' : Nat) (w : World) (hl : Sl cRd 4 w A' v.rs) (hll : v.rs.length ≤ 1000) (hnb : nb ≤ 1000) :
    Calls Tryz.prog 56 #[vNt wd (.slice s nb c), .agg #[.slice A' v.rs.length c', .int .i64 v.wrong]] w (Ret (.int .i64 (refVote nb v)) w) := by
  have hcr := Lib.hid fun (W : World) (hb : Below w.heap.size w W) => r_CheckReadings wd nb v.rs s A' c c' W (hl.below hb) hll hnb
  have hr1 : Hid ((refReads nb v.rs).2 = 0 → refVote nb v = unl (inR v.wrong 0 v.rs.length) 2) := fun h => by rw [refVote, if_pos h]
  have hr2 : Hid ((refReads nb v.rs).2 ≠ 0 → refVote nb v = (refReads nb v.rs).2) := fun h => by rw [refVote, if_neg h]
  clear hl
  generalize v.rs.length = ll at *
  generalize refReads nb v.rs = re at *
  go_enter Tryz.func56, Tryz.ntmps56
  go_upto_region 1 with fail
  apply absB2 (w0 := w) (g0 := w.heap.size) (g1 := w.heap.size + 1)
  iterate 3 (focus exact zL)
  try clear hb3
  try clear hb0
  try clear k0
  try clear k1
  intro wa hb0 k0 k1
  (try simp only [List.setIfInBounds_toArray, List.set_cons_zero, List.set_cons_succ] at k0 k1)
  have Lk0 := k0.later
  have Fk0 := k0.laterF
  have Qk0 := k0.lt
  have Lk1 := k1.later
  have Fk1 := k1.laterF
  have Qk1 := k1.lt
  by_cases h0 : re.2 = 0
  · have e := Lib.hid (hr1.out h0)
    have h0' : (re.2 != 0) = false := by simp [h0]
    clear h0 hr1 hr2
    obtain ⟨bv, h⟩ : ∃ b', inR v.wrong 0 ll = b' := ⟨_, rfl⟩
    have hcv := Lib.hid fun W : World => h ▸ r_Within v.wrong 0 ll W
    rw [h] at e
    clear h
    cases bv
    all_goals
      go_wp2_with fail
      refine Calls.mono (hcr.out _ hb0) ?_
      rintro e' w3 ⟨rfl, hb3⟩
      replace hb3 := bl_tt hb3
      apply absX2 (w0 := w) (w := w3) (g0 := w.heap.size) (g1 := w.heap.size + 1)
      iterate 3 (focus exact zL)
      try clear hb3
      try clear Lk0
      try clear Fk0
      try clear Qk0
      try clear Lk1
      try clear Fk1
      try clear Qk1
      try clear hb0
      try clear k0
      try clear k1
      intro wb hb0 k0 k1
      (try simp only [List.setIfInBounds_toArray, List.set_cons_zero, List.set_cons_succ] at k0 k1)
      have Lk0 := k0.later
      have Fk0 := k0.laterF
      have Qk0 := k0.lt
      have Lk1 := k1.later
      have Fk1 := k1.laterF
      have Qk1 := k1.lt
      go_wp2_with (go_at_call 78; (with_reducible refine (hcv.out _).mono ?_); rintro e w3 ⟨rfl, rfl⟩)
      go_ret
      exact ⟨by rw [e.out] <;> rfl, hb0⟩
  · have e := Lib.hid (hr2.out h0)
    have h0' : (re.2 != 0) = true := by simp [h0]
    clear h0 hr1 hr2
    go_wp2_with fail
    refine Calls.mono (hcr.out _ hb0) ?_
    rintro e' w3 ⟨rfl, hb3⟩
    go_wp2
    go_ret
    exact ⟨by rw [e.out] <;> rfl, bl_tr hb0 hb3⟩
end Go.Proofs.YtephimmamkafoaaGreat
namespace Go.Proofs.YtephimmamkafoaaGreat
open Go.RowKit Go.Shelf
attribute [local go_sem] bl_al bl_drew bl_drewN bl_refl bx_al bx_drew bx_drewN bx_refl
set_option maxRecDepth 20000
theorem big_mul {s y : Int} (h : 20000 < s) (hy : 1 ≤ y) : 20000 < s * y := by
  have := Int.mul_le_mul_of_nonneg_left hy (show 0 ≤ s by omega)
  omega
set_option maxHeartbeats 4000000 in
theorem r_IsLarge (a : Bx) (w : World) (ha : a.ok) : Calls Tryz.prog 44 #[vBx a] w (Ret (.bool (decide (20000 < a.size))) w) := by
  obtain ⟨⟨x1, x2, x3⟩, ⟨y1, y2, y3⟩, ⟨z1, z2, z3⟩⟩ := ha
  obtain ⟨p1, p2⟩ := mul_bd (a := a.x.hi - a.x.lo + 1) (b := a.y.hi - a.y.lo + 1) (m := 20001) (n := 20001) (by omega) (by omega) (by omega) (by omega)
  obtain ⟨q1, q2⟩ := mul_bd (a := (a.x.hi - a.x.lo + 1) * (a.y.hi - a.y.lo + 1)) (b := a.z.hi - a.z.lo + 1) (m := 400040001) (n := 20001) p1 p2 (by omega) (by omega)
  have m1 := Lib.hid fun h : 20000 < a.x.hi - a.x.lo + 1 => big_mul (big_mul h (show 1 ≤ a.y.hi - a.y.lo + 1 by omega)) (show 1 ≤ a.z.hi - a.z.lo + 1 by omega)
  have m2 := Lib.hid fun h : 20000 < (a.x.hi - a.x.lo + 1) * (a.y.hi - a.y.lo + 1) => big_mul h (show 1 ≤ a.z.hi - a.z.lo + 1 by omega)
  go_enter Tryz.func44, Tryz.ntmps44
  go_upto_region 2 with ((go_at_call 77; (with_reducible refine (r_Sides a _).mono ?_); rintro e w3 ⟨rfl, hb3⟩; replace hb3 := bl_tt hb3))
  apply absB2 (w0 := w) (g0 := w.heap.size) (g1 := w3.heap.size)
  iterate 3 (focus exact zL)
  try clear hb3
  try clear hb0
  try clear k0
  try clear k1
  intro wa hb0 k0 k1
  (try simp only [List.setIfInBounds_toArray, List.set_cons_zero, List.set_cons_succ] at k0 k1)
  have Lk0 := k0.later
  have Fk0 := k0.laterF
  have Qk0 := k0.lt
  have Lk1 := k1.later
  have Fk1 := k1.laterF
  have Qk1 := k1.lt
  go_wp2
  refine wp_loop_rounds 4 ?_
  rw [rounds_succ]
  go_wp2
  refine wp_any (w0 := wa) ⟨[12], [], [some 12, some 13, some 14, some 15, some 16, some 17, some 18, some 19, some 20, some 21, some 22, some 23, none], [[], [], [1], [1, 2], [1, 2, 3], [], [5], [5, 6], [5, 6, 7], [1, 2, 3, 4, 5, 6, 7, 8], [1, 2, 3, 4, 5, 6, 7, 8, 9], [0, 1, 2, 3, 4, 5, 6, 7, 8, 9, 10], [0, 1, 2, 3, 4, 5, 6, 7, 8, 9, 10, 11]], [[], [], [1], [2], [3], [], [5], [6], [7], [4, 8], [9], [0, 10], []]⟩ (fun _ => []) (by kernel_rfl) (by kernel_rfl) (by (exact zE)) (fun u => by simp only [putD, Act.put, List.setIfInBounds_toArray, List.set_cons_zero, List.set_cons_succ, Nat.zero_add, Nat.reduceAdd]; rfl) ?_
  apply RGW.on (i := 0) rfl
  · exact zG
  · intro γ u W hcur hd
    clear hd
    (try dsimp only)
    exact ⟨rfl, zS⟩
  · exact zC
  · rfl
  dsimp only [nA, cA]
  apply RGW.on (i := 1) rfl
  · exact zG
  · intro γ u W hcur hd
    clear hd
    (try dsimp only)
    exact ⟨rfl, zS⟩
  · exact zC
  · rfl
  dsimp only [nA, cA]
  apply RGW.on (i := 2) rfl
  · exact zG
  · intro γ u W hcur hd
    obtain ⟨⟨h1, -, -⟩, -⟩ := hd
    dsimp only at h1
    (try simp only [h1])
    exact ⟨rfl, zS⟩
  · exact zC
  · rfl
  dsimp only [nA, cA]
  apply RGW.on (i := 3) rfl
  · exact zG
  · intro γ u W hcur hd
    obtain ⟨⟨h2, -, -⟩, -⟩ := hd
    dsimp only at h2
    (try simp only [h2])
    exact ⟨rfl, zS⟩
  · exact zC
  · rfl
  dsimp only [nA, cA]
  apply RGW.on (i := 4) rfl
  · exact zG
  · intro γ u W hcur hd
    obtain ⟨⟨h3, -, -⟩, -⟩ := hd
    dsimp only at h3
    (try simp only [h3])
    exact ⟨rfl, zS⟩
  · exact zC
  · rfl
  dsimp only [nA, cA]
  apply RGW.on (i := 5) rfl
  · exact zG
  · intro γ u W hcur hd
    clear hd
    (try dsimp only)
    exact ⟨rfl, zS⟩
  · exact zC
  · rfl
  dsimp only [nA, cA]
  apply RGW.on (i := 6) rfl
  · exact zG
  · intro γ u W hcur hd
    obtain ⟨⟨h5, -, -⟩, -⟩ := hd
    dsimp only at h5
    (try simp only [h5])
    exact ⟨rfl, zS⟩
  · exact zC
  · rfl
  dsimp only [nA, cA]
  apply RGW.on (i := 7) rfl
  · exact zG
  · intro γ u W hcur hd
    obtain ⟨⟨h6, -, -⟩, -⟩ := hd
    dsimp only at h6
    (try simp only [h6])
    exact ⟨rfl, zS⟩
  · exact zC
  · rfl
  dsimp only [nA, cA]
  apply RGW.on (i := 8) rfl
  · exact zG
  · intro γ u W hcur hd
    obtain ⟨⟨h7, -, -⟩, -⟩ := hd
    dsimp only at h7
    (try simp only [h7])
    exact ⟨rfl, zS⟩
  · exact zC
  · rfl
  dsimp only [nA, cA]
  apply RGW.on (i := 9) rfl
  · exact zG
  · intro γ u W hcur hd
    obtain ⟨⟨h4, -, -⟩, ⟨h8, -, -⟩, -⟩ := hd
    dsimp only at h4 h8
    (try simp only [h4, h8])
    exact ⟨rfl, zS⟩
  · exact zC
  · rfl
  dsimp only [nA, cA]
  apply RGW.on (i := 10) rfl
  · exact zG
  · intro γ u W hcur hd
    obtain ⟨⟨h9, -, -⟩, -⟩ := hd
    dsimp only at h9
    (try simp only [h9])
    exact ⟨rfl, zS⟩
  · exact zC
  · rfl
  dsimp only [nA, cA]
  apply RGW.on (i := 11) rfl
  · exact zG
  · intro γ u W hcur hd
    obtain ⟨⟨h0, -, -⟩, ⟨h10, -, -⟩, -⟩ := hd
    dsimp only at h0 h10
    (try simp only [h0, h10])
    exact ⟨rfl, zS⟩
  · exact zC
  · rfl
  dsimp only [nA, cA]
  refine RGW.skip (i := 12) rfl rfl ?_
  dsimp only [nA, cA]
  refine RGW.fin (fun γ u wb hwb hd hdis => ?_)
  obtain ⟨⟨h0, -, -⟩, ⟨h1, -, -⟩, ⟨h2, -, -⟩, ⟨h3, -, -⟩, ⟨h4, -, -⟩, ⟨h5, -, -⟩, ⟨h6, -, -⟩, ⟨h7, -, -⟩, ⟨h8, -, -⟩, ⟨h9, -, -⟩, ⟨h10, -, -⟩, ⟨h11, -, -⟩, -⟩ := hd
  dsimp only at h0 h1 h2 h3 h4 h5 h6 h7 h8 h9 h10 h11
  clear hdis
  simp only [h0, h1, h2, h3, h4, h5, h6, h7, h8, h9, h10, h11]
  clear h11 h10 h9 h8 h7 h6 h5 h4 h3 h2 h1 h0
  clear u
  simp only [List.map_cons, List.map_nil]
  apply PlanW.step
  · exact zG
  · rfl
  intro K hK
  go_simp
  refine hK.out _ _ (by (exact zX)) (fun hcur => ?_)
  clear hK K
  try simp only [Act.put, List.setIfInBounds_toArray, List.set_cons_zero, List.set_cons_succ]
  refine PlanW.done ?_
  have hb3 := bl_tt hwb
  apply absTB2 (w0 := w) (g0 := w.heap.size) (g1 := w3.heap.size)
  iterate 3 (focus exact zL)
  try clear hb3
  try clear Lk0
  try clear Fk0
  try clear Qk0
  try clear Lk1
  try clear Fk1
  try clear Qk1
  try clear hb0
  try clear k0
  try clear k1
  intro wc hb0 k0 k1
  (try simp only [List.setIfInBounds_toArray, List.set_cons_zero, List.set_cons_succ] at k0 k1)
  have Lk0 := k0.later
  have Fk0 := k0.laterF
  have Qk0 := k0.lt
  have Lk1 := k1.later
  have Fk1 := k1.laterF
  have Qk1 := k1.lt
  cases c1 : decide (20000 < a.x.hi - a.x.lo + 1)
  case true =>
    have h1 := Lib.hid (m1.out (of_decide_eq_true c1))
    go_wp2
    go_ret
    exact ⟨by simp [Bx.size, h1.out], hb0⟩
  go_wp2
  apply absRB2 (w0 := w) (g0 := w.heap.size) (g1 := w3.heap.size)
  iterate 3 (focus exact zL)
  try clear hb3
  try clear Lk0
  try clear Fk0
  try clear Qk0
  try clear Lk1
  try clear Fk1
  try clear Qk1
  try clear hb0
  try clear k0
  try clear k1
  intro wa hb0 k0 k1
  (try simp only [List.setIfInBounds_toArray, List.set_cons_zero, List.set_cons_succ] at k0 k1)
  have Lk0 := k0.later
  have Fk0 := k0.laterF
  have Qk0 := k0.lt
  have Lk1 := k1.later
  have Fk1 := k1.laterF
  have Qk1 := k1.lt
  rw [rounds_succ]
  go_wp2
  refine wp_any (w0 := wa) ⟨[12], [], [some 12, some 13, some 14, some 15, some 16, some 17, some 18, some 19, some 20, some 21, some 22, some 23, none], [[], [], [1], [1, 2], [1, 2, 3], [], [5], [5, 6], [5, 6, 7], [1, 2, 3, 4, 5, 6, 7, 8], [1, 2, 3, 4, 5, 6, 7, 8, 9], [0, 1, 2, 3, 4, 5, 6, 7, 8, 9, 10], [0, 1, 2, 3, 4, 5, 6, 7, 8, 9, 10, 11]], [[], [], [1], [2], [3], [], [5], [6], [7], [4, 8], [9], [0, 10], []]⟩ (fun _ => []) (by kernel_rfl) (by kernel_rfl) (by (exact zE)) (fun u => by simp only [putD, Act.put, List.setIfInBounds_toArray, List.set_cons_zero, List.set_cons_succ, Nat.zero_add, Nat.reduceAdd]; rfl) ?_
  apply RGW.on (i := 0) rfl
  · exact zG
  · intro γ u W hcur hd
    clear hd
    (try dsimp only)
    exact ⟨rfl, zS⟩
  · exact zC
  · rfl
  dsimp only [nA, cA]
  apply RGW.on (i := 1) rfl
  · exact zG
  · intro γ u W hcur hd
    clear hd
    (try dsimp only)
    exact ⟨rfl, zS⟩
  · exact zC
  · rfl
  dsimp only [nA, cA]
  apply RGW.on (i := 2) rfl
  · exact zG
  · intro γ u W hcur hd
    obtain ⟨⟨h1, -, -⟩, -⟩ := hd
    dsimp only at h1
    (try simp only [h1])
    exact ⟨rfl, zS⟩
  · exact zC
  · rfl
  dsimp only [nA, cA]
  apply RGW.on (i := 3) rfl
  · exact zG
  · intro γ u W hcur hd
    obtain ⟨⟨h2, -, -⟩, -⟩ := hd
    dsimp only at h2
    (try simp only [h2])
    exact ⟨rfl, zS⟩
  · exact zC
  · rfl
  dsimp only [nA, cA]
  apply RGW.on (i := 4) rfl
  · exact zG
  · intro γ u W hcur hd
    obtain ⟨⟨h3, -, -⟩, -⟩ := hd
    dsimp only at h3
    (try simp only [h3])
    exact ⟨rfl, zS⟩
  · exact zC
  · rfl
  dsimp only [nA, cA]
  apply RGW.on (i := 5) rfl
  · exact zG
  · intro γ u W hcur hd
    clear hd
    (try dsimp only)
    exact ⟨rfl, zS⟩
  · exact zC
  · rfl
  dsimp only [nA, cA]
  apply RGW.on (i := 6) rfl
  · exact zG
  · intro γ u W hcur hd
    obtain ⟨⟨h5, -, -⟩, -⟩ := hd
    dsimp only at h5
    (try simp only [h5])
    exact ⟨rfl, zS⟩
  · exact zC
  · rfl
  dsimp only [nA, cA]
  apply RGW.on (i := 7) rfl
  · exact zG
  · intro γ u W hcur hd
    obtain ⟨⟨h6, -, -⟩, -⟩ := hd
    dsimp only at h6
    (try simp only [h6])
    exact ⟨rfl, zS⟩
  · exact zC
  · rfl
  dsimp only [nA, cA]
  apply RGW.on (i := 8) rfl
  · exact zG
  · intro γ u W hcur hd
    obtain ⟨⟨h7, -, -⟩, -⟩ := hd
    dsimp only at h7
    (try simp only [h7])
    exact ⟨rfl, zS⟩
  · exact zC
  · rfl
  dsimp only [nA, cA]
  apply RGW.on (i := 9) rfl
  · exact zG
  · intro γ u W hcur hd
    obtain ⟨⟨h4, -, -⟩, ⟨h8, -, -⟩, -⟩ := hd
    dsimp only at h4 h8
    (try simp only [h4, h8])
    exact ⟨rfl, zS⟩
  · exact zC
  · rfl
  dsimp only [nA, cA]
  apply RGW.on (i := 10) rfl
  · exact zG
  · intro γ u W hcur hd
    obtain ⟨⟨h9, -, -⟩, -⟩ := hd
    dsimp only at h9
    (try simp only [h9])
    exact ⟨rfl, zS⟩
  · exact zC
  · rfl
  dsimp only [nA, cA]
  apply RGW.on (i := 11) rfl
  · exact zG
  · intro γ u W hcur hd
    obtain ⟨⟨h0, -, -⟩, ⟨h10, -, -⟩, -⟩ := hd
    dsimp only at h0 h10
    (try simp only [h0, h10])
    exact ⟨rfl, zS⟩
  · exact zC
  · rfl
  dsimp only [nA, cA]
  refine RGW.skip (i := 12) rfl rfl ?_
  dsimp only [nA, cA]
  refine RGW.fin (fun γ u wb hwb hd hdis => ?_)
  obtain ⟨⟨h0, -, -⟩, ⟨h1, -, -⟩, ⟨h2, -, -⟩, ⟨h3, -, -⟩, ⟨h4, -, -⟩, ⟨h5, -, -⟩, ⟨h6, -, -⟩, ⟨h7, -, -⟩, ⟨h8, -, -⟩, ⟨h9, -, -⟩, ⟨h10, -, -⟩, ⟨h11, -, -⟩, -⟩ := hd
  dsimp only at h0 h1 h2 h3 h4 h5 h6 h7 h8 h9 h10 h11
  clear hdis
  simp only [h0, h1, h2, h3, h4, h5, h6, h7, h8, h9, h10, h11]
  clear h11 h10 h9 h8 h7 h6 h5 h4 h3 h2 h1 h0
  clear u
  simp only [List.map_cons, List.map_nil]
  apply PlanW.step
  · exact zG
  · rfl
  intro K hK
  go_simp
  refine hK.out _ _ (by (exact zX)) (fun hcur => ?_)
  clear hK K
  try simp only [Act.put, List.setIfInBounds_toArray, List.set_cons_zero, List.set_cons_succ]
  refine PlanW.done ?_
  have hb3 := bl_tt hwb
  apply absTB2 (w0 := w) (g0 := w.heap.size) (g1 := w3.heap.size)
  iterate 3 (focus exact zL)
  try clear hb3
  try clear Lk0
  try clear Fk0
  try clear Qk0
  try clear Lk1
  try clear Fk1
  try clear Qk1
  try clear hb0
  try clear k0
  try clear k1
  intro wc hb0 k0 k1
  (try simp only [List.setIfInBounds_toArray, List.set_cons_zero, List.set_cons_succ] at k0 k1)
  have Lk0 := k0.later
  have Fk0 := k0.laterF
  have Qk0 := k0.lt
  have Lk1 := k1.later
  have Fk1 := k1.laterF
  have Qk1 := k1.lt
  cases c2 : decide (20000 < (a.x.hi - a.x.lo + 1) * (a.y.hi - a.y.lo + 1))
  case true =>
    have h1 := Lib.hid (m2.out (of_decide_eq_true c2))
    go_wp2
    go_ret
    exact ⟨by simp [Bx.size, h1.out], hb0⟩
  go_wp2
  apply absRB2 (w0 := w) (g0 := w.heap.size) (g1 := w3.heap.size)
  iterate 3 (focus exact zL)
  try clear hb3
  try clear Lk0
  try clear Fk0
  try clear Qk0
  try clear Lk1
  try clear Fk1
  try clear Qk1
  try clear hb0
  try clear k0
  try clear k1
  intro wa hb0 k0 k1
  (try simp only [List.setIfInBounds_toArray, List.set_cons_zero, List.set_cons_succ] at k0 k1)
  have Lk0 := k0.later
  have Fk0 := k0.laterF
  have Qk0 := k0.lt
  have Lk1 := k1.later
  have Fk1 := k1.laterF
  have Qk1 := k1.lt
  rw [rounds_succ]
  go_wp2
  refine wp_any (w0 := wa) ⟨[12], [], [some 12, some 13, some 14, some 15, some 16, some 17, some 18, some 19, some 20, some 21, some 22, some 23, none], [[], [], [1], [1, 2], [1, 2, 3], [], [5], [5, 6], [5, 6, 7], [1, 2, 3, 4, 5, 6, 7, 8], [1, 2, 3, 4, 5, 6, 7, 8, 9], [0, 1, 2, 3, 4, 5, 6, 7, 8, 9, 10], [0, 1, 2, 3, 4, 5, 6, 7, 8, 9, 10, 11]], [[], [], [1], [2], [3], [], [5], [6], [7], [4, 8], [9], [0, 10], []]⟩ (fun _ => []) (by kernel_rfl) (by kernel_rfl) (by (exact zE)) (fun u => by simp only [putD, Act.put, List.setIfInBounds_toArray, List.set_cons_zero, List.set_cons_succ, Nat.zero_add, Nat.reduceAdd]; rfl) ?_
  apply RGW.on (i := 0) rfl
  · exact zG
  · intro γ u W hcur hd
    clear hd
    (try dsimp only)
    exact ⟨rfl, zS⟩
  · exact zC
  · rfl
  dsimp only [nA, cA]
  apply RGW.on (i := 1) rfl
  · exact zG
  · intro γ u W hcur hd
    clear hd
    (try dsimp only)
    exact ⟨rfl, zS⟩
  · exact zC
  · rfl
  dsimp only [nA, cA]
  apply RGW.on (i := 2) rfl
  · exact zG
  · intro γ u W hcur hd
    obtain ⟨⟨h1, -, -⟩, -⟩ := hd
    dsimp only at h1
    (try simp only [h1])
    exact ⟨rfl, zS⟩
  · exact zC
  · rfl
  dsimp only [nA, cA]
  apply RGW.on (i := 3) rfl
  · exact zG
  · intro γ u W hcur hd
    obtain ⟨⟨h2, -, -⟩, -⟩ := hd
    dsimp only at h2
    (try simp only [h2])
    exact ⟨rfl, zS⟩
  · exact zC
  · rfl
  dsimp only [nA, cA]
  apply RGW.on (i := 4) rfl
  · exact zG
  · intro γ u W hcur hd
    obtain ⟨⟨h3, -, -⟩, -⟩ := hd
    dsimp only at h3
    (try simp only [h3])
    exact ⟨rfl, zS⟩
  · exact zC
  · rfl
  dsimp only [nA, cA]
  apply RGW.on (i := 5) rfl
  · exact zG
  · intro γ u W hcur hd
    clear hd
    (try dsimp only)
    exact ⟨rfl, zS⟩
  · exact zC
  · rfl
  dsimp only [nA, cA]
  apply RGW.on (i := 6) rfl
  · exact zG
  · intro γ u W hcur hd
    obtain ⟨⟨h5, -, -⟩, -⟩ := hd
    dsimp only at h5
    (try simp only [h5])
    exact ⟨rfl, zS⟩
  · exact zC
  · rfl
  dsimp only [nA, cA]
  apply RGW.on (i := 7) rfl
  · exact zG
  · intro γ u W hcur hd
    obtain ⟨⟨h6, -, -⟩, -⟩ := hd
    dsimp only at h6
    (try simp only [h6])
    exact ⟨rfl, zS⟩
  · exact zC
  · rfl
  dsimp only [nA, cA]
  apply RGW.on (i := 8) rfl
  · exact zG
  · intro γ u W hcur hd
    obtain ⟨⟨h7, -, -⟩, -⟩ := hd
    dsimp only at h7
    (try simp only [h7])
    exact ⟨rfl, zS⟩
  · exact zC
  · rfl
  dsimp only [nA, cA]
  apply RGW.on (i := 9) rfl
  · exact zG
  · intro γ u W hcur hd
    obtain ⟨⟨h4, -, -⟩, ⟨h8, -, -⟩, -⟩ := hd
    dsimp only at h4 h8
    (try simp only [h4, h8])
    exact ⟨rfl, zS⟩
  · exact zC
  · rfl
  dsimp only [nA, cA]
  apply RGW.on (i := 10) rfl
  · exact zG
  · intro γ u W hcur hd
    obtain ⟨⟨h9, -, -⟩, -⟩ := hd
    dsimp only at h9
    (try simp only [h9])
    exact ⟨rfl, zS⟩
  · exact zC
  · rfl
  dsimp only [nA, cA]
  apply RGW.on (i := 11) rfl
  · exact zG
  · intro γ u W hcur hd
    obtain ⟨⟨h0, -, -⟩, ⟨h10, -, -⟩, -⟩ := hd
    dsimp only at h0 h10
    (try simp only [h0, h10])
    exact ⟨rfl, zS⟩
  · exact zC
  · rfl
  dsimp only [nA, cA]
  refine RGW.skip (i := 12) rfl rfl ?_
  dsimp only [nA, cA]
  refine RGW.fin (fun γ u wb hwb hd hdis => ?_)
  obtain ⟨⟨h0, -, -⟩, ⟨h1, -, -⟩, ⟨h2, -, -⟩, ⟨h3, -, -⟩, ⟨h4, -, -⟩, ⟨h5, -, -⟩, ⟨h6, -, -⟩, ⟨h7, -, -⟩, ⟨h8, -, -⟩, ⟨h9, -, -⟩, ⟨h10, -, -⟩, ⟨h11, -, -⟩, -⟩ := hd
  dsimp only at h0 h1 h2 h3 h4 h5 h6 h7 h8 h9 h10 h11
  clear hdis
  simp only [h0, h1, h2, h3, h4, h5, h6, h7, h8, h9, h10, h11]
  clear h11 h10 h9 h8 h7 h6 h5 h4 h3 h2 h1 h0
  clear u
  simp only [List.map_cons, List.map_nil]
  apply PlanW.step
  · exact zG
  · rfl
  intro K hK
  go_simp
  refine hK.out _ _ (by (exact zX)) (fun hcur => ?_)
  clear hK K
  try simp only [Act.put, List.setIfInBounds_toArray, List.set_cons_zero, List.set_cons_succ]
  refine PlanW.done ?_
  have hb3 := bl_tt hwb
  apply absTB2 (w0 := w) (g0 := w.heap.size) (g1 := w3.heap.size)
  iterate 3 (focus exact zL)
  try clear hb3
  try clear Lk0
  try clear Fk0
  try clear Qk0
  try clear Lk1
  try clear Fk1
  try clear Qk1
  try clear hb0
  try clear k0
  try clear k1
  intro wc hb0 k0 k1
  (try simp only [List.setIfInBounds_toArray, List.set_cons_zero, List.set_cons_succ] at k0 k1)
  have Lk0 := k0.later
  have Fk0 := k0.laterF
  have Qk0 := k0.lt
  have Lk1 := k1.later
  have Fk1 := k1.laterF
  have Qk1 := k1.lt
  cases c3 : decide (20000 < (a.x.hi - a.x.lo + 1) * (a.y.hi - a.y.lo + 1) * (a.z.hi - a.z.lo + 1))
  case true =>
    go_wp2
    go_ret
    exact ⟨by rw [Bx.size, c3] <;> rfl, hb0⟩
  go_wp2
  apply absRB2 (w0 := w) (g0 := w.heap.size) (g1 := w3.heap.size)
  iterate 3 (focus exact zL)
  try clear hb3
  try clear Lk0
  try clear Fk0
  try clear Qk0
  try clear Lk1
  try clear Fk1
  try clear Qk1
  try clear hb0
  try clear k0
  try clear k1
  intro wa hb0 k0 k1
  (try simp only [List.setIfInBounds_toArray, List.set_cons_zero, List.set_cons_succ] at k0 k1)
  have Lk0 := k0.later
  have Fk0 := k0.laterF
  have Qk0 := k0.lt
  have Lk1 := k1.later
  have Fk1 := k1.laterF
  have Qk1 := k1.lt
  rw [rounds_succ]
  go_wp2
  go_ret
  exact ⟨by rw [Bx.size, c3] <;> rfl, hb0⟩
end Go.Proofs.YtephimmamkafoaaGreat
namespace Go.Proofs.YtephimmamkafoaaGreat
open Go.RowKit Go.Shelf
attribute [local go_sem] bl_al bl_drew bl_drewN bl_refl
set_option maxRecDepth 20000
set_option maxHeartbeats 2000000 in
theorem r_IsName (s : ByteArray) (w : World) (hs : s.size ≤ maxLen) :
    Calls Tryz.prog 95 #[.string s] w (Ret (.bool (nameB s)) w) := by
  unfold maxLen at hs
  obtain ⟨l, Hl⟩ : ∃ l, Hid (s.data.toList = l) := ⟨_, rfl⟩
  obtain ⟨n, Hn⟩ : ∃ n, Hid (s.size = n) := ⟨_, rfl⟩
  have Hln : Hid (l.length = n) := by rw [← Hl.out, ← Hn.out]; exact (by simp : s.data.toList.length = s.size)
  have hR : Hid (nameB s = (nameFrom 0 l && inR n 1 12)) := by unfold nameB; rw [Hl.out, Hn.out]; rfl
  rw [Hn.out] at hs
  have hsz : s.size = n := Hn.out
  by_cases hlow : n < 1
  · have e : Hid (nameB s = false) := by rw [hR.out]; refine Lib.hid ?_; have : inR n 1 12 = false := by simp [inR]; intro; omega
                                         rw [this, Bool.and_false]
    have hb1 : decide ((n : Int) < 1) = true := by simp; omega
    go_enter Tryz.func95, Tryz.ntmps95
    go_wp2
    go_ret
    exact ⟨by rw [e.out] <;> rfl, bl_refl _⟩
  have hb1 : decide ((n : Int) < 1) = false := by simp; omega
  by_cases hhi : 12 < n
  · have e : Hid (nameB s = false) := by rw [hR.out]; refine Lib.hid ?_; have : inR n 1 12 = false := by simp [inR]; intro; omega
                                         rw [this, Bool.and_false]
    have hb2 : decide ((12 : Int) < n) = true := by simp; omega
    go_enter Tryz.func95, Tryz.ntmps95
    go_wp2
    go_ret
    exact ⟨by rw [e.out] <;> rfl, bl_refl _⟩
  have hb2 : decide ((12 : Int) < n) = false := by simp; omega
  replace hR : Hid (nameB s = nameFrom 0 l) := by rw [hR.out]; refine Lib.hid ?_; have : inR n 1 12 = true := by simp [inR]; omega
                                                  rw [this, Bool.and_true]
  go_enter Tryz.func95, Tryz.ntmps95
  go_wp2
  go_loopw [3] (fun i wr => ∃ k : Nat, k ≤ n ∧ i = .int .i64 k ∧ wr = w ∧ nameFrom 0 l = nameFrom k (l.drop k)) (fun i _ => n - (intOf i).toNat)
  case atStart => exact ⟨0, Nat.zero_le _, rfl, rfl, rfl⟩
  case round =>
    obtain ⟨k, hk, rfl, rfl, hi⟩ := hrel
    replace hi := Lib.hid hi
    by_cases hlt : k < n
    · have hx : l[k]? = some (l[k]'(by rw [Hln.out]; exact hlt)) := List.getElem?_eq_getElem _
      generalize l[k]'(by rw [Hln.out]; exact hlt) = c at hx
      have hd := Lib.hid (nameFrom_drop l k c hx)
      have hks : k < s.size := by rw [hsz]; exact hlt
      have hget : s.data[k]'(by simpa using hks) = c := by
        have := hx
        rw [← Hl.out] at this
        simpa using (List.getElem?_eq_some_iff.1 this).2
      have hget' : (s[k]'hks) = c := hget
      have hm0 := c.toNat_lt
      have hlet := Lib.hid (letter_iff c)
      have hoth := Lib.hid (other_iff c)
      have hyes : Hid ((97 ≤ c.toNat ∧ c.toNat ≤ 122 ∨ 65 ≤ c.toNat ∧ c.toNat ≤ 90) ∨ k ≠ 0 ∧ (48 ≤ c.toNat ∧ c.toNat ≤ 57 ∨ c.toNat = 45) → nameFrom 0 l = nameFrom (k + 1) (l.drop (k + 1))) := by
        intro h
        rw [hi.out, hd.out]
        rcases h with h | ⟨h0, h⟩
        · simp [hlet.out.2 h]
        · simp [hoth.out.2 h, h0]
      have hno : Hid (¬ ((97 ≤ c.toNat ∧ c.toNat ≤ 122 ∨ 65 ≤ c.toNat ∧ c.toNat ≤ 90) ∨ k ≠ 0 ∧ (48 ≤ c.toNat ∧ c.toNat ≤ 57 ∨ c.toNat = 45)) → nameFrom 0 l = false) := by
        intro h
        rw [hi.out, hd.out]
        have h1 : letter c = false := by rw [Bool.eq_false_iff]; intro hh; exact h (.inl (hlet.out.1 hh))
        by_cases h0 : k = 0
        · simp [h1, h0]
        · have h2 : other c = false := by rw [Bool.eq_false_iff]; intro hh; exact h (.inr ⟨h0, hoth.out.1 hh⟩)
          simp [h1, h2]
      clear hx hlet hoth hd hi
      go_upto_region 7 with fail
      clear hget hget'
      generalize c.toNat = m at *
      have hcase : m < 45 ∨ m = 45 ∨ (45 < m ∧ m < 48) ∨ (48 ≤ m ∧ m ≤ 57) ∨ (57 < m ∧ m < 65) ∨ (65 ≤ m ∧ m ≤ 90) ∨ (90 < m ∧ m < 97) ∨ (97 ≤ m ∧ m ≤ 122) ∨ 122 < m := by omega
      by_cases h0 : k = 0
      · subst h0
        rcases hcase with h | rfl | ⟨h, h'⟩ | ⟨h, h'⟩ | ⟨h, h'⟩ | ⟨h, h'⟩ | ⟨h, h'⟩ | ⟨h, h'⟩ | h
        all_goals
          go_wp2
        all_goals first
          | (go_roundw
             case rel => exact ⟨1, by omega, by go_num, trivial, hyes.out (by omega)⟩
             case measure => simp [intOf]; omega)
          | (go_ret
             exact ⟨by rw [hR.out, hno.out (by omega)] <;> rfl, bl_refl _⟩)
          | (exfalso; simp at *; omega)
      · have h0' : ((k : Int) == 0) = false := by simp; omega
        rcases hcase with h | rfl | ⟨h, h'⟩ | ⟨h, h'⟩ | ⟨h, h'⟩ | ⟨h, h'⟩ | ⟨h, h'⟩ | ⟨h, h'⟩ | h
        all_goals
          go_wp2
        all_goals first
          | (go_roundw
             case rel => exact ⟨k + 1, by omega, by go_num, trivial, hyes.out (by omega)⟩
             case measure => simp [intOf]; omega)
          | (go_ret
             exact ⟨by rw [hR.out, hno.out (by omega)] <;> rfl, bl_refl _⟩)
          | (exfalso; simp at *; omega)
    · go_wp2
      go_ret
      have : k = l.length := by have := Hln.out; omega
      exact ⟨by rw [hR.out, hi.out, this]; simp [nameFrom], bl_refl _⟩
end Go.Proofs.YtephimmamkafoaaGreat
namespace Go.Proofs.YtephimmamkafoaaGreat
open Go.RowKit Go.Shelf
attribute [local go_sem] bl_al bl_drew bl_drewN bl_refl bx_al bx_drew bx_drewN bx_refl index_b0 index_b1 index_b2 index_p0 index_p1 index_p2
set_option maxRecDepth 20000
theorem worldErr_eq (b : Bx) (n : Nat) : worldErr b n = fstE [unl ((inR b.x.lo (-10000) 10000 && inR b.x.hi (-10000) 10000) && (inR b.y.lo (-10000) 10000 && inR b.y.hi (-10000) 10000) && (inR b.z.lo 0 10000 && inR b.z.hi 0 10000)) 2, unl b.ordered 9, unl (decide ((n : Int) ≤ 6)) 8] := by
  unfold worldErr
  have e : (b.sized 10000 && (decide (0 ≤ b.z.lo) && decide (0 ≤ b.z.hi))) = ((inR b.x.lo (-10000) 10000 && inR b.x.hi (-10000) 10000) && (inR b.y.lo (-10000) 10000 && inR b.y.hi (-10000) 10000) && (inR b.z.lo 0 10000 && inR b.z.hi 0 10000)) := by
    rw [Bool.eq_iff_iff]
    simp only [Bool.and_eq_true, inR_iff, decide_eq_true_eq, Bx.sized_iff, Bx.in, Rg.in]
    constructor <;> intro h <;> omega
  rw [e]
theorem known_step (bs : List Bc) (s : ByteArray) (j : Nat) (y : Bc) (hy : bs[j]? = some y) : known (bs.take (j + 1)) s = (known (bs.take j) s || (y.name.toList == s.toList)) := by
  unfold known
  rw [List.take_add_one, hy]
  simp [List.any_append]
theorem known_hit (bs : List Bc) (s : ByteArray) (j k : Nat) (y : Bc) (hy : bs[j]? = some y) (hjk : j < k) (h : (y.name.toList == s.toList) = true) : known (bs.take k) s = true := by
  unfold known
  rw [List.any_eq_true]
  refine ⟨y, ?_, h⟩
  have : (bs.take k)[j]? = some y := by rw [List.getElem?_take, if_pos hjk]; exact hy
  exact List.mem_of_getElem? this
set_option maxHeartbeats 8000000 in
theorem r_CheckNet (n : Nt) (A : Option Addr) (c : Nat) (w : World) (hn : NtIn n A c w) (hlb : n.bs.length ≤ 1000) :
    Calls Tryz.prog 54 #[vNt n.world (.slice A n.bs.length c)] w (Ret (.tuple #[.int .i64 (netChk n).1, .int .i64 (netChk n).2]) w) := by
  have hN := Lib.hid hn
  have hr0 := worldErr_eq n.world n.bs.length
  have hs1 : Hid (worldErr n.world n.bs.length = 0 → netChk n = eachS (bcErr n.bs) n.bs 0) := fun h => by rw [netChk, if_pos h]
  have hs2 : Hid (worldErr n.world n.bs.length ≠ 0 → netChk n = (0, worldErr n.world n.bs.length)) := fun h => by rw [netChk, if_neg h]
  clear hn
  obtain ⟨nl, Hn⟩ : ∃ k, Hid (n.bs.length = k) := ⟨_, rfl⟩
  rw [Hn.out] at hlb hr0 hs1 hs2 ⊢
  obtain ⟨bxlo, h⟩ : ∃ b', inR n.world.x.lo (-10000) 10000 = b' := ⟨_, rfl⟩
  have hcxlo := Lib.hid fun W : World => h ▸ r_Within n.world.x.lo (-10000) 10000 W
  rw [h] at hr0
  clear h
  obtain ⟨bxhi, h⟩ : ∃ b', inR n.world.x.hi (-10000) 10000 = b' := ⟨_, rfl⟩
  have hcxhi := Lib.hid fun W : World => h ▸ r_Within n.world.x.hi (-10000) 10000 W
  rw [h] at hr0
  clear h
  obtain ⟨bylo, h⟩ : ∃ b', inR n.world.y.lo (-10000) 10000 = b' := ⟨_, rfl⟩
  have hcylo := Lib.hid fun W : World => h ▸ r_Within n.world.y.lo (-10000) 10000 W
  rw [h] at hr0
  clear h
  obtain ⟨byhi, h⟩ : ∃ b', inR n.world.y.hi (-10000) 10000 = b' := ⟨_, rfl⟩
  have hcyhi := Lib.hid fun W : World => h ▸ r_Within n.world.y.hi (-10000) 10000 W
  rw [h] at hr0
  clear h
  obtain ⟨bzlo, h⟩ : ∃ b', inR n.world.z.lo 0 10000 = b' := ⟨_, rfl⟩
  have hczlo := Lib.hid fun W : World => h ▸ r_Within n.world.z.lo 0 10000 W
  rw [h] at hr0
  clear h
  obtain ⟨bzhi, h⟩ : ∃ b', inR n.world.z.hi 0 10000 = b' := ⟨_, rfl⟩
  have hczhi := Lib.hid fun W : World => h ▸ r_Within n.world.z.hi 0 10000 W
  rw [h] at hr0
  clear h
  obtain ⟨bo, ho⟩ : ∃ b', n.world.ordered = b' := ⟨_, rfl⟩
  have hco := Lib.hid fun W : World => ho ▸ r_IsEmpty n.world W
  rw [ho] at hr0
  clear ho
  replace hr0 := Lib.hid hr0
  go_enter Tryz.func54, Tryz.ntmps54
  go_upto_region 2 with ((go_at_call 77; (with_reducible refine (r_Sides n.world _).mono ?_); rintro e w3 ⟨rfl, hb3⟩; replace hb3 := bl_tt hb3))
  apply absB2 (w0 := w) (g0 := w.heap.size) (g1 := w3.heap.size)
  iterate 3 (focus exact zL)
  try clear hb3
  try clear hb0
  try clear k0
  try clear k1
  intro wa hb0 k0 k1
  (try simp only [List.setIfInBounds_toArray, List.set_cons_zero, List.set_cons_succ] at k0 k1)
  have Lk0 := k0.later
  have Fk0 := k0.laterF
  have Qk0 := k0.lt
  have Lk1 := k1.later
  have Fk1 := k1.laterF
  have Qk1 := k1.lt
  go_wp2
  refine wp_loop_rounds 4 ?_
  rw [rounds_succ]
  cases bxlo
  · go_wp2_with (go_at_call 78; (first | (with_reducible refine (hcxlo.out _).mono ?_) | (with_reducible refine (hcxhi.out _).mono ?_) | (with_reducible refine (hcylo.out _).mono ?_) | (with_reducible refine (hcyhi.out _).mono ?_) | (with_reducible refine (hczlo.out _).mono ?_) | (with_reducible refine (hczhi.out _).mono ?_)); rintro e w3 ⟨rfl, rfl⟩)
    go_ret2
    exact ⟨by rw [(hs2.out (by rw [hr0.out]; simp [fstE, unl])), hr0.out] <;> rfl, hb0⟩
  cases bxhi
  · go_wp2_with (go_at_call 78; (first | (with_reducible refine (hcxlo.out _).mono ?_) | (with_reducible refine (hcxhi.out _).mono ?_) | (with_reducible refine (hcylo.out _).mono ?_) | (with_reducible refine (hcyhi.out _).mono ?_) | (with_reducible refine (hczlo.out _).mono ?_) | (with_reducible refine (hczhi.out _).mono ?_)); rintro e w3 ⟨rfl, rfl⟩)
    go_ret2
    exact ⟨by rw [(hs2.out (by rw [hr0.out]; simp [fstE, unl])), hr0.out] <;> rfl, hb0⟩
  go_wp2_with (go_at_call 78; (first | (with_reducible refine (hcxlo.out _).mono ?_) | (with_reducible refine (hcxhi.out _).mono ?_) | (with_reducible refine (hcylo.out _).mono ?_) | (with_reducible refine (hcyhi.out _).mono ?_) | (with_reducible refine (hczlo.out _).mono ?_) | (with_reducible refine (hczhi.out _).mono ?_)); rintro e w3 ⟨rfl, rfl⟩)
  rw [rounds_succ]
  cases bylo
  · go_wp2_with (go_at_call 78; (first | (with_reducible refine (hcxlo.out _).mono ?_) | (with_reducible refine (hcxhi.out _).mono ?_) | (with_reducible refine (hcylo.out _).mono ?_) | (with_reducible refine (hcyhi.out _).mono ?_) | (with_reducible refine (hczlo.out _).mono ?_) | (with_reducible refine (hczhi.out _).mono ?_)); rintro e w3 ⟨rfl, rfl⟩)
    go_ret2
    exact ⟨by rw [(hs2.out (by rw [hr0.out]; simp [fstE, unl])), hr0.out] <;> rfl, hb0⟩
  cases byhi
  · go_wp2_with (go_at_call 78; (first | (with_reducible refine (hcxlo.out _).mono ?_) | (with_reducible refine (hcxhi.out _).mono ?_) | (with_reducible refine (hcylo.out _).mono ?_) | (with_reducible refine (hcyhi.out _).mono ?_) | (with_reducible refine (hczlo.out _).mono ?_) | (with_reducible refine (hczhi.out _).mono ?_)); rintro e w3 ⟨rfl, rfl⟩)
    go_ret2
    exact ⟨by rw [(hs2.out (by rw [hr0.out]; simp [fstE, unl])), hr0.out] <;> rfl, hb0⟩
  go_wp2_with (go_at_call 78; (first | (with_reducible refine (hcxlo.out _).mono ?_) | (with_reducible refine (hcxhi.out _).mono ?_) | (with_reducible refine (hcylo.out _).mono ?_) | (with_reducible refine (hcyhi.out _).mono ?_) | (with_reducible refine (hczlo.out _).mono ?_) | (with_reducible refine (hczhi.out _).mono ?_)); rintro e w3 ⟨rfl, rfl⟩)
  rw [rounds_succ]
  cases bzlo
  · go_wp2_with (go_at_call 78; (first | (with_reducible refine (hcxlo.out _).mono ?_) | (with_reducible refine (hcxhi.out _).mono ?_) | (with_reducible refine (hcylo.out _).mono ?_) | (with_reducible refine (hcyhi.out _).mono ?_) | (with_reducible refine (hczlo.out _).mono ?_) | (with_reducible refine (hczhi.out _).mono ?_)); rintro e w3 ⟨rfl, rfl⟩)
    go_ret2
    exact ⟨by rw [(hs2.out (by rw [hr0.out]; simp [fstE, unl])), hr0.out] <;> rfl, hb0⟩
  cases bzhi
  · go_wp2_with (go_at_call 78; (first | (with_reducible refine (hcxlo.out _).mono ?_) | (with_reducible refine (hcxhi.out _).mono ?_) | (with_reducible refine (hcylo.out _).mono ?_) | (with_reducible refine (hcyhi.out _).mono ?_) | (with_reducible refine (hczlo.out _).mono ?_) | (with_reducible refine (hczhi.out _).mono ?_)); rintro e w3 ⟨rfl, rfl⟩)
    go_ret2
    exact ⟨by rw [(hs2.out (by rw [hr0.out]; simp [fstE, unl])), hr0.out] <;> rfl, hb0⟩
  go_wp2_with (go_at_call 78; (first | (with_reducible refine (hcxlo.out _).mono ?_) | (with_reducible refine (hcxhi.out _).mono ?_) | (with_reducible refine (hcylo.out _).mono ?_) | (with_reducible refine (hcyhi.out _).mono ?_) | (with_reducible refine (hczlo.out _).mono ?_) | (with_reducible refine (hczhi.out _).mono ?_)); rintro e w3 ⟨rfl, rfl⟩)
  rw [rounds_succ]
  cases bo
  · go_wp2_with (go_at_call 29; (with_reducible refine (hco.out _).mono ?_); rintro e w3 ⟨rfl, hb3⟩)
    go_ret2
    exact ⟨by rw [(hs2.out (by rw [hr0.out]; simp [fstE, unl])), hr0.out] <;> rfl, bl_tr hb0 hb3⟩
  go_upto_region 12 with (go_at_call 29; (with_reducible refine (hco.out _).mono ?_); rintro e w3 ⟨rfl, hb3⟩; replace hb3 := bl_tt hb3)
  apply absB1 (w0 := w) (g0 := w.heap.size)
  iterate 2 (focus exact zL)
  try clear hb3
  try clear Lk0
  try clear Fk0
  try clear Qk0
  try clear Lk1
  try clear Fk1
  try clear Qk1
  try clear hb0
  try clear k0
  intro wb hb0 k0
  (try simp only [List.setIfInBounds_toArray, List.set_cons_zero, List.set_cons_succ] at k0)
  have Lk0 := k0.later
  have Fk0 := k0.laterF
  have Qk0 := k0.lt
  by_cases h6 : 6 < nl
  · have h6' : decide ((6 : Int) < (nl : Int)) = true := by simp; omega
    have h6'' : decide ((nl : Int) ≤ 6) = false := by simp; omega
    rw [h6''] at hr0
    clear h6 h6''
    go_wp2
    go_ret2
    exact ⟨by rw [(hs2.out (by rw [hr0.out]; simp [fstE, unl])), hr0.out] <;> rfl, hb0⟩
  have h6' : decide ((6 : Int) < (nl : Int)) = false := by simp; omega
  have h6'' : decide ((nl : Int) ≤ 6) = true := by simp; omega
  rw [h6''] at hr0
  have e := Lib.hid (hs1.out (by rw [hr0.out]; rfl))
  clear h6'' hs1 hs2 hr0 hco hcxlo hcxhi hcylo hcyhi hczlo hczhi
  go_wp2
  go_loopw [7] (fun i wr => ∃ k : Nat, k ≤ nl ∧ i = .int .i64 k ∧ Below wb.heap.size wb wr ∧ eachS (bcErr n.bs) n.bs 0 = eachS (bcErr n.bs) (n.bs.drop k) k) (fun i _ => nl - (intOf i).toNat)
  case atStart => exact ⟨0, Nat.zero_le _, rfl, Below.refl _ _, rfl⟩
  case round =>
    obtain ⟨k, hk, rfl, hb, hi⟩ := hrel
    replace hi := Lib.hid hi
    by_cases hlt : k < nl
    · have hx : n.bs[k]? = some (n.bs[k]'(by rw [Hn.out]; exact hlt)) := List.getElem?_eq_getElem _
      generalize n.bs[k]'(by rw [Hn.out]; exact hlt) = x at hx
      obtain ⟨b, off, hA, hc⟩ := hN.out.sl k x hx
      have hm : x ∈ n.bs := List.mem_of_getElem? hx
      have hd := Lib.hid (eachS_drop (bcErr n.bs) n.bs k x hx)
      have hnm := Lib.hid (hN.out.nm x hm)
      replace hx := Lib.hid hx
      have hS : Hid (Sl cBc 4 w (some ⟨b, off, none⟩) n.bs) := by rw [← hA]; exact hN.out.sl
      have c0 : ∀ W, Below wr.heap.size wr W → W.cell? ⟨b, off + k * 4, none⟩ = some (.string x.name) := later (kcell (bl_tr hb0 hb) (hc 0 _ rfl))
      have c1 := later (kcell (bl_tr hb0 hb) (hc 1 _ rfl))
      have c2 := later (kcell (bl_tr hb0 hb) (hc 2 _ rfl))
      have c3 := later (kcell (bl_tr hb0 hb) (hc 3 _ rfl))
      have hwr : Below w.heap.size w wr := bl_tr hb0 hb
      have hre : bcErr n.bs k x = fstE [unl (nameB x.name) 4, unl (!known (n.bs.take k) x.name) 5, unl (inR x.pl.x (-10000) 10000 && (inR x.pl.y (-10000) 10000 && inR x.pl.z (-10000) 10000)) 2] := by
        unfold bcErr Pl.co szd
        simp only [List.any_cons, List.any_nil, Bool.or_false, Bool.not_or, Bool.not_not]
      clear hc hm
      obtain ⟨bn, h⟩ : ∃ b', nameB x.name = b' := ⟨_, rfl⟩
      have hcn := Lib.hid fun W : World => h ▸ r_IsName x.name W hnm.out
      rw [h] at hre
      clear h
      obtain ⟨ba, h⟩ : ∃ b', inR x.pl.x (-10000) 10000 = b' := ⟨_, rfl⟩
      have hca := Lib.hid fun W : World => h ▸ r_Within x.pl.x (-10000) 10000 W
      rw [h] at hre
      clear h
      obtain ⟨bb, h⟩ : ∃ b', inR x.pl.y (-10000) 10000 = b' := ⟨_, rfl⟩
      have hcb := Lib.hid fun W : World => h ▸ r_Within x.pl.y (-10000) 10000 W
      rw [h] at hre
      clear h
      obtain ⟨bc, h⟩ : ∃ b', inR x.pl.z (-10000) 10000 = b' := ⟨_, rfl⟩
      have hcc := Lib.hid fun W : World => h ▸ r_Within x.pl.z (-10000) 10000 W
      rw [h] at hre
      clear h
      subst hA
      have k0 := k0.below hb
      have hb0' := hb0
      have hb0 := hb
      have Lk0 := k0.later
      have Fk0 := k0.laterF
      have Qk0 := k0.lt
      cases bn
      · replace hre := Lib.hid hre
        go_wp2_with (go_at_call 95; (with_reducible refine (hcn.out _).mono ?_); rintro e w3 ⟨rfl, hb3⟩)
        go_ret2
        exact ⟨by rw [e.out, hi.out, hd.out, hre.out] <;> rfl, bl_tr hb0' (bl_tr hb0 hb3)⟩
      go_upto_region 19 with (go_at_call 95; (with_reducible refine (hcn.out _).mono ?_); rintro e w3 ⟨rfl, hb3⟩; replace hb3 := bl_tt hb3)
      have hw3 := hb3 _ (bl_refl wr)
      apply absB1 (w0 := wb) (g0 := w.heap.size)
      iterate 2 (focus exact zL)
      try clear hb3
      try clear Lk0
      try clear Fk0
      try clear Qk0
      try clear hb0
      try clear k0
      intro wd hb0 k0
      (try simp only [List.setIfInBounds_toArray, List.set_cons_zero, List.set_cons_succ] at k0)
      have Lk0 := k0.later
      have Fk0 := k0.laterF
      have Qk0 := k0.lt
      clear hw3
      go_wp2
      go_loopw [8] (fun i wi => ∃ j : Nat, j ≤ k ∧ i = .int .i64 j ∧ Below wd.heap.size wd wi ∧ known (n.bs.take j) x.name = false) (fun i _ => k - (intOf i).toNat)
      case atStart => exact ⟨0, Nat.zero_le _, rfl, Below.refl _ _, by simp [known]⟩
      case round =>
        obtain ⟨j, hj, rfl, hbi, hkn⟩ := hrel
        replace hkn := Lib.hid hkn
        by_cases hjk : j < k
        · have hy : n.bs[j]? = some (n.bs[j]'(by rw [Hn.out]; omega)) := List.getElem?_eq_getElem _
          generalize n.bs[j]'(by rw [Hn.out]; omega) = y at hy
          obtain ⟨b2, off2, e2, hc2⟩ := hS.out j y hy
          cases e2
          obtain ⟨b3, off3, e3, hc3⟩ := hS.out k x hx.out
          cases e3
          have d0 : ∀ W, Below wd.heap.size wd W → W.cell? ⟨b, off + j * 4, none⟩ = some (.string y.name) := later (kcell (bl_tr hb0' hb0) (hc2 0 _ rfl))
          have d1 : ∀ W, Below wd.heap.size wd W → W.cell? ⟨b, off + k * 4, none⟩ = some (.string x.name) := later (kcell (bl_tr hb0' hb0) (hc3 0 _ rfl))
          clear hc2 hc3 c0
          have hks := Lib.hid (known_step n.bs x.name j y hy)
          have hkh := Lib.hid (known_hit n.bs x.name j k y hy hjk)
          replace hy := Lib.hid hy
          have hjn : j < nl := by omega
          go_wp2
          refine wp_any (w0 := wd) ⟨[], [], [some 64, some 65, some 66, some 67, some 68, some 69, some 70, some 71, some 72, some 73, some 74, some 75, some 76], [[], [0], [], [0, 1, 2], [0, 1, 2, 3], [0, 1, 2, 3, 4], [], [6], [], [6, 7, 8], [6, 7, 8, 9], [6, 7, 8, 9, 10], [0, 1, 2, 3, 4, 5, 6, 7, 8, 9, 10, 11]], [[], [0], [], [1, 2], [3], [4], [], [6], [], [7, 8], [9], [10], [5, 11]]⟩ (fun _ => []) (by kernel_rfl) (by kernel_rfl) (by (exact zE)) (fun u => by simp only [putD, Act.put, List.setIfInBounds_toArray, List.set_cons_zero, List.set_cons_succ, Nat.zero_add, Nat.reduceAdd]; rfl) ?_
          apply RGW.on (i := 0) rfl
          · exact zG
          · intro γ u W hcur hd
            clear hd
            (try dsimp only)
            exact ⟨rfl, zS⟩
          · exact zC
          · rfl
          dsimp only [nA, cA]
          apply RGW.on (i := 1) rfl
          · exact zG
          · intro γ u W hcur hd
            obtain ⟨⟨h0, -, -⟩, -⟩ := hd
            dsimp only at h0
            (try simp only [h0])
            exact ⟨rfl, zS⟩
          · exact zC
          · rfl
          dsimp only [nA, cA]
          apply RGW.on (i := 2) rfl
          · exact zG
          · intro γ u W hcur hd
            clear hd
            (try dsimp only)
            exact ⟨rfl, zS⟩
          · exact zC
          · rfl
          dsimp only [nA, cA]
          apply RGW.on (i := 3) rfl
          · exact zG
          · intro γ u W hcur hd
            obtain ⟨⟨h1, -, -⟩, ⟨h2, -, -⟩, -⟩ := hd
            dsimp only at h1 h2
            (try simp only [h1, h2])
            exact ⟨rfl, zS⟩
          · exact zC
          · rfl
          dsimp only [nA, cA]
          apply RGW.on (i := 4) rfl
          · exact zG
          · intro γ u W hcur hd
            obtain ⟨⟨h3, -, -⟩, -⟩ := hd
            dsimp only at h3
            (try simp only [h3])
            exact ⟨rfl, zS⟩
          · exact zC
          · rfl
          dsimp only [nA, cA]
          apply RGW.on (i := 5) rfl
          · exact zG
          · intro γ u W hcur hd
            obtain ⟨⟨h4, -, -⟩, -⟩ := hd
            dsimp only at h4
            (try simp only [h4])
            exact ⟨rfl, zS⟩
          · exact zC
          · rfl
          dsimp only [nA, cA]
          apply RGW.on (i := 6) rfl
          · exact zG
          · intro γ u W hcur hd
            clear hd
            (try dsimp only)
            exact ⟨rfl, zS⟩
          · exact zC
          · rfl
          dsimp only [nA, cA]
          apply RGW.on (i := 7) rfl
          · exact zG
          · intro γ u W hcur hd
            obtain ⟨⟨h6, -, -⟩, -⟩ := hd
            dsimp only at h6
            (try simp only [h6])
            exact ⟨rfl, zS⟩
          · exact zC
          · rfl
          dsimp only [nA, cA]
          apply RGW.on (i := 8) rfl
          · exact zG
          · intro γ u W hcur hd
            clear hd
            (try dsimp only)
            exact ⟨rfl, zS⟩
          · exact zC
          · rfl
          dsimp only [nA, cA]
          apply RGW.on (i := 9) rfl
          · exact zG
          · intro γ u W hcur hd
            obtain ⟨⟨h7, -, -⟩, ⟨h8, -, -⟩, -⟩ := hd
            dsimp only at h7 h8
            (try simp only [h7, h8])
            exact ⟨rfl, zS⟩
          · exact zC
          · rfl
          dsimp only [nA, cA]
          apply RGW.on (i := 10) rfl
          · exact zG
          · intro γ u W hcur hd
            obtain ⟨⟨h9, -, -⟩, -⟩ := hd
            dsimp only at h9
            (try simp only [h9])
            exact ⟨rfl, zS⟩
          · exact zC
          · rfl
          dsimp only [nA, cA]
          apply RGW.on (i := 11) rfl
          · exact zG
          · intro γ u W hcur hd
            obtain ⟨⟨h10, -, -⟩, -⟩ := hd
            dsimp only at h10
            (try simp only [h10])
            exact ⟨rfl, zS⟩
          · exact zC
          · rfl
          dsimp only [nA, cA]
          apply RGW.on (i := 12) rfl
          · exact zG
          · intro γ u W hcur hd
            obtain ⟨⟨h5, -, -⟩, ⟨h11, -, -⟩, -⟩ := hd
            dsimp only at h5 h11
            (try simp only [h5, h11])
            exact ⟨rfl, zS⟩
          · exact zC
          · rfl
          dsimp only [nA, cA]
          refine RGW.fin (fun γ u wj hwj hd hdis => ?_)
          obtain ⟨⟨h0, -, -⟩, ⟨h1, -, -⟩, ⟨h2, -, -⟩, ⟨h3, -, -⟩, ⟨h4, -, -⟩, ⟨h5, -, -⟩, ⟨h6, -, -⟩, ⟨h7, -, -⟩, ⟨h8, -, -⟩, ⟨h9, -, -⟩, ⟨h10, -, -⟩, ⟨h11, -, -⟩, ⟨h12, -, -⟩, -⟩ := hd
          dsimp only at h0 h1 h2 h3 h4 h5 h6 h7 h8 h9 h10 h11 h12
          clear hdis
          simp only [h0, h1, h2, h3, h4, h5, h6, h7, h8, h9, h10, h11, h12]
          clear h12 h11 h10 h9 h8 h7 h6 h5 h4 h3 h2 h1 h0
          clear u
          simp only [List.map_nil]
          refine PlanW.done ?_
          have hb3 := bl_tt hwj
          cases hyx : y.name.toList == x.name.toList
          · go_wp2
            go_roundw
            case rel => exact ⟨j + 1, by omega, by go_num, hwj, by rw [hks.out, hkn.out, hyx]; rfl⟩
            case measure => simp [intOf]; omega
          · rw [hkh.out hyx] at hre
            replace hre := Lib.hid hre
            go_wp2
            go_ret2
            exact ⟨by rw [e.out, hi.out, hd.out, hre.out] <;> rfl, bl_tr hb0' (bl_tr hb0 hwj)⟩
        · obtain rfl : j = k := by omega
          rw [hkn.out] at hre
          obtain ⟨b3, off3, e3, hc3⟩ := hS.out j x hx.out
          cases e3
          have d1 : ∀ W, Below wr.heap.size wr W → W.cell? ⟨b, off + j * 4 + 1, none⟩ = some (.int .i64 x.pl.x) := later (kcell (bl_tr hb0' (bl_tr hb0 hbi)) (hc3 1 _ rfl))
          have d2 : ∀ W, Below wr.heap.size wr W → W.cell? ⟨b, off + j * 4 + 2, none⟩ = some (.int .i64 x.pl.y) := later (kcell (bl_tr hb0' (bl_tr hb0 hbi)) (hc3 2 _ rfl))
          have d3 : ∀ W, Below wr.heap.size wr W → W.cell? ⟨b, off + j * 4 + 3, none⟩ = some (.int .i64 x.pl.z) := later (kcell (bl_tr hb0' (bl_tr hb0 hbi)) (hc3 3 _ rfl))
          clear hc3 c0 c1 c2 c3 hkn
          have k0 := k0.below hbi
          have hb0 := bl_tr hb0 hbi
          clear Lk0
          have Lk0 := k0.later
          have Fk0 := k0.laterF
          have Qk0 := k0.lt
          go_upto_region 25 with ((go_at_call 76; (with_reducible refine (r_Coord x.pl _).mono ?_); rintro e w3 ⟨rfl, hb3⟩; replace hb3 := bl_tt hb3))
          apply absB1 (w0 := wb) (g0 := w3.heap.size)
          iterate 2 (focus exact zL)
          try clear hb3
          try clear Lk0
          try clear Fk0
          try clear Qk0
          try clear hb0
          try clear k9
          intro we hb0 k9
          (try simp only [List.setIfInBounds_toArray, List.set_cons_zero, List.set_cons_succ] at k9)
          have Lk9 := k9.later
          have Fk9 := k9.laterF
          have Qk9 := k9.lt
          go_wp2
          refine wp_loop_rounds 4 ?_
          rw [rounds_succ]
          cases ba
          · replace hre := Lib.hid hre
            go_wp2_with (go_at_call 78; (first | (with_reducible refine (hca.out _).mono ?_) | (with_reducible refine (hcb.out _).mono ?_) | (with_reducible refine (hcc.out _).mono ?_)); rintro e w3 ⟨rfl, rfl⟩)
            go_ret2
            exact ⟨by rw [e.out, hi.out, hd.out, hre.out] <;> rfl, bl_tr hb0' hb0⟩
          go_wp2_with (go_at_call 78; (first | (with_reducible refine (hca.out _).mono ?_) | (with_reducible refine (hcb.out _).mono ?_) | (with_reducible refine (hcc.out _).mono ?_)); rintro e w3 ⟨rfl, rfl⟩)
          rw [rounds_succ]
          cases bb
          · replace hre := Lib.hid hre
            go_wp2_with (go_at_call 78; (first | (with_reducible refine (hca.out _).mono ?_) | (with_reducible refine (hcb.out _).mono ?_) | (with_reducible refine (hcc.out _).mono ?_)); rintro e w3 ⟨rfl, rfl⟩)
            go_ret2
            exact ⟨by rw [e.out, hi.out, hd.out, hre.out] <;> rfl, bl_tr hb0' hb0⟩
          go_wp2_with (go_at_call 78; (first | (with_reducible refine (hca.out _).mono ?_) | (with_reducible refine (hcb.out _).mono ?_) | (with_reducible refine (hcc.out _).mono ?_)); rintro e w3 ⟨rfl, rfl⟩)
          rw [rounds_succ]
          cases bc
          · replace hre := Lib.hid hre
            go_wp2_with (go_at_call 78; (first | (with_reducible refine (hca.out _).mono ?_) | (with_reducible refine (hcb.out _).mono ?_) | (with_reducible refine (hcc.out _).mono ?_)); rintro e w3 ⟨rfl, rfl⟩)
            go_ret2
            exact ⟨by rw [e.out, hi.out, hd.out, hre.out] <;> rfl, bl_tr hb0' hb0⟩
          go_wp2_with (go_at_call 78; (first | (with_reducible refine (hca.out _).mono ?_) | (with_reducible refine (hcb.out _).mono ?_) | (with_reducible refine (hcc.out _).mono ?_)); rintro e w3 ⟨rfl, rfl⟩)
          replace hre := Lib.hid hre
          rw [rounds_succ]
          go_wp2
          go_roundw
          case rel => exact ⟨j + 1, by omega, by go_num, hb0, by rw [hi.out, hd.out, hre.out] <;> rfl⟩
          case measure => simp [intOf]; omega
    · go_wp2
      go_ret2
      have : k = n.bs.length := by have := Hn.out; omega
      exact ⟨by rw [e.out, hi.out, this]; simp [eachS], bl_tr hb0 hb⟩
end Go.Proofs.YtephimmamkafoaaGreat
namespace Go.Proofs.YtephimmamkafoaaGreat
open Go.RowKit Go.Shelf
attribute [local go_sem] bl_al bl_drew bl_drewN bl_refl bx_al bx_drew bx_drewN bx_refl
set_option maxRecDepth 20000
theorem r_NetErr (n : Nt) (A : Option Addr) (c : Nat) (w : World) (hn : NtIn n A c w) :
    Calls Tryz.prog 12 #[vNt n.world (.slice A n.bs.length c)] w (Ret (.int .i64 (netErr n)) w) := by
  have hcr := Lib.hid fun (W : World) (hb : Below w.heap.size w W) => r_CheckNet n A c W (hn.below hb) hn.len
  clear hn
  unfold netErr
  generalize n.bs.length = nl at *
  go_enter Tryz.func12, Tryz.ntmps12
  go_wp2_with fail
  refine Calls.mono (hcr.out _ ?_) ?_
  · solve_by_elim (maxDepth := 60) only [bl_al, bl_drew, bl_drewN, bl_refl, *]
  rintro e w3 ⟨rfl, hb3⟩
  replace hb3 := bl_tt hb3
  have hb1 := hb3 w (by (exact zE))
  go_wp2
  go_ret
  exact ⟨rfl, hb1⟩
theorem first_ne {a b c d e f : Prop} (h : ¬ (a ∧ b ∧ c ∧ d ∧ e ∧ f)) : ¬ a ∨ (a ∧ ¬ b) ∨ (a ∧ b ∧ ¬ c) ∨ (a ∧ b ∧ c ∧ ¬ d) ∨ (a ∧ b ∧ c ∧ d ∧ ¬ e) ∨ (a ∧ b ∧ c ∧ d ∧ e ∧ ¬ f) := by
  by_cases ha : a
  · by_cases hb : b
    · by_cases hc : c
      · by_cases hd : d
        · by_cases he : e
          · by_cases hf : f
            · exact absurd ⟨ha, hb, hc, hd, he, hf⟩ h
            · exact .inr (.inr (.inr (.inr (.inr ⟨ha, hb, hc, hd, he, hf⟩))))
          · exact .inr (.inr (.inr (.inr (.inl ⟨ha, hb, hc, hd, he⟩))))
        · exact .inr (.inr (.inr (.inl ⟨ha, hb, hc, hd⟩)))
      · exact .inr (.inr (.inl ⟨ha, hb, hc⟩))
    · exact .inr (.inl ⟨ha, hb⟩)
  · exact .inl ha
theorem meet_holds (a b : Bx) : a.holds b = true ↔ ((b.meet a).x.lo = b.x.lo ∧ (b.meet a).x.hi = b.x.hi ∧ (b.meet a).y.lo = b.y.lo ∧ (b.meet a).y.hi = b.y.hi ∧ (b.meet a).z.lo = b.z.lo ∧ (b.meet a).z.hi = b.z.hi) := by
  rw [Bx.holds_iff]
  simp only [Bx.meet, Rg.meet]
  constructor <;> intro h <;> omega
set_option maxHeartbeats 2000000 in
theorem r_BoxErr (n : Nt) (b : Bx) (A : Option Addr) (c : Nat) (w : World) (hn : NtIn n A c w) :
    Calls Tryz.prog 61 #[vNt n.world (.slice A n.bs.length c), vBx b] w (Ret (.int .i64 (boxErr n b)) w) := by
  have hcn := Lib.hid fun (W : World) (hb : Below w.heap.size w W) => r_NetErr n A c W (hn.below hb)
  have hr0 : boxErr n b = fstE [netErr n, unl b.ordered 9, unl (n.world.holds b) 2] := rfl
  clear hn
  obtain ⟨bo, ho⟩ : ∃ b', b.ordered = b' := ⟨_, rfl⟩
  have hco := Lib.hid fun W : World => ho ▸ r_IsEmpty b W
  rw [ho] at hr0
  clear ho
  generalize n.bs.length = nl at *
  generalize netErr n = ne at *
  go_enter Tryz.func61, Tryz.ntmps61
  go_upto_region 1 with fail
  apply absB2 (w0 := w) (g0 := w.heap.size) (g1 := w.heap.size + 1)
  iterate 3 (focus exact zL)
  try clear hb3
  try clear hb0
  try clear k0
  try clear k1
  intro wa hb0 k0 k1
  (try simp only [List.setIfInBounds_toArray, List.set_cons_zero, List.set_cons_succ] at k0 k1)
  have Lk0 := k0.later
  have Fk0 := k0.laterF
  have Qk0 := k0.lt
  have Lk1 := k1.later
  have Fk1 := k1.laterF
  have Qk1 := k1.lt
  go_wp2_with fail
  refine Calls.mono (hcn.out _ hb0) ?_
  rintro e w3 ⟨rfl, hb3⟩
  replace hb3 := bl_tt hb3
  apply absX2 (w0 := w) (w := w3) (g0 := w.heap.size) (g1 := w.heap.size + 1)
  iterate 3 (focus exact zL)
  try clear hb3
  try clear Lk0
  try clear Fk0
  try clear Qk0
  try clear Lk1
  try clear Fk1
  try clear Qk1
  try clear hb0
  try clear k0
  try clear k1
  intro wb hb0 k0 k1
  (try simp only [List.setIfInBounds_toArray, List.set_cons_zero, List.set_cons_succ] at k0 k1)
  have Lk0 := k0.later
  have Fk0 := k0.laterF
  have Qk0 := k0.lt
  have Lk1 := k1.later
  have Fk1 := k1.laterF
  have Qk1 := k1.lt
  by_cases h0 : ne = 0
  · have h0' : (ne != 0) = false := by simp [h0]
    replace h0 := Lib.hid h0
    cases bo
    · replace hr0 := Lib.hid hr0
      go_wp2_with (go_at_call 29; (with_reducible refine (hco.out _).mono ?_); rintro e w3 ⟨rfl, hb3⟩)
      go_ret
      exact ⟨by rw [hr0.out, h0.out] <;> rfl, bl_tr hb0 hb3⟩
    go_upto_region 6 with (go_at_call 29; (with_reducible refine (hco.out _).mono ?_); rintro e w3 ⟨rfl, hb3⟩; replace hb3 := bl_tt hb3)
    apply absB2 (w0 := w) (g0 := w.heap.size) (g1 := w.heap.size + 1)
    iterate 3 (focus exact zL)
    try clear hb3
    try clear Lk0
    try clear Fk0
    try clear Qk0
    try clear Lk1
    try clear Fk1
    try clear Qk1
    try clear hb0
    try clear k0
    try clear k1
    intro wc hb0 k0 k1
    (try simp only [List.setIfInBounds_toArray, List.set_cons_zero, List.set_cons_succ] at k0 k1)
    have Lk0 := k0.later
    have Fk0 := k0.laterF
    have Qk0 := k0.lt
    have Lk1 := k1.later
    have Fk1 := k1.laterF
    have Qk1 := k1.lt
    have hmh := meet_holds n.world b
    by_cases hq : n.world.holds b = true
    · rw [hq] at hr0
      obtain ⟨q1, q2, q3, q4, q5, q6⟩ := hmh.1 hq
      clear hmh hq
      replace hr0 := Lib.hid hr0
      refine wp_any (w0 := wc) ⟨[], [], [some 13, some 14, some 15, some 16, some 17, some 18], [[], [], [1], [0, 1, 2], [], [0, 1, 2, 3, 4]], [[], [], [1], [0, 2], [], [3, 4]]⟩ (fun _ => []) (by kernel_rfl) (by kernel_rfl) (by (exact zE)) (fun u => by simp only [putD, Act.put, List.setIfInBounds_toArray, List.set_cons_zero, List.set_cons_succ, Nat.zero_add, Nat.reduceAdd]; rfl) ?_
      apply RGW.on (i := 0) rfl
      · exact zG
      · intro γ u W hcur hd
        clear hd
        (try dsimp only)
        exact ⟨rfl, zS⟩
      · exact zC
      · rfl
      dsimp only [nA, cA]
      apply RGW.on (i := 1) rfl
      · exact zG
      · intro γ u W hcur hd
        clear hd
        (try dsimp only)
        exact ⟨rfl, zS⟩
      · exact zC
      · rfl
      dsimp only [nA, cA]
      apply RGW.on (i := 2) rfl
      · exact zG
      · intro γ u W hcur hd
        obtain ⟨⟨h1, -, -⟩, -⟩ := hd
        dsimp only at h1
        (try simp only [h1])
        exact ⟨rfl, zS⟩
      · exact zC
      · rfl
      dsimp only [nA, cA]
      apply RGW.call (i := 3) rfl
      · exact zG
      · intro γ u W hcur hd
        obtain ⟨⟨h0, -, -⟩, ⟨h2, -, -⟩, -⟩ := hd
        dsimp only at h0 h2
        (try simp only [h0, h2])
        refine ⟨rfl, fun K hK => ?_⟩
        go_simp
        (go_at_call 30; (with_reducible refine (r_Common b n.world _).mono ?_); rintro e w3 ⟨rfl, hb3⟩; replace hb3 := bl_tt hb3)
        (try dsimp only)
        exact hK.out _ _ rfl (by (exact zE))
      · exact zC
      · rfl
      dsimp only [nA, cA]
      apply RGW.on (i := 4) rfl
      · exact zG
      · intro γ u W hcur hd
        clear hd
        (try dsimp only)
        exact ⟨rfl, zS⟩
      · exact zC
      · rfl
      dsimp only [nA, cA]
      apply RGW.on (i := 5) rfl
      · exact zG
      · intro γ u W hcur hd
        obtain ⟨⟨h3, -, -⟩, ⟨h4, -, -⟩, -⟩ := hd
        dsimp only at h3 h4
        (try simp only [h3, h4])
        exact ⟨rfl, zS⟩
      · exact zC
      · rfl
      dsimp only [nA, cA]
      refine RGW.fin (fun γ u wd hwd hd hdis => ?_)
      obtain ⟨⟨h0, -, -⟩, ⟨h1, -, -⟩, ⟨h2, -, -⟩, ⟨h3, -, -⟩, ⟨h4, -, -⟩, ⟨h5, -, -⟩, -⟩ := hd
      dsimp only at h0 h1 h2 h3 h4 h5
      clear hdis
      simp only [h0, h1, h2, h3, h4, h5]
      clear h5 h4 h3 h2 h1 h0
      clear u
      simp only [List.map_nil]
      refine PlanW.done ?_
      have hb3 := bl_tt hwd
      have hb1 := hb3 _ hb0
      go_wp2
      go_ret
      exact ⟨by rw [hr0.out, h0.out] <;> rfl, hb1⟩
    · have hd := fun h => hq (hmh.2 h)
      have hf : n.world.holds b = false := by simpa using hq
      rw [hf] at hr0
      clear hmh hq hf
      replace hr0 := Lib.hid hr0
      rcases first_ne hd with h | ⟨q1, h⟩ | ⟨q1, q2, h⟩ | ⟨q1, q2, q3, h⟩ | ⟨q1, q2, q3, q4, h⟩ | ⟨q1, q2, q3, q4, q5, h⟩
      all_goals
        clear hd
        refine wp_any (w0 := wc) ⟨[], [], [some 13, some 14, some 15, some 16, some 17, some 18], [[], [], [1], [0, 1, 2], [], [0, 1, 2, 3, 4]], [[], [], [1], [0, 2], [], [3, 4]]⟩ (fun _ => []) (by kernel_rfl) (by kernel_rfl) (by (exact zE)) (fun u => by simp only [putD, Act.put, List.setIfInBounds_toArray, List.set_cons_zero, List.set_cons_succ, Nat.zero_add, Nat.reduceAdd]; rfl) ?_
        apply RGW.on (i := 0) rfl
        · exact zG
        · intro γ u W hcur hd
          clear hd
          (try dsimp only)
          exact ⟨rfl, zS⟩
        · exact zC
        · rfl
        dsimp only [nA, cA]
        apply RGW.on (i := 1) rfl
        · exact zG
        · intro γ u W hcur hd
          clear hd
          (try dsimp only)
          exact ⟨rfl, zS⟩
        · exact zC
        · rfl
        dsimp only [nA, cA]
        apply RGW.on (i := 2) rfl
        · exact zG
        · intro γ u W hcur hd
          obtain ⟨⟨h1, -, -⟩, -⟩ := hd
          dsimp only at h1
          (try simp only [h1])
          exact ⟨rfl, zS⟩
        · exact zC
        · rfl
        dsimp only [nA, cA]
        apply RGW.call (i := 3) rfl
        · exact zG
        · intro γ u W hcur hd
          obtain ⟨⟨h0, -, -⟩, ⟨h2, -, -⟩, -⟩ := hd
          dsimp only at h0 h2
          (try simp only [h0, h2])
          refine ⟨rfl, fun K hK => ?_⟩
          go_simp
          (go_at_call 30; (with_reducible refine (r_Common b n.world _).mono ?_); rintro e w3 ⟨rfl, hb3⟩; replace hb3 := bl_tt hb3)
          (try dsimp only)
          exact hK.out _ _ rfl (by (exact zE))
        · exact zC
        · rfl
        dsimp only [nA, cA]
        apply RGW.on (i := 4) rfl
        · exact zG
        · intro γ u W hcur hd
          clear hd
          (try dsimp only)
          exact ⟨rfl, zS⟩
        · exact zC
        · rfl
        dsimp only [nA, cA]
        apply RGW.on (i := 5) rfl
        · exact zG
        · intro γ u W hcur hd
          obtain ⟨⟨h3, -, -⟩, ⟨h4, -, -⟩, -⟩ := hd
          dsimp only at h3 h4
          (try simp only [h3, h4])
          exact ⟨rfl, zS⟩
        · exact zC
        · rfl
        dsimp only [nA, cA]
        refine RGW.fin (fun γ u wd hwd hd hdis => ?_)
        obtain ⟨⟨h0, -, -⟩, ⟨h1, -, -⟩, ⟨h2, -, -⟩, ⟨h3, -, -⟩, ⟨h4, -, -⟩, ⟨h5, -, -⟩, -⟩ := hd
        dsimp only at h0 h1 h2 h3 h4 h5
        clear hdis
        simp only [h0, h1, h2, h3, h4, h5]
        clear h5 h4 h3 h2 h1 h0
        clear u
        simp only [List.map_nil]
        refine PlanW.done ?_
        have hb3 := bl_tt hwd
        have hb1 := hb3 _ hb0
        go_wp2
        go_ret
        exact ⟨by rw [hr0.out, h0.out] <;> rfl, hb1⟩
  · have h0' : (ne != 0) = true := by simp [h0]
    have hr1 : boxErr n b = ne := by rw [hr0]; simp [fstE, h0]
    replace hr1 := Lib.hid hr1
    clear hr0
    replace h0 := Lib.hid h0
    go_wp2
    go_ret
    exact ⟨by rw [hr1.out] <;> rfl, hb0⟩
end Go.Proofs.YtephimmamkafoaaGreat
namespace Go.Proofs.YtephimmamkafoaaGreat
open Go.RowKit Go.Shelf
attribute [local go_sem] bl_al bl_drew bl_drewN bl_refl bx_al bx_drew bx_drewN bx_refl
set_option maxRecDepth 20000
def lightB (n : Nt) (b : Bx) : Bool := !decide (boxErr n b = 0) || decide (20000 < b.size) || decide (b.size ≤ 700)
set_option maxHeartbeats 4000000 in
theorem r_light (n : Nt) (b : Bx) (A : Option Addr) (c : Nat) (w : World) (hn : NtIn n A c w) : Calls Tryz.prog 45 #[vNt n.world (.slice A n.bs.length c), vBx b] w (Ret (.bool (lightB n b)) w) := by
  have hbe := Lib.hid fun (W : World) (hb : Below w.heap.size w W) => r_BoxErr n b A c W (hn.below hb)
  clear hn
  generalize n.bs.length = nl at *
  by_cases h0 : boxErr n b = 0
  · have hbo := box_ok h0
    have hil := Lib.hid fun W : World => r_IsLarge b W hbo
    have hL : lightB n b = (decide (20000 < b.size) || decide (b.size ≤ 700)) := by simp [lightB, h0]
    rw [hL]
    rw [h0] at hbe
    clear hL h0
    have hz : b.size = (b.x.hi - b.x.lo + 1) * (b.y.hi - b.y.lo + 1) * (b.z.hi - b.z.lo + 1) := rfl
    rw [hz] at hil ⊢
    clear hz
    obtain ⟨⟨x1, x2, x3⟩, ⟨y1, y2, y3⟩, ⟨z1, z2, z3⟩⟩ := hbo
    obtain ⟨p1, p2⟩ := mul_bd (a := b.x.hi - b.x.lo + 1) (b := b.y.hi - b.y.lo + 1) (m := 20001) (n := 20001) (by omega) (by omega) (by omega) (by omega)
    obtain ⟨q1, q2⟩ := mul_bd (a := (b.x.hi - b.x.lo + 1) * (b.y.hi - b.y.lo + 1)) (b := b.z.hi - b.z.lo + 1) (m := 400040001) (n := 20001) p1 p2 (by omega) (by omega)
    obtain ⟨B, hB⟩ : ∃ B, decide (20000 < (b.x.hi - b.x.lo + 1) * (b.y.hi - b.y.lo + 1) * (b.z.hi - b.z.lo + 1)) = B := ⟨_, rfl⟩
    rw [hB] at hil ⊢
    clear hB
    cases B
    all_goals
      go_enter Tryz.func45, Tryz.ntmps45
      go_upto_region 1 with fail
      apply absB2 (w0 := w) (g0 := w.heap.size) (g1 := w.heap.size + 1)
      iterate 3 (focus exact zL)
      try clear hb3
      try clear hb0
      try clear k0
      try clear k1
      intro wa hb0 k0 k1
      (try simp only [List.setIfInBounds_toArray, List.set_cons_zero, List.set_cons_succ] at k0 k1)
      have Lk0 := k0.later
      have Fk0 := k0.laterF
      have Qk0 := k0.lt
      have Lk1 := k1.later
      have Fk1 := k1.laterF
      have Qk1 := k1.lt
      go_wp2_with (first | (go_at_call 61; (with_reducible refine (hbe.out _ (bl_tr hb0 (by (exact zE)))).mono ?_); rintro e w3 ⟨rfl, hb3⟩; replace hb3 := bl_tt hb3; have hv := hb3 wa (by (exact zE))) | (go_at_call 44; (with_reducible refine (hil.out _).mono ?_); rintro e w3 ⟨rfl, hb4⟩; replace hb3 := fun w h => bl_tt hb4 w (hb3 w h); have hv := hb3 wa (by (exact zE))))
      go_ret
      exact ⟨by simp, bl_tr hb0 hv⟩
  · have hL : lightB n b = true := by simp [lightB, h0]
    have h0' : (boxErr n b != 0) = true := by simp [h0]
    rw [hL]
    replace h0 := Lib.hid h0
    clear hL
    go_enter Tryz.func45, Tryz.ntmps45
    go_upto_region 1 with fail
    apply absB2 (w0 := w) (g0 := w.heap.size) (g1 := w.heap.size + 1)
    iterate 3 (focus exact zL)
    try clear hb3
    try clear hb0
    try clear k0
    try clear k1
    intro wa hb0 k0 k1
    (try simp only [List.setIfInBounds_toArray, List.set_cons_zero, List.set_cons_succ] at k0 k1)
    have Lk0 := k0.later
    have Fk0 := k0.laterF
    have Qk0 := k0.lt
    have Lk1 := k1.later
    have Fk1 := k1.laterF
    have Qk1 := k1.lt
    go_wp2_with (go_at_call 61; (with_reducible refine (hbe.out _ (bl_tr hb0 (by (exact zE)))).mono ?_); rintro e w3 ⟨rfl, hb3⟩; replace hb3 := bl_tt hb3; have hv := hb3 wa (by (exact zE)))
    go_ret
    exact ⟨rfl, bl_tr hb0 hv⟩
theorem votes_ref (bs : List Bc) (l : List Rd) (k : Int) (h : l.length ≤ 8) : okB bs l k = fun p => !decide (((agrL bs l p).length : Int) + k < (l.length : Int)) := by
  funext p
  exact okB_ref bs l k p h
theorem agrL_le (bs : List Bc) (l : List Rd) (p : Pl) (h : l.length ≤ 8) : (agrL bs l p).length ≤ 1000 := by
  have := pickL_len (agrAt bs p l) l.length
  unfold agrL
  omega
/-- The reference's vote of a box that is searched. -/
theorem r_Voted (n : Nt) (b : Bx) (v : Vt) (A A' : Option Addr) (c c' : Nat) (w : World) (hn : NtIn n A c w) (hl : Sl cRd 4 w A' v.rs) (h0 : votedE n b v = 0) (hsz : b.size ≤ 20000) :
    Calls Tryz.prog 62 #[vNt n.world (.slice A n.bs.length c), vBx b, .slice A' v.rs.length c', .int .i64 v.wrong] w (Ret (.tuple #[vBx (votesB n b v).1, .int .i64 (votesB n b v).2]) w) := by
  obtain ⟨hbo, h8, hr⟩ := voted_ok h0
  have hw : 0 ≤ v.wrong ∧ v.wrong ≤ v.rs.length := by
    unfold votedE voteE at h0
    simp only [fst_cons, unl_zero (show (2 : Int) ≠ 0 by decide), inR_iff] at h0
    exact h0.2.1.2.1
  rw [votesB, votes_ref n.bs v.rs v.wrong h8]
  exact r_Voted0 n.world b n.bs.length v.rs.length A A' c c' v.wrong (agrL n.bs v.rs) _ w (fun W hb p hp => r_Agreeing n.world n.bs A A' c c' v.rs p W (hn.sl.below hb) hn.len (hl.below hb) (by omega) hp hr)
    (fun p => agrL_le n.bs v.rs p h8) hw.1 (by omega) (fun _ => rfl) (fun p h => pts_in hbo h) (by have := pts_size hbo; omega) hbo.in
end Go.Proofs.YtephimmamkafoaaGreat
