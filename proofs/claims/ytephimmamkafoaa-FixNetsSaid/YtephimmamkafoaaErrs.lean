/-
  Walks: the errors of moves and of boxes.
-/
import Derived.Test.YtephimmamkafoaaHas
namespace Go.Proofs.Ytephimmamkafoaa
set_option linter.unusedSimpArgs false
set_option linter.unusedVariables false
open Go.RowKit Go.Shelf
attribute [local go_sem] bl_al bl_drew bl_drewN bl_refl
set_option maxRecDepth 20000
abbrev aBx (b : Bx) : Array Value := #[.int .i64 b.x.lo, .int .i64 b.x.hi, .int .i64 b.y.lo, .int .i64 b.y.hi, .int .i64 b.z.lo, .int .i64 b.z.hi]
abbrev aMv (m : Mv) : Array Value := #[.int .i64 m.ticks, .int .i64 m.speed.x.lo, .int .i64 m.speed.x.hi, .int .i64 m.speed.y.lo, .int .i64 m.speed.y.hi, .int .i64 m.speed.z.lo, .int .i64 m.speed.z.hi]
set_option maxHeartbeats 2000000 in
theorem c_moveErr (m : Mv) (w : World) : Calls Try.prog 118 #[vMv m] w (Ret (.int .i64 (mvErr m)) w) := by
  have hr : Hid (mvErr m = fstE [unl (inR m.ticks 0 1000 && m.speed.sized 100) 2, unl m.speed.ordered 9]) := rfl
  cases hA : inR m.ticks 0 1000
  all_goals
    rw [hA] at hr
    simp only [Bool.false_and, Bool.true_and] at hr
    go_enter Try.func118, Try.ntmps118
    go_wp2_with ((go_at_call 59; (with_reducible refine (c_of m.speed _).mono ?_); rintro e w3 ⟨rfl, hb3⟩; replace hb3 := bl_tt hb3))
    have k0 := (Blk.new w 60 (aMv m)).below (hb3 _ (bl_refl _))
    refine abs1 (fun wb hb k1 => ?_)
    replace hb := bl_tt hb
    have L0 := (k0.below (hb _ (bl_refl _))).later
    have L1 := k1.later
    clear k0 k1
    refine wp_plan [(0, true), (1, true), (8, true), (2, false), (3, true), (4, true), (5, false), (6, true), (7, false), (9, false), (10, false), (11, false), (12, false), (13, true)] (fun W => Below wb.heap.size wb W) (by kernel_rfl) (by kernel_rfl) (by kernel_rfl) (by solve_by_elim (maxDepth := 60) only [bl_al, bl_drew, bl_drewN, bl_refl, *]) ?_
    apply PlanW.on
    · (simp only [List.getElem?_toArray, List.getElem?_cons_succ, List.getElem?_cons_zero] <;> rfl)
    · rfl
    · (intro W hS; (try dsimp only at hS); go_simp <;> with_reducible rfl)
    try simp only [Act.put, List.setIfInBounds_toArray, List.set_cons_zero, List.set_cons_succ]
    apply PlanW.on
    · (simp only [List.getElem?_toArray, List.getElem?_cons_succ, List.getElem?_cons_zero] <;> rfl)
    · rfl
    · (intro W hS; (try dsimp only at hS); go_simp <;> with_reducible rfl)
    try simp only [Act.put, List.setIfInBounds_toArray, List.set_cons_zero, List.set_cons_succ]
    apply PlanW.on
    · (simp only [List.getElem?_toArray, List.getElem?_cons_succ, List.getElem?_cons_zero] <;> rfl)
    · rfl
    · (intro W hS; (try dsimp only at hS); go_simp <;> with_reducible rfl)
    try simp only [Act.put, List.setIfInBounds_toArray, List.set_cons_zero, List.set_cons_succ]
    apply PlanW.step
    · (simp only [List.getElem?_toArray, List.getElem?_cons_succ, List.getElem?_cons_zero] <;> rfl)
    · rfl
    intro K hK
    go_simp
    (first | (go_at_call 74; (with_reducible refine (c_within _ _ _ _).mono ?_); rintro e w3 ⟨rfl, rfl⟩) | (go_at_call 62; (with_reducible refine (c_sizedB m.speed _ _ (by omega) (by omega)).mono ?_); rintro e w3 ⟨rfl, hb3⟩; replace hb3 := bl_tt hb3) | (go_at_call 61; (with_reducible refine (c_unless _ _ _).mono ?_); rintro e w3 ⟨rfl, rfl⟩) | (go_at_call 63; (with_reducible refine (c_ordered m.speed _).mono ?_); rintro e w3 ⟨rfl, hb3⟩; replace hb3 := bl_tt hb3) | (go_at_call 60; (with_reducible refine (c_first2 (Blk.new _ _ _)).mono ?_); rintro e w3 ⟨rfl, rfl⟩))
    (try dsimp only)
    refine hK.out _ _ (by solve_by_elim (maxDepth := 60) only [bl_al, bl_drew, bl_drewN, bl_refl, *]) (fun hcur => ?_)
    clear hK K
    (try dsimp only at hcur)
    try simp only [Act.put, List.setIfInBounds_toArray, List.set_cons_zero, List.set_cons_succ]
    apply PlanW.on
    · (simp only [List.getElem?_toArray, List.getElem?_cons_succ, List.getElem?_cons_zero] <;> rfl)
    · rfl
    · (intro W hS; (try dsimp only at hS); go_simp <;> with_reducible rfl)
    try simp only [Act.put, List.setIfInBounds_toArray, List.set_cons_zero, List.set_cons_succ]
    first
    | apply PlanW.on
      · (simp only [List.getElem?_toArray, List.getElem?_cons_succ, List.getElem?_cons_zero] <;> rfl)
      · (simp [Region.wanted, yielded]; done)
      · (intro W hS; (try dsimp only at hS); go_simp <;> with_reducible rfl)
    | apply PlanW.off
      · (simp only [List.getElem?_toArray, List.getElem?_cons_succ, List.getElem?_cons_zero] <;> rfl)
      · (simp [Region.wanted, yielded]; done)
    try simp only [Act.put, List.setIfInBounds_toArray, List.set_cons_zero, List.set_cons_succ]
    first
    | apply PlanW.step
      · (simp only [List.getElem?_toArray, List.getElem?_cons_succ, List.getElem?_cons_zero] <;> rfl)
      · (simp [Region.wanted, yielded]; done)
      intro K hK
      go_simp
      (first | (go_at_call 74; (with_reducible refine (c_within _ _ _ _).mono ?_); rintro e w3 ⟨rfl, rfl⟩) | (go_at_call 62; (with_reducible refine (c_sizedB m.speed _ _ (by omega) (by omega)).mono ?_); rintro e w3 ⟨rfl, hb3⟩; replace hb3 := bl_tt hb3) | (go_at_call 61; (with_reducible refine (c_unless _ _ _).mono ?_); rintro e w3 ⟨rfl, rfl⟩) | (go_at_call 63; (with_reducible refine (c_ordered m.speed _).mono ?_); rintro e w3 ⟨rfl, hb3⟩; replace hb3 := bl_tt hb3) | (go_at_call 60; (with_reducible refine (c_first2 (Blk.new _ _ _)).mono ?_); rintro e w3 ⟨rfl, rfl⟩))
      (try dsimp only)
      refine hK.out _ _ (by solve_by_elim (maxDepth := 60) only [bl_al, bl_drew, bl_drewN, bl_refl, *]) (fun hcur => ?_)
      clear hK K
      (try dsimp only at hcur)
    | apply PlanW.stepOff
      · (simp only [List.getElem?_toArray, List.getElem?_cons_succ, List.getElem?_cons_zero] <;> rfl)
      · (simp [Region.wanted, yielded]; done)
      · solve_by_elim (maxDepth := 60) only [bl_al, bl_drew, bl_drewN, bl_refl, *]
    try simp only [Act.put, List.setIfInBounds_toArray, List.set_cons_zero, List.set_cons_succ]
    apply PlanW.on
    · (simp only [List.getElem?_toArray, List.getElem?_cons_succ, List.getElem?_cons_zero] <;> rfl)
    · rfl
    · (intro W hS; (try dsimp only at hS); go_simp <;> with_reducible rfl)
    try simp only [Act.put, List.setIfInBounds_toArray, List.set_cons_zero, List.set_cons_succ]
    apply PlanW.step
    · (simp only [List.getElem?_toArray, List.getElem?_cons_succ, List.getElem?_cons_zero] <;> rfl)
    · rfl
    intro K hK
    go_simp
    (first | (go_at_call 74; (with_reducible refine (c_within _ _ _ _).mono ?_); rintro e w3 ⟨rfl, rfl⟩) | (go_at_call 62; (with_reducible refine (c_sizedB m.speed _ _ (by omega) (by omega)).mono ?_); rintro e w3 ⟨rfl, hb3⟩; replace hb3 := bl_tt hb3) | (go_at_call 61; (with_reducible refine (c_unless _ _ _).mono ?_); rintro e w3 ⟨rfl, rfl⟩) | (go_at_call 63; (with_reducible refine (c_ordered m.speed _).mono ?_); rintro e w3 ⟨rfl, hb3⟩; replace hb3 := bl_tt hb3) | (go_at_call 60; (with_reducible refine (c_first2 (Blk.new _ _ _)).mono ?_); rintro e w3 ⟨rfl, rfl⟩))
    (try dsimp only)
    refine hK.out _ _ (by solve_by_elim (maxDepth := 60) only [bl_al, bl_drew, bl_drewN, bl_refl, *]) (fun hcur => ?_)
    clear hK K
    (try dsimp only at hcur)
    try simp only [Act.put, List.setIfInBounds_toArray, List.set_cons_zero, List.set_cons_succ]
    apply PlanW.step
    · (simp only [List.getElem?_toArray, List.getElem?_cons_succ, List.getElem?_cons_zero] <;> rfl)
    · rfl
    intro K hK
    go_simp
    (first | (go_at_call 74; (with_reducible refine (c_within _ _ _ _).mono ?_); rintro e w3 ⟨rfl, rfl⟩) | (go_at_call 62; (with_reducible refine (c_sizedB m.speed _ _ (by omega) (by omega)).mono ?_); rintro e w3 ⟨rfl, hb3⟩; replace hb3 := bl_tt hb3) | (go_at_call 61; (with_reducible refine (c_unless _ _ _).mono ?_); rintro e w3 ⟨rfl, rfl⟩) | (go_at_call 63; (with_reducible refine (c_ordered m.speed _).mono ?_); rintro e w3 ⟨rfl, hb3⟩; replace hb3 := bl_tt hb3) | (go_at_call 60; (with_reducible refine (c_first2 (Blk.new _ _ _)).mono ?_); rintro e w3 ⟨rfl, rfl⟩))
    (try dsimp only)
    refine hK.out _ _ (by solve_by_elim (maxDepth := 60) only [bl_al, bl_drew, bl_drewN, bl_refl, *]) (fun hcur => ?_)
    clear hK K
    (try dsimp only at hcur)
    try simp only [Act.put, List.setIfInBounds_toArray, List.set_cons_zero, List.set_cons_succ]
    apply PlanW.step
    · (simp only [List.getElem?_toArray, List.getElem?_cons_succ, List.getElem?_cons_zero] <;> rfl)
    · rfl
    intro K hK
    go_simp
    (first | (go_at_call 74; (with_reducible refine (c_within _ _ _ _).mono ?_); rintro e w3 ⟨rfl, rfl⟩) | (go_at_call 62; (with_reducible refine (c_sizedB m.speed _ _ (by omega) (by omega)).mono ?_); rintro e w3 ⟨rfl, hb3⟩; replace hb3 := bl_tt hb3) | (go_at_call 61; (with_reducible refine (c_unless _ _ _).mono ?_); rintro e w3 ⟨rfl, rfl⟩) | (go_at_call 63; (with_reducible refine (c_ordered m.speed _).mono ?_); rintro e w3 ⟨rfl, hb3⟩; replace hb3 := bl_tt hb3) | (go_at_call 60; (with_reducible refine (c_first2 (Blk.new _ _ _)).mono ?_); rintro e w3 ⟨rfl, rfl⟩))
    (try dsimp only)
    refine hK.out _ _ (by solve_by_elim (maxDepth := 60) only [bl_al, bl_drew, bl_drewN, bl_refl, *]) (fun hcur => ?_)
    clear hK K
    (try dsimp only at hcur)
    try simp only [Act.put, List.setIfInBounds_toArray, List.set_cons_zero, List.set_cons_succ]
    apply PlanW.step
    · (simp only [List.getElem?_toArray, List.getElem?_cons_succ, List.getElem?_cons_zero] <;> rfl)
    · rfl
    intro K hK
    go_simp
    refine hK.out _ _ (by solve_by_elim (maxDepth := 60) only [bl_al, bl_drew, bl_drewN, bl_refl, *]) (fun hcur => ?_)
    clear hK K
    (try dsimp only at hcur)
    try simp only [Act.put, List.setIfInBounds_toArray, List.set_cons_zero, List.set_cons_succ]
    apply PlanW.step
    · (simp only [List.getElem?_toArray, List.getElem?_cons_succ, List.getElem?_cons_zero] <;> rfl)
    · rfl
    intro K hK
    go_simp
    (first | (go_at_call 74; (with_reducible refine (c_within _ _ _ _).mono ?_); rintro e w3 ⟨rfl, rfl⟩) | (go_at_call 62; (with_reducible refine (c_sizedB m.speed _ _ (by omega) (by omega)).mono ?_); rintro e w3 ⟨rfl, hb3⟩; replace hb3 := bl_tt hb3) | (go_at_call 61; (with_reducible refine (c_unless _ _ _).mono ?_); rintro e w3 ⟨rfl, rfl⟩) | (go_at_call 63; (with_reducible refine (c_ordered m.speed _).mono ?_); rintro e w3 ⟨rfl, hb3⟩; replace hb3 := bl_tt hb3) | (go_at_call 60; (with_reducible refine (c_first2 (Blk.new _ _ _)).mono ?_); rintro e w3 ⟨rfl, rfl⟩))
    (try dsimp only)
    refine hK.out _ _ (by solve_by_elim (maxDepth := 60) only [bl_al, bl_drew, bl_drewN, bl_refl, *]) (fun hcur => ?_)
    clear hK K
    (try dsimp only at hcur)
    try simp only [Act.put, List.setIfInBounds_toArray, List.set_cons_zero, List.set_cons_succ]
    apply PlanW.on
    · (simp only [List.getElem?_toArray, List.getElem?_cons_succ, List.getElem?_cons_zero] <;> rfl)
    · rfl
    · (intro W hS; (try dsimp only at hS); go_simp <;> with_reducible rfl)
    try simp only [Act.put, List.setIfInBounds_toArray, List.set_cons_zero, List.set_cons_succ]
    refine PlanW.done ?_
    go_wp2
    go_ret
    exact ⟨by rw [hr.out] <;> rfl, by solve_by_elim (maxDepth := 60) only [bl_al, bl_drew, bl_drewN, bl_refl, *]⟩
set_option maxHeartbeats 2000000 in
theorem c_CheckBox (n : Nt) (b : Bx) (A : Option Addr) (c : Nat) (w : World) (hn : NtIn n A c w) :
    Calls Try.prog 16 #[vNt n.world (.slice A n.bs.length c), vBx b] w (Ret (.int .i64 (boxErr n b)) w) := by
  have hcn := Lib.hid fun (W : World) (hb : Below w.heap.size w W) => c_open n A c W (hn.below hb)
  have hr : Hid (boxErr n b = fstE [netErr n, unl b.ordered 9, unl (n.world.holds b) 2]) := rfl
  clear hn
  generalize n.bs.length = nl at *
  go_enter Try.func16, Try.ntmps16
  go_wp2_with fail
  refine Calls.mono (hcn.out _ ?_) ?_
  · solve_by_elim (maxDepth := 60) only [bl_al, bl_drew, bl_drewN, bl_refl, *]
  rintro e w3 ⟨rfl, hb3⟩
  have k0 := ((Blk.new w 28 (aNt n.world (.slice A nl c))).alloc (.cells (aBx b) 25)).below hb3
  have k1 := (Blk.new (w.alloc (.cells (aNt n.world (.slice A nl c)) 28)) 25 (aBx b)).below hb3
  rw [World.size_alloc] at k1
  replace hb3 := bl_tt hb3
  go_wp2_with fail
  refine abs1 (fun wb hb k2 => ?_)
  have L0 := (k0.below hb).later
  have L1 := (k1.below hb).later
  have L2 := k2.later
  replace hb := bl_tt hb
  clear k0 k1 k2
  refine wp_plan [(0, true), (1, true), (5, true), (6, true), (7, true), (2, false), (3, false), (4, false), (8, false), (9, false), (10, false), (11, false), (12, false), (13, true)] (fun W => Below wb.heap.size wb W) (by kernel_rfl) (by kernel_rfl) (by kernel_rfl) (by solve_by_elim (maxDepth := 60) only [bl_al, bl_drew, bl_drewN, bl_refl, *]) ?_
  apply PlanW.on
  · (simp only [List.getElem?_toArray, List.getElem?_cons_succ, List.getElem?_cons_zero] <;> rfl)
  · rfl
  · (intro W hS; (try dsimp only at hS); go_simp <;> with_reducible rfl)
  try simp only [Act.put, List.setIfInBounds_toArray, List.set_cons_zero, List.set_cons_succ]
  apply PlanW.on
  · (simp only [List.getElem?_toArray, List.getElem?_cons_succ, List.getElem?_cons_zero] <;> rfl)
  · rfl
  · (intro W hS; (try dsimp only at hS); go_simp <;> with_reducible rfl)
  try simp only [Act.put, List.setIfInBounds_toArray, List.set_cons_zero, List.set_cons_succ]
  apply PlanW.on
  · (simp only [List.getElem?_toArray, List.getElem?_cons_succ, List.getElem?_cons_zero] <;> rfl)
  · rfl
  · (intro W hS; (try dsimp only at hS); go_simp <;> with_reducible rfl)
  try simp only [Act.put, List.setIfInBounds_toArray, List.set_cons_zero, List.set_cons_succ]
  apply PlanW.on
  · (simp only [List.getElem?_toArray, List.getElem?_cons_succ, List.getElem?_cons_zero] <;> rfl)
  · rfl
  · (intro W hS; (try dsimp only at hS); go_simp <;> with_reducible rfl)
  try simp only [Act.put, List.setIfInBounds_toArray, List.set_cons_zero, List.set_cons_succ]
  apply PlanW.on
  · (simp only [List.getElem?_toArray, List.getElem?_cons_succ, List.getElem?_cons_zero] <;> rfl)
  · rfl
  · (intro W hS; (try dsimp only at hS); go_simp <;> with_reducible rfl)
  try simp only [Act.put, List.setIfInBounds_toArray, List.set_cons_zero, List.set_cons_succ]
  apply PlanW.step
  · (simp only [List.getElem?_toArray, List.getElem?_cons_succ, List.getElem?_cons_zero] <;> rfl)
  · rfl
  intro K hK
  go_simp
  (first | (go_at_call 59; (with_reducible refine (c_of b _).mono ?_); rintro e w3 ⟨rfl, hb3⟩; replace hb3 := bl_tt hb3) | (go_at_call 78; (with_reducible refine (c_holds n.world b _).mono ?_); rintro e w3 ⟨rfl, hb3⟩; replace hb3 := bl_tt hb3) | (go_at_call 61; (with_reducible refine (c_unless _ _ _).mono ?_); rintro e w3 ⟨rfl, rfl⟩) | (go_at_call 63; (with_reducible refine (c_ordered b _).mono ?_); rintro e w3 ⟨rfl, hb3⟩; replace hb3 := bl_tt hb3) | (go_at_call 60; (with_reducible refine (c_first3 (Blk.new _ _ _)).mono ?_); rintro e w3 ⟨rfl, rfl⟩))
  (try dsimp only)
  refine hK.out _ _ (by solve_by_elim (maxDepth := 60) only [bl_al, bl_drew, bl_drewN, bl_refl, *]) (fun hcur => ?_)
  clear hK K
  (try dsimp only at hcur)
  try simp only [Act.put, List.setIfInBounds_toArray, List.set_cons_zero, List.set_cons_succ]
  apply PlanW.step
  · (simp only [List.getElem?_toArray, List.getElem?_cons_succ, List.getElem?_cons_zero] <;> rfl)
  · rfl
  intro K hK
  go_simp
  (first | (go_at_call 59; (with_reducible refine (c_of b _).mono ?_); rintro e w3 ⟨rfl, hb3⟩; replace hb3 := bl_tt hb3) | (go_at_call 78; (with_reducible refine (c_holds n.world b _).mono ?_); rintro e w3 ⟨rfl, hb3⟩; replace hb3 := bl_tt hb3) | (go_at_call 61; (with_reducible refine (c_unless _ _ _).mono ?_); rintro e w3 ⟨rfl, rfl⟩) | (go_at_call 63; (with_reducible refine (c_ordered b _).mono ?_); rintro e w3 ⟨rfl, hb3⟩; replace hb3 := bl_tt hb3) | (go_at_call 60; (with_reducible refine (c_first3 (Blk.new _ _ _)).mono ?_); rintro e w3 ⟨rfl, rfl⟩))
  (try dsimp only)
  refine hK.out _ _ (by solve_by_elim (maxDepth := 60) only [bl_al, bl_drew, bl_drewN, bl_refl, *]) (fun hcur => ?_)
  clear hK K
  (try dsimp only at hcur)
  try simp only [Act.put, List.setIfInBounds_toArray, List.set_cons_zero, List.set_cons_succ]
  apply PlanW.step
  · (simp only [List.getElem?_toArray, List.getElem?_cons_succ, List.getElem?_cons_zero] <;> rfl)
  · rfl
  intro K hK
  go_simp
  (first | (go_at_call 59; (with_reducible refine (c_of b _).mono ?_); rintro e w3 ⟨rfl, hb3⟩; replace hb3 := bl_tt hb3) | (go_at_call 78; (with_reducible refine (c_holds n.world b _).mono ?_); rintro e w3 ⟨rfl, hb3⟩; replace hb3 := bl_tt hb3) | (go_at_call 61; (with_reducible refine (c_unless _ _ _).mono ?_); rintro e w3 ⟨rfl, rfl⟩) | (go_at_call 63; (with_reducible refine (c_ordered b _).mono ?_); rintro e w3 ⟨rfl, hb3⟩; replace hb3 := bl_tt hb3) | (go_at_call 60; (with_reducible refine (c_first3 (Blk.new _ _ _)).mono ?_); rintro e w3 ⟨rfl, rfl⟩))
  (try dsimp only)
  refine hK.out _ _ (by solve_by_elim (maxDepth := 60) only [bl_al, bl_drew, bl_drewN, bl_refl, *]) (fun hcur => ?_)
  clear hK K
  (try dsimp only at hcur)
  try simp only [Act.put, List.setIfInBounds_toArray, List.set_cons_zero, List.set_cons_succ]
  apply PlanW.step
  · (simp only [List.getElem?_toArray, List.getElem?_cons_succ, List.getElem?_cons_zero] <;> rfl)
  · rfl
  intro K hK
  go_simp
  (first | (go_at_call 59; (with_reducible refine (c_of b _).mono ?_); rintro e w3 ⟨rfl, hb3⟩; replace hb3 := bl_tt hb3) | (go_at_call 78; (with_reducible refine (c_holds n.world b _).mono ?_); rintro e w3 ⟨rfl, hb3⟩; replace hb3 := bl_tt hb3) | (go_at_call 61; (with_reducible refine (c_unless _ _ _).mono ?_); rintro e w3 ⟨rfl, rfl⟩) | (go_at_call 63; (with_reducible refine (c_ordered b _).mono ?_); rintro e w3 ⟨rfl, hb3⟩; replace hb3 := bl_tt hb3) | (go_at_call 60; (with_reducible refine (c_first3 (Blk.new _ _ _)).mono ?_); rintro e w3 ⟨rfl, rfl⟩))
  (try dsimp only)
  refine hK.out _ _ (by solve_by_elim (maxDepth := 60) only [bl_al, bl_drew, bl_drewN, bl_refl, *]) (fun hcur => ?_)
  clear hK K
  (try dsimp only at hcur)
  try simp only [Act.put, List.setIfInBounds_toArray, List.set_cons_zero, List.set_cons_succ]
  apply PlanW.step
  · (simp only [List.getElem?_toArray, List.getElem?_cons_succ, List.getElem?_cons_zero] <;> rfl)
  · rfl
  intro K hK
  go_simp
  (first | (go_at_call 59; (with_reducible refine (c_of b _).mono ?_); rintro e w3 ⟨rfl, hb3⟩; replace hb3 := bl_tt hb3) | (go_at_call 78; (with_reducible refine (c_holds n.world b _).mono ?_); rintro e w3 ⟨rfl, hb3⟩; replace hb3 := bl_tt hb3) | (go_at_call 61; (with_reducible refine (c_unless _ _ _).mono ?_); rintro e w3 ⟨rfl, rfl⟩) | (go_at_call 63; (with_reducible refine (c_ordered b _).mono ?_); rintro e w3 ⟨rfl, hb3⟩; replace hb3 := bl_tt hb3) | (go_at_call 60; (with_reducible refine (c_first3 (Blk.new _ _ _)).mono ?_); rintro e w3 ⟨rfl, rfl⟩))
  (try dsimp only)
  refine hK.out _ _ (by solve_by_elim (maxDepth := 60) only [bl_al, bl_drew, bl_drewN, bl_refl, *]) (fun hcur => ?_)
  clear hK K
  (try dsimp only at hcur)
  try simp only [Act.put, List.setIfInBounds_toArray, List.set_cons_zero, List.set_cons_succ]
  apply PlanW.step
  · (simp only [List.getElem?_toArray, List.getElem?_cons_succ, List.getElem?_cons_zero] <;> rfl)
  · rfl
  intro K hK
  go_simp
  (first | (go_at_call 59; (with_reducible refine (c_of b _).mono ?_); rintro e w3 ⟨rfl, hb3⟩; replace hb3 := bl_tt hb3) | (go_at_call 78; (with_reducible refine (c_holds n.world b _).mono ?_); rintro e w3 ⟨rfl, hb3⟩; replace hb3 := bl_tt hb3) | (go_at_call 61; (with_reducible refine (c_unless _ _ _).mono ?_); rintro e w3 ⟨rfl, rfl⟩) | (go_at_call 63; (with_reducible refine (c_ordered b _).mono ?_); rintro e w3 ⟨rfl, hb3⟩; replace hb3 := bl_tt hb3) | (go_at_call 60; (with_reducible refine (c_first3 (Blk.new _ _ _)).mono ?_); rintro e w3 ⟨rfl, rfl⟩))
  (try dsimp only)
  refine hK.out _ _ (by solve_by_elim (maxDepth := 60) only [bl_al, bl_drew, bl_drewN, bl_refl, *]) (fun hcur => ?_)
  clear hK K
  (try dsimp only at hcur)
  try simp only [Act.put, List.setIfInBounds_toArray, List.set_cons_zero, List.set_cons_succ]
  apply PlanW.step
  · (simp only [List.getElem?_toArray, List.getElem?_cons_succ, List.getElem?_cons_zero] <;> rfl)
  · rfl
  intro K hK
  go_simp
  refine hK.out _ _ (by solve_by_elim (maxDepth := 60) only [bl_al, bl_drew, bl_drewN, bl_refl, *]) (fun hcur => ?_)
  clear hK K
  (try dsimp only at hcur)
  try simp only [Act.put, List.setIfInBounds_toArray, List.set_cons_zero, List.set_cons_succ]
  apply PlanW.step
  · (simp only [List.getElem?_toArray, List.getElem?_cons_succ, List.getElem?_cons_zero] <;> rfl)
  · rfl
  intro K hK
  go_simp
  (first | (go_at_call 59; (with_reducible refine (c_of b _).mono ?_); rintro e w3 ⟨rfl, hb3⟩; replace hb3 := bl_tt hb3) | (go_at_call 78; (with_reducible refine (c_holds n.world b _).mono ?_); rintro e w3 ⟨rfl, hb3⟩; replace hb3 := bl_tt hb3) | (go_at_call 61; (with_reducible refine (c_unless _ _ _).mono ?_); rintro e w3 ⟨rfl, rfl⟩) | (go_at_call 63; (with_reducible refine (c_ordered b _).mono ?_); rintro e w3 ⟨rfl, hb3⟩; replace hb3 := bl_tt hb3) | (go_at_call 60; (with_reducible refine (c_first3 (Blk.new _ _ _)).mono ?_); rintro e w3 ⟨rfl, rfl⟩))
  (try dsimp only)
  refine hK.out _ _ (by solve_by_elim (maxDepth := 60) only [bl_al, bl_drew, bl_drewN, bl_refl, *]) (fun hcur => ?_)
  clear hK K
  (try dsimp only at hcur)
  try simp only [Act.put, List.setIfInBounds_toArray, List.set_cons_zero, List.set_cons_succ]
  apply PlanW.on
  · (simp only [List.getElem?_toArray, List.getElem?_cons_succ, List.getElem?_cons_zero] <;> rfl)
  · rfl
  · (intro W hS; (try dsimp only at hS); go_simp <;> with_reducible rfl)
  try simp only [Act.put, List.setIfInBounds_toArray, List.set_cons_zero, List.set_cons_succ]
  refine PlanW.done ?_
  go_wp2
  go_ret
  exact ⟨by rw [hr.out] <;> rfl, by solve_by_elim (maxDepth := 60) only [bl_al, bl_drew, bl_drewN, bl_refl, *]⟩
end Go.Proofs.Ytephimmamkafoaa
