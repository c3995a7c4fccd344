/-
  Walks: the errors of moves and of boxes.
  Walk: a net and a box in it opened.
  Walks: a box carried, and carried back.
  The iterator over the positions of a box: it yields them by x, then y, then z.
  Behind the assignments to a range's left sides: what is known of the body's first world.
-/
import Derived.Test.YtephimmamkafoaaGreatU4
import Derived.Test.YtephimmamkafoaaGreatU2
import Derived.Test.YtephimmamkafoaaGreatU3
import Derived.OwnWalkIn
import Derived.TacticsInMore
import Derived.LoopNIn
import Derived.LoopIn
set_option linter.unusedSimpArgs false
set_option linter.unusedVariables false
namespace Go.Proofs.YtephimmamkafoaaGreat
open Go.RowKit Go.Shelf
attribute [local go_sem] bl_al bl_drew bl_drewN bl_refl
set_option maxRecDepth 20000
abbrev aBx (b : Bx) : Array Value := #[.int .i64 b.x.lo, .int .i64 b.x.hi, .int .i64 b.y.lo, .int .i64 b.y.hi, .int .i64 b.z.lo, .int .i64 b.z.hi]
abbrev aMv (m : Mv) : Array Value := #[.int .i64 m.ticks, .int .i64 m.speed.x.lo, .int .i64 m.speed.x.hi, .int .i64 m.speed.y.lo, .int .i64 m.speed.y.hi, .int .i64 m.speed.z.lo, .int .i64 m.speed.z.hi]
set_option maxHeartbeats 2000000 in
theorem c_moveErr (m : Mv) (w : World) : Calls Tryz.prog 52 #[vMv m] w (Ret (.int .i64 (mvErr m)) w) := by
  have hr : Hid (mvErr m = fstE [unl (inR m.ticks 0 1000 && m.speed.sized 100) 2, unl m.speed.ordered 9]) := rfl
  cases hA : inR m.ticks 0 1000
  all_goals
    rw [hA] at hr
    simp only [Bool.false_and, Bool.true_and] at hr
    go_enter Tryz.func52, Tryz.ntmps52
    go_wp2_with ((go_at_call 74; (with_reducible refine (c_of m.speed _).mono ?_); rintro e w3 ⟨rfl, hb3⟩; replace hb3 := bl_tt hb3))
    have k0 := (Blk.new w 44 (aMv m)).below (hb3 _ (bl_refl _))
    refine abs1 (fun wb hb k1 => ?_)
    replace hb := bl_tt hb
    have L0 := (k0.below (hb _ (bl_refl _))).later
    have L1 := k1.later
    clear k0 k1
    refine wp_plan [(0, true), (1, true), (8, true), (2, false), (3, true), (4, true), (5, false), (6, true), (7, false), (9, false), (10, false), (11, false), (12, false), (13, true)] (fun W => Below wb.heap.size wb W) (by kernel_rfl) (by kernel_rfl) (by kernel_rfl) (by solve_by_elim (maxDepth := 60) only [bl_al, bl_drew, bl_drewN, bl_refl, *]) ?_
    apply PlanW.on
    · (simp only [gA, gB, gC] <;> rfl)
    · rfl
    · (intro W hS; (try dsimp only at hS); go_simp <;> with_reducible rfl)
    try simp only [Act.put, List.setIfInBounds_toArray, List.set_cons_zero, List.set_cons_succ]
    apply PlanW.on
    · (simp only [gA, gB, gC] <;> rfl)
    · rfl
    · (intro W hS; (try dsimp only at hS); go_simp <;> with_reducible rfl)
    try simp only [Act.put, List.setIfInBounds_toArray, List.set_cons_zero, List.set_cons_succ]
    apply PlanW.on
    · (simp only [gA, gB, gC] <;> rfl)
    · rfl
    · (intro W hS; (try dsimp only at hS); go_simp <;> with_reducible rfl)
    try simp only [Act.put, List.setIfInBounds_toArray, List.set_cons_zero, List.set_cons_succ]
    apply PlanW.step
    · (simp only [gA, gB, gC] <;> rfl)
    · rfl
    intro K hK
    go_simp
    (first | (go_at_call 75; (with_reducible refine (c_within _ _ _ _).mono ?_); rintro e w3 ⟨rfl, rfl⟩) | (go_at_call 93; (with_reducible refine (c_sizedB m.speed _ _ (by omega) (by omega)).mono ?_); rintro e w3 ⟨rfl, hb3⟩; replace hb3 := bl_tt hb3) | (go_at_call 49; (with_reducible refine (c_unless _ _ _).mono ?_); rintro e w3 ⟨rfl, rfl⟩) | (go_at_call 94; (with_reducible refine (c_ordered m.speed _).mono ?_); rintro e w3 ⟨rfl, hb3⟩; replace hb3 := bl_tt hb3) | (go_at_call 48; (with_reducible refine (c_first2 (Blk.new _ _ _)).mono ?_); rintro e w3 ⟨rfl, rfl⟩))
    (try dsimp only)
    refine hK.out _ _ (by solve_by_elim (maxDepth := 60) only [bl_al, bl_drew, bl_drewN, bl_refl, *]) (fun hcur => ?_)
    clear hK K
    (try dsimp only at hcur)
    try simp only [Act.put, List.setIfInBounds_toArray, List.set_cons_zero, List.set_cons_succ]
    apply PlanW.on
    · (simp only [gA, gB, gC] <;> rfl)
    · rfl
    · (intro W hS; (try dsimp only at hS); go_simp <;> with_reducible rfl)
    try simp only [Act.put, List.setIfInBounds_toArray, List.set_cons_zero, List.set_cons_succ]
    first
    | apply PlanW.on
      · (simp only [gA, gB, gC] <;> rfl)
      · (simp [Region.wanted, yielded]; done)
      · (intro W hS; (try dsimp only at hS); go_simp <;> with_reducible rfl)
    | apply PlanW.off
      · (simp only [gA, gB, gC] <;> rfl)
      · (simp [Region.wanted, yielded]; done)
    try simp only [Act.put, List.setIfInBounds_toArray, List.set_cons_zero, List.set_cons_succ]
    first
    | apply PlanW.step
      · (simp only [gA, gB, gC] <;> rfl)
      · (simp [Region.wanted, yielded]; done)
      intro K hK
      go_simp
      (first | (go_at_call 75; (with_reducible refine (c_within _ _ _ _).mono ?_); rintro e w3 ⟨rfl, rfl⟩) | (go_at_call 93; (with_reducible refine (c_sizedB m.speed _ _ (by omega) (by omega)).mono ?_); rintro e w3 ⟨rfl, hb3⟩; replace hb3 := bl_tt hb3) | (go_at_call 49; (with_reducible refine (c_unless _ _ _).mono ?_); rintro e w3 ⟨rfl, rfl⟩) | (go_at_call 94; (with_reducible refine (c_ordered m.speed _).mono ?_); rintro e w3 ⟨rfl, hb3⟩; replace hb3 := bl_tt hb3) | (go_at_call 48; (with_reducible refine (c_first2 (Blk.new _ _ _)).mono ?_); rintro e w3 ⟨rfl, rfl⟩))
      (try dsimp only)
      refine hK.out _ _ (by solve_by_elim (maxDepth := 60) only [bl_al, bl_drew, bl_drewN, bl_refl, *]) (fun hcur => ?_)
      clear hK K
      (try dsimp only at hcur)
    | apply PlanW.stepOff
      · (simp only [gA, gB, gC] <;> rfl)
      · (simp [Region.wanted, yielded]; done)
      · solve_by_elim (maxDepth := 60) only [bl_al, bl_drew, bl_drewN, bl_refl, *]
    try simp only [Act.put, List.setIfInBounds_toArray, List.set_cons_zero, List.set_cons_succ]
    apply PlanW.on
    · (simp only [gA, gB, gC] <;> rfl)
    · rfl
    · (intro W hS; (try dsimp only at hS); go_simp <;> with_reducible rfl)
    try simp only [Act.put, List.setIfInBounds_toArray, List.set_cons_zero, List.set_cons_succ]
    apply PlanW.step
    · (simp only [gA, gB, gC] <;> rfl)
    · rfl
    intro K hK
    go_simp
    (first | (go_at_call 75; (with_reducible refine (c_within _ _ _ _).mono ?_); rintro e w3 ⟨rfl, rfl⟩) | (go_at_call 93; (with_reducible refine (c_sizedB m.speed _ _ (by omega) (by omega)).mono ?_); rintro e w3 ⟨rfl, hb3⟩; replace hb3 := bl_tt hb3) | (go_at_call 49; (with_reducible refine (c_unless _ _ _).mono ?_); rintro e w3 ⟨rfl, rfl⟩) | (go_at_call 94; (with_reducible refine (c_ordered m.speed _).mono ?_); rintro e w3 ⟨rfl, hb3⟩; replace hb3 := bl_tt hb3) | (go_at_call 48; (with_reducible refine (c_first2 (Blk.new _ _ _)).mono ?_); rintro e w3 ⟨rfl, rfl⟩))
    (try dsimp only)
    refine hK.out _ _ (by solve_by_elim (maxDepth := 60) only [bl_al, bl_drew, bl_drewN, bl_refl, *]) (fun hcur => ?_)
    clear hK K
    (try dsimp only at hcur)
    try simp only [Act.put, List.setIfInBounds_toArray, List.set_cons_zero, List.set_cons_succ]
    apply PlanW.step
    · (simp only [gA, gB, gC] <;> rfl)
    · rfl
    intro K hK
    go_simp
    (first | (go_at_call 75; (with_reducible refine (c_within _ _ _ _).mono ?_); rintro e w3 ⟨rfl, rfl⟩) | (go_at_call 93; (with_reducible refine (c_sizedB m.speed _ _ (by omega) (by omega)).mono ?_); rintro e w3 ⟨rfl, hb3⟩; replace hb3 := bl_tt hb3) | (go_at_call 49; (with_reducible refine (c_unless _ _ _).mono ?_); rintro e w3 ⟨rfl, rfl⟩) | (go_at_call 94; (with_reducible refine (c_ordered m.speed _).mono ?_); rintro e w3 ⟨rfl, hb3⟩; replace hb3 := bl_tt hb3) | (go_at_call 48; (with_reducible refine (c_first2 (Blk.new _ _ _)).mono ?_); rintro e w3 ⟨rfl, rfl⟩))
    (try dsimp only)
    refine hK.out _ _ (by solve_by_elim (maxDepth := 60) only [bl_al, bl_drew, bl_drewN, bl_refl, *]) (fun hcur => ?_)
    clear hK K
    (try dsimp only at hcur)
    try simp only [Act.put, List.setIfInBounds_toArray, List.set_cons_zero, List.set_cons_succ]
    apply PlanW.step
    · (simp only [gA, gB, gC] <;> rfl)
    · rfl
    intro K hK
    go_simp
    (first | (go_at_call 75; (with_reducible refine (c_within _ _ _ _).mono ?_); rintro e w3 ⟨rfl, rfl⟩) | (go_at_call 93; (with_reducible refine (c_sizedB m.speed _ _ (by omega) (by omega)).mono ?_); rintro e w3 ⟨rfl, hb3⟩; replace hb3 := bl_tt hb3) | (go_at_call 49; (with_reducible refine (c_unless _ _ _).mono ?_); rintro e w3 ⟨rfl, rfl⟩) | (go_at_call 94; (with_reducible refine (c_ordered m.speed _).mono ?_); rintro e w3 ⟨rfl, hb3⟩; replace hb3 := bl_tt hb3) | (go_at_call 48; (with_reducible refine (c_first2 (Blk.new _ _ _)).mono ?_); rintro e w3 ⟨rfl, rfl⟩))
    (try dsimp only)
    refine hK.out _ _ (by solve_by_elim (maxDepth := 60) only [bl_al, bl_drew, bl_drewN, bl_refl, *]) (fun hcur => ?_)
    clear hK K
    (try dsimp only at hcur)
    try simp only [Act.put, List.setIfInBounds_toArray, List.set_cons_zero, List.set_cons_succ]
    apply PlanW.step
    · (simp only [gA, gB, gC] <;> rfl)
    · rfl
    intro K hK
    go_simp
    refine hK.out _ _ (by solve_by_elim (maxDepth := 60) only [bl_al, bl_drew, bl_drewN, bl_refl, *]) (fun hcur => ?_)
    clear hK K
    (try dsimp only at hcur)
    try simp only [Act.put, List.setIfInBounds_toArray, List.set_cons_zero, List.set_cons_succ]
    apply PlanW.step
    · (simp only [gA, gB, gC] <;> rfl)
    · rfl
    intro K hK
    go_simp
    (first | (go_at_call 75; (with_reducible refine (c_within _ _ _ _).mono ?_); rintro e w3 ⟨rfl, rfl⟩) | (go_at_call 93; (with_reducible refine (c_sizedB m.speed _ _ (by omega) (by omega)).mono ?_); rintro e w3 ⟨rfl, hb3⟩; replace hb3 := bl_tt hb3) | (go_at_call 49; (with_reducible refine (c_unless _ _ _).mono ?_); rintro e w3 ⟨rfl, rfl⟩) | (go_at_call 94; (with_reducible refine (c_ordered m.speed _).mono ?_); rintro e w3 ⟨rfl, hb3⟩; replace hb3 := bl_tt hb3) | (go_at_call 48; (with_reducible refine (c_first2 (Blk.new _ _ _)).mono ?_); rintro e w3 ⟨rfl, rfl⟩))
    (try dsimp only)
    refine hK.out _ _ (by solve_by_elim (maxDepth := 60) only [bl_al, bl_drew, bl_drewN, bl_refl, *]) (fun hcur => ?_)
    clear hK K
    (try dsimp only at hcur)
    try simp only [Act.put, List.setIfInBounds_toArray, List.set_cons_zero, List.set_cons_succ]
    apply PlanW.on
    · (simp only [gA, gB, gC] <;> rfl)
    · rfl
    · (intro W hS; (try dsimp only at hS); go_simp <;> with_reducible rfl)
    try simp only [Act.put, List.setIfInBounds_toArray, List.set_cons_zero, List.set_cons_succ]
    refine PlanW.done ?_
    go_wp2
    go_ret
    exact ⟨by rw [hr.out] <;> rfl, by solve_by_elim (maxDepth := 60) only [bl_al, bl_drew, bl_drewN, bl_refl, *]⟩
set_option maxHeartbeats 2000000 in
theorem c_CheckBox (n : Nt) (b : Bx) (A : Option Addr) (c : Nat) (w : World) (hn : NtIn n A c w) :
    Calls Tryz.prog 97 #[vNt n.world (.slice A n.bs.length c), vBx b] w (Ret (.int .i64 (boxErr n b)) w) := by
  have hcn := Lib.hid fun (W : World) (hb : Below w.heap.size w W) => c_open n A c W (hn.below hb)
  have hr : Hid (boxErr n b = fstE [netErr n, unl b.ordered 9, unl (n.world.holds b) 2]) := rfl
  clear hn
  generalize n.bs.length = nl at *
  go_enter Tryz.func97, Tryz.ntmps97
  go_wp2_with fail
  refine Calls.mono (hcn.out _ ?_) ?_
  · solve_by_elim (maxDepth := 60) only [bl_al, bl_drew, bl_drewN, bl_refl, *]
  rintro e w3 ⟨rfl, hb3⟩
  have k0 := ((Blk.new w 28 (aNt n.world (.slice A nl c))).alloc (.cells (aBx b) 25)).below hb3
  have k1 := (Blk.new (w.alloc (.cells (aNt n.world (.slice A nl c)) 28)) 25 (aBx b)).below hb3
  rw [World.size_alloc] at k1
  replace hb3 := bl_tt hb3
  go_wp2_with fail
  refine abs1 (fun wb hb k2 => ?_)
  have L0 := (k0.below hb).later
  have L1 := (k1.below hb).later
  have L2 := k2.later
  replace hb := bl_tt hb
  clear k0 k1 k2
  refine wp_plan [(0, true), (1, true), (5, true), (6, true), (7, true), (2, false), (3, false), (4, false), (8, false), (9, false), (10, false), (11, false), (12, false), (13, true)] (fun W => Below wb.heap.size wb W) (by kernel_rfl) (by kernel_rfl) (by kernel_rfl) (by solve_by_elim (maxDepth := 60) only [bl_al, bl_drew, bl_drewN, bl_refl, *]) ?_
  apply PlanW.on
  · (simp only [gA, gB, gC] <;> rfl)
  · rfl
  · (intro W hS; (try dsimp only at hS); go_simp <;> with_reducible rfl)
  try simp only [Act.put, List.setIfInBounds_toArray, List.set_cons_zero, List.set_cons_succ]
  apply PlanW.on
  · (simp only [gA, gB, gC] <;> rfl)
  · rfl
  · (intro W hS; (try dsimp only at hS); go_simp <;> with_reducible rfl)
  try simp only [Act.put, List.setIfInBounds_toArray, List.set_cons_zero, List.set_cons_succ]
  apply PlanW.on
  · (simp only [gA, gB, gC] <;> rfl)
  · rfl
  · (intro W hS; (try dsimp only at hS); go_simp <;> with_reducible rfl)
  try simp only [Act.put, List.setIfInBounds_toArray, List.set_cons_zero, List.set_cons_succ]
  apply PlanW.on
  · (simp only [gA, gB, gC] <;> rfl)
  · rfl
  · (intro W hS; (try dsimp only at hS); go_simp <;> with_reducible rfl)
  try simp only [Act.put, List.setIfInBounds_toArray, List.set_cons_zero, List.set_cons_succ]
  apply PlanW.on
  · (simp only [gA, gB, gC] <;> rfl)
  · rfl
  · (intro W hS; (try dsimp only at hS); go_simp <;> with_reducible rfl)
  try simp only [Act.put, List.setIfInBounds_toArray, List.set_cons_zero, List.set_cons_succ]
  apply PlanW.step
  · (simp only [gA, gB, gC] <;> rfl)
  · rfl
  intro K hK
  go_simp
  (first | (go_at_call 74; (with_reducible refine (c_of b _).mono ?_); rintro e w3 ⟨rfl, hb3⟩; replace hb3 := bl_tt hb3) | (go_at_call 119; (with_reducible refine (c_holds n.world b _).mono ?_); rintro e w3 ⟨rfl, hb3⟩; replace hb3 := bl_tt hb3) | (go_at_call 49; (with_reducible refine (c_unless _ _ _).mono ?_); rintro e w3 ⟨rfl, rfl⟩) | (go_at_call 94; (with_reducible refine (c_ordered b _).mono ?_); rintro e w3 ⟨rfl, hb3⟩; replace hb3 := bl_tt hb3) | (go_at_call 48; (with_reducible refine (c_first3 (Blk.new _ _ _)).mono ?_); rintro e w3 ⟨rfl, rfl⟩))
  (try dsimp only)
  refine hK.out _ _ (by solve_by_elim (maxDepth := 60) only [bl_al, bl_drew, bl_drewN, bl_refl, *]) (fun hcur => ?_)
  clear hK K
  (try dsimp only at hcur)
  try simp only [Act.put, List.setIfInBounds_toArray, List.set_cons_zero, List.set_cons_succ]
  apply PlanW.step
  · (simp only [gA, gB, gC] <;> rfl)
  · rfl
  intro K hK
  go_simp
  (first | (go_at_call 74; (with_reducible refine (c_of b _).mono ?_); rintro e w3 ⟨rfl, hb3⟩; replace hb3 := bl_tt hb3) | (go_at_call 119; (with_reducible refine (c_holds n.world b _).mono ?_); rintro e w3 ⟨rfl, hb3⟩; replace hb3 := bl_tt hb3) | (go_at_call 49; (with_reducible refine (c_unless _ _ _).mono ?_); rintro e w3 ⟨rfl, rfl⟩) | (go_at_call 94; (with_reducible refine (c_ordered b _).mono ?_); rintro e w3 ⟨rfl, hb3⟩; replace hb3 := bl_tt hb3) | (go_at_call 48; (with_reducible refine (c_first3 (Blk.new _ _ _)).mono ?_); rintro e w3 ⟨rfl, rfl⟩))
  (try dsimp only)
  refine hK.out _ _ (by solve_by_elim (maxDepth := 60) only [bl_al, bl_drew, bl_drewN, bl_refl, *]) (fun hcur => ?_)
  clear hK K
  (try dsimp only at hcur)
  try simp only [Act.put, List.setIfInBounds_toArray, List.set_cons_zero, List.set_cons_succ]
  apply PlanW.step
  · (simp only [gA, gB, gC] <;> rfl)
  · rfl
  intro K hK
  go_simp
  (first | (go_at_call 74; (with_reducible refine (c_of b _).mono ?_); rintro e w3 ⟨rfl, hb3⟩; replace hb3 := bl_tt hb3) | (go_at_call 119; (with_reducible refine (c_holds n.world b _).mono ?_); rintro e w3 ⟨rfl, hb3⟩; replace hb3 := bl_tt hb3) | (go_at_call 49; (with_reducible refine (c_unless _ _ _).mono ?_); rintro e w3 ⟨rfl, rfl⟩) | (go_at_call 94; (with_reducible refine (c_ordered b _).mono ?_); rintro e w3 ⟨rfl, hb3⟩; replace hb3 := bl_tt hb3) | (go_at_call 48; (with_reducible refine (c_first3 (Blk.new _ _ _)).mono ?_); rintro e w3 ⟨rfl, rfl⟩))
  (try dsimp only)
  refine hK.out _ _ (by solve_by_elim (maxDepth := 60) only [bl_al, bl_drew, bl_drewN, bl_refl, *]) (fun hcur => ?_)
  clear hK K
  (try dsimp only at hcur)
  try simp only [Act.put, List.setIfInBounds_toArray, List.set_cons_zero, List.set_cons_succ]
  apply PlanW.step
  · (simp only [gA, gB, gC] <;> rfl)
  · rfl
  intro K hK
  go_simp
  (first | (go_at_call 74; (with_reducible refine (c_of b _).mono ?_); rintro e w3 ⟨rfl, hb3⟩; replace hb3 := bl_tt hb3) | (go_at_call 119; (with_reducible refine (c_holds n.world b _).mono ?_); rintro e w3 ⟨rfl, hb3⟩; replace hb3 := bl_tt hb3) | (go_at_call 49; (with_reducible refine (c_unless _ _ _).mono ?_); rintro e w3 ⟨rfl, rfl⟩) | (go_at_call 94; (with_reducible refine (c_ordered b _).mono ?_); rintro e w3 ⟨rfl, hb3⟩; replace hb3 := bl_tt hb3) | (go_at_call 48; (with_reducible refine (c_first3 (Blk.new _ _ _)).mono ?_); rintro e w3 ⟨rfl, rfl⟩))
  (try dsimp only)
  refine hK.out _ _ (by solve_by_elim (maxDepth := 60) only [bl_al, bl_drew, bl_drewN, bl_refl, *]) (fun hcur => ?_)
  clear hK K
  (try dsimp only at hcur)
  try simp only [Act.put, List.setIfInBounds_toArray, List.set_cons_zero, List.set_cons_succ]
  apply PlanW.step
  · (simp only [gA, gB, gC] <;> rfl)
  · rfl
  intro K hK
  go_simp
  (first | (go_at_call 74; (with_reducible refine (c_of b _).mono ?_); rintro e w3 ⟨rfl, hb3⟩; replace hb3 := bl_tt hb3) | (go_at_call 119; (with_reducible refine (c_holds n.world b _).mono ?_); rintro e w3 ⟨rfl, hb3⟩; replace hb3 := bl_tt hb3) | (go_at_call 49; (with_reducible refine (c_unless _ _ _).mono ?_); rintro e w3 ⟨rfl, rfl⟩) | (go_at_call 94; (with_reducible refine (c_ordered b _).mono ?_); rintro e w3 ⟨rfl, hb3⟩; replace hb3 := bl_tt hb3) | (go_at_call 48; (with_reducible refine (c_first3 (Blk.new _ _ _)).mono ?_); rintro e w3 ⟨rfl, rfl⟩))
  (try dsimp only)
  refine hK.out _ _ (by solve_by_elim (maxDepth := 60) only [bl_al, bl_drew, bl_drewN, bl_refl, *]) (fun hcur => ?_)
  clear hK K
  (try dsimp only at hcur)
  try simp only [Act.put, List.setIfInBounds_toArray, List.set_cons_zero, List.set_cons_succ]
  apply PlanW.step
  · (simp only [gA, gB, gC] <;> rfl)
  · rfl
  intro K hK
  go_simp
  (first | (go_at_call 74; (with_reducible refine (c_of b _).mono ?_); rintro e w3 ⟨rfl, hb3⟩; replace hb3 := bl_tt hb3) | (go_at_call 119; (with_reducible refine (c_holds n.world b _).mono ?_); rintro e w3 ⟨rfl, hb3⟩; replace hb3 := bl_tt hb3) | (go_at_call 49; (with_reducible refine (c_unless _ _ _).mono ?_); rintro e w3 ⟨rfl, rfl⟩) | (go_at_call 94; (with_reducible refine (c_ordered b _).mono ?_); rintro e w3 ⟨rfl, hb3⟩; replace hb3 := bl_tt hb3) | (go_at_call 48; (with_reducible refine (c_first3 (Blk.new _ _ _)).mono ?_); rintro e w3 ⟨rfl, rfl⟩))
  (try dsimp only)
  refine hK.out _ _ (by solve_by_elim (maxDepth := 60) only [bl_al, bl_drew, bl_drewN, bl_refl, *]) (fun hcur => ?_)
  clear hK K
  (try dsimp only at hcur)
  try simp only [Act.put, List.setIfInBounds_toArray, List.set_cons_zero, List.set_cons_succ]
  apply PlanW.step
  · (simp only [gA, gB, gC] <;> rfl)
  · rfl
  intro K hK
  go_simp
  refine hK.out _ _ (by solve_by_elim (maxDepth := 60) only [bl_al, bl_drew, bl_drewN, bl_refl, *]) (fun hcur => ?_)
  clear hK K
  (try dsimp only at hcur)
  try simp only [Act.put, List.setIfInBounds_toArray, List.set_cons_zero, List.set_cons_succ]
  apply PlanW.step
  · (simp only [gA, gB, gC] <;> rfl)
  · rfl
  intro K hK
  go_simp
  (first | (go_at_call 74; (with_reducible refine (c_of b _).mono ?_); rintro e w3 ⟨rfl, hb3⟩; replace hb3 := bl_tt hb3) | (go_at_call 119; (with_reducible refine (c_holds n.world b _).mono ?_); rintro e w3 ⟨rfl, hb3⟩; replace hb3 := bl_tt hb3) | (go_at_call 49; (with_reducible refine (c_unless _ _ _).mono ?_); rintro e w3 ⟨rfl, rfl⟩) | (go_at_call 94; (with_reducible refine (c_ordered b _).mono ?_); rintro e w3 ⟨rfl, hb3⟩; replace hb3 := bl_tt hb3) | (go_at_call 48; (with_reducible refine (c_first3 (Blk.new _ _ _)).mono ?_); rintro e w3 ⟨rfl, rfl⟩))
  (try dsimp only)
  refine hK.out _ _ (by solve_by_elim (maxDepth := 60) only [bl_al, bl_drew, bl_drewN, bl_refl, *]) (fun hcur => ?_)
  clear hK K
  (try dsimp only at hcur)
  try simp only [Act.put, List.setIfInBounds_toArray, List.set_cons_zero, List.set_cons_succ]
  apply PlanW.on
  · (simp only [gA, gB, gC] <;> rfl)
  · rfl
  · (intro W hS; (try dsimp only at hS); go_simp <;> with_reducible rfl)
  try simp only [Act.put, List.setIfInBounds_toArray, List.set_cons_zero, List.set_cons_succ]
  refine PlanW.done ?_
  go_wp2
  go_ret
  exact ⟨by rw [hr.out] <;> rfl, by solve_by_elim (maxDepth := 60) only [bl_al, bl_drew, bl_drewN, bl_refl, *]⟩
end Go.Proofs.YtephimmamkafoaaGreat
namespace Go.Proofs.YtephimmamkafoaaGreat
open Go.RowKit Go.Shelf
attribute [local go_sem] bl_al bl_drew bl_drewN bl_refl bx_al bx_drew bx_drewN bx_refl
set_option maxRecDepth 20000
theorem obErr (n : Nt) (b : Bx) : fstE [netErr n, boxErr n b] = boxErr n b := by
  have h : ∀ (a : Int) (l : List Int), fstE [a, fstE (a :: l)] = fstE (a :: l) := fun a l => by
    by_cases h : a = 0
    · simp only [fstE, h, if_true]
      split
      · omega
      · rfl
    · simp [fstE, h]
  exact h _ _
set_option maxHeartbeats 2000000 in
theorem c_openBox (n : Nt) (b : Bx) (A : Option Addr) (c : Nat) (w : World) (hn : NtIn n A c w) :
    Calls Tryz.prog 57 #[vNt n.world (.slice A n.bs.length c), vBx b] w (Ret (.tuple #[vON n.world (.slice A n.bs.length c), vBx b, .int .i64 (boxErr n b)]) w) := by
  have hcn := Lib.hid fun (W : World) (hb : Below w.heap.size w W) => c_open n A c W (hn.below hb)
  have hcb := Lib.hid fun (W : World) (hb : Below w.heap.size w W) => c_CheckBox n b A c W (hn.below hb)
  have hr := Lib.hid (obErr n b)
  clear hn
  generalize n.bs.length = nl at *
  go_enter Tryz.func57, Tryz.ntmps57
  go_wp2_with fail
  refine Calls.mono (hcn.out _ ?_) ?_
  · solve_by_elim (maxDepth := 60) only [bl_al, bl_drew, bl_drewN, bl_refl, *]
  rintro e w3 ⟨rfl, hb3⟩
  have k0 := ((((Blk.new w 28 (aNt n.world (.slice A nl c))).alloc (.cells (aBx b) 25)).alloc (.cells z13 94)).alloc (.cells z6 92)).below hb3
  have k1 := (((Blk.new (w.alloc (.cells (aNt n.world (.slice A nl c)) 28)) 25 (aBx b)).alloc (.cells z13 94)).alloc (.cells z6 92)).below hb3
  have k2 := ((Blk.new ((w.alloc (.cells (aNt n.world (.slice A nl c)) 28)).alloc (.cells (aBx b) 25)) 94 z13).alloc (.cells z6 92)).below hb3
  have k3 := (Blk.new (((w.alloc (.cells (aNt n.world (.slice A nl c)) 28)).alloc (.cells (aBx b) 25)).alloc (.cells z13 94)) 92 z6).below hb3
  simp only [World.size_alloc] at k1 k2 k3
  have hlt : w.heap.size + 4 ≤ w3.heap.size := by have := hb3.size; simp at this; omega
  replace hb3 := bl_tt hb3
  go_wp2_with fail
  refine abs1 (fun wb hb k4 => ?_)
  have L0 := (k0.below hb).laterX (X := [w.heap.size + 2, w.heap.size + 3]) (by simp)
  have L1 := (k1.below hb).laterX (X := [w.heap.size + 2, w.heap.size + 3]) (by simp)
  have L4 := k4.laterX (X := [w.heap.size + 2, w.heap.size + 3]) (by simp; omega)
  replace k2 := k2.below hb
  replace k3 := k3.below hb
  replace hb := bl_tt hb
  have hb0 : Below w.heap.size w wb := by solve_by_elim (maxDepth := 60) only [bl_al, bl_drew, bl_drewN, bl_refl, *]
  clear k0 k1 k4 hlt
  refine wp_plan [(0, true), (1, true), (3, true), (4, true), (5, true), (2, false), (6, false), (7, false), (8, false), (9, false), (10, false), (11, true)] (fun W => BX [w.heap.size + 2, w.heap.size + 3] wb W) (by kernel_rfl) (by kernel_rfl) (by kernel_rfl) (by solve_by_elim (maxDepth := 80) only [bx_al, bx_drew, bx_drewN, bx_refl, bx_set1, bx_set2, bx_set3, *]) ?_
  apply PlanW.on
  · (simp only [gA, gB, gC] <;> rfl)
  · rfl
  · (intro W hS; (try dsimp only at hS); go_simp <;> with_reducible rfl)
  try simp only [Act.put, List.setIfInBounds_toArray, List.set_cons_zero, List.set_cons_succ]
  apply PlanW.on
  · (simp only [gA, gB, gC] <;> rfl)
  · rfl
  · (intro W hS; (try dsimp only at hS); go_simp <;> with_reducible rfl)
  try simp only [Act.put, List.setIfInBounds_toArray, List.set_cons_zero, List.set_cons_succ]
  apply PlanW.on
  · (simp only [gA, gB, gC] <;> rfl)
  · rfl
  · (intro W hS; (try dsimp only at hS); go_simp <;> with_reducible rfl)
  try simp only [Act.put, List.setIfInBounds_toArray, List.set_cons_zero, List.set_cons_succ]
  apply PlanW.on
  · (simp only [gA, gB, gC] <;> rfl)
  · rfl
  · (intro W hS; (try dsimp only at hS); go_simp <;> with_reducible rfl)
  try simp only [Act.put, List.setIfInBounds_toArray, List.set_cons_zero, List.set_cons_succ]
  apply PlanW.on
  · (simp only [gA, gB, gC] <;> rfl)
  · rfl
  · (intro W hS; (try dsimp only at hS); go_simp <;> with_reducible rfl)
  try simp only [Act.put, List.setIfInBounds_toArray, List.set_cons_zero, List.set_cons_succ]
  apply PlanW.step
  · (simp only [gA, gB, gC] <;> rfl)
  · rfl
  intro K hK
  go_simp
  (first | (go_at_call 74; (with_reducible refine (c_of b _).mono ?_); rintro e w3 ⟨rfl, hb3⟩; replace hb3 := bx_tt hb3) | (go_at_call 97; refine Calls.mono (hcb.out _ ?_) ?_; exact BX.below (X := [w.heap.size + 2, w.heap.size + 3]) (by simp) hb0 (by solve_by_elim (maxDepth := 80) only [bx_al, bx_drew, bx_drewN, bx_refl, bx_set1, bx_set2, bx_set3, *]); rintro e w3 ⟨rfl, hb3⟩; replace hb3 := bx_tt hb3) | (go_at_call 48; (with_reducible refine (c_first2 (Blk.new _ _ _)).mono ?_); rintro e w3 ⟨rfl, rfl⟩))
  (try dsimp only)
  refine hK.out _ _ (by solve_by_elim (maxDepth := 80) only [bx_al, bx_drew, bx_drewN, bx_refl, bx_set1, bx_set2, bx_set3, *]) (fun hcur => ?_)
  clear hK K
  (try dsimp only at hcur)
  try simp only [Act.put, List.setIfInBounds_toArray, List.set_cons_zero, List.set_cons_succ]
  apply PlanW.step
  · (simp only [gA, gB, gC] <;> rfl)
  · rfl
  intro K hK
  go_simp
  (first | (go_at_call 74; (with_reducible refine (c_of b _).mono ?_); rintro e w3 ⟨rfl, hb3⟩; replace hb3 := bx_tt hb3) | (go_at_call 97; refine Calls.mono (hcb.out _ ?_) ?_; exact BX.below (X := [w.heap.size + 2, w.heap.size + 3]) (by simp) hb0 (by solve_by_elim (maxDepth := 80) only [bx_al, bx_drew, bx_drewN, bx_refl, bx_set1, bx_set2, bx_set3, *]); rintro e w3 ⟨rfl, hb3⟩; replace hb3 := bx_tt hb3) | (go_at_call 48; (with_reducible refine (c_first2 (Blk.new _ _ _)).mono ?_); rintro e w3 ⟨rfl, rfl⟩))
  (try dsimp only)
  refine hK.out _ _ (by solve_by_elim (maxDepth := 80) only [bx_al, bx_drew, bx_drewN, bx_refl, bx_set1, bx_set2, bx_set3, *]) (fun hcur => ?_)
  clear hK K
  (try dsimp only at hcur)
  try simp only [Act.put, List.setIfInBounds_toArray, List.set_cons_zero, List.set_cons_succ]
  apply PlanW.step
  · (simp only [gA, gB, gC] <;> rfl)
  · rfl
  intro K hK
  go_simp
  refine hK.out _ _ (by solve_by_elim (maxDepth := 80) only [bx_al, bx_drew, bx_drewN, bx_refl, bx_set1, bx_set2, bx_set3, *]) (fun hcur => ?_)
  clear hK K
  (try dsimp only at hcur)
  try simp only [Act.put, List.setIfInBounds_toArray, List.set_cons_zero, List.set_cons_succ]
  apply PlanW.step
  · (simp only [gA, gB, gC] <;> rfl)
  · rfl
  intro K hK
  go_simp
  (first | (go_at_call 74; (with_reducible refine (c_of b _).mono ?_); rintro e w3 ⟨rfl, hb3⟩; replace hb3 := bx_tt hb3) | (go_at_call 97; refine Calls.mono (hcb.out _ ?_) ?_; exact BX.below (X := [w.heap.size + 2, w.heap.size + 3]) (by simp) hb0 (by solve_by_elim (maxDepth := 80) only [bx_al, bx_drew, bx_drewN, bx_refl, bx_set1, bx_set2, bx_set3, *]); rintro e w3 ⟨rfl, hb3⟩; replace hb3 := bx_tt hb3) | (go_at_call 48; (with_reducible refine (c_first2 (Blk.new _ _ _)).mono ?_); rintro e w3 ⟨rfl, rfl⟩))
  (try dsimp only)
  refine hK.out _ _ (by solve_by_elim (maxDepth := 80) only [bx_al, bx_drew, bx_drewN, bx_refl, bx_set1, bx_set2, bx_set3, *]) (fun hcur => ?_)
  clear hK K
  (try dsimp only at hcur)
  try simp only [Act.put, List.setIfInBounds_toArray, List.set_cons_zero, List.set_cons_succ]
  apply PlanW.step
  · (simp only [gA, gB, gC] <;> rfl)
  · rfl
  intro K hK
  refine wp_store_keep (X := [w.heap.size + 2, w.heap.size + 3]) (w0 := wb) rfl rfl rfl (by solve_by_elim (maxDepth := 80) only [bx_al, bx_drew, bx_drewN, bx_refl, bx_set1, bx_set2, bx_set3, *]) (by assumption) (by simp) (by kernel_rfl) (by rfl) (by simp [Value.oneCell']) (fun hres1 hcur => ?_)
  refine hK.out _ _ hcur (fun _ => ?_)
  clear hK K
  try simp only [Act.put, List.setIfInBounds_toArray, List.set_cons_zero, List.set_cons_succ]
  apply PlanW.step
  · (simp only [gA, gB, gC] <;> rfl)
  · rfl
  intro K hK
  refine wp_store_keep (X := [w.heap.size + 2, w.heap.size + 3]) (w0 := wb) rfl rfl rfl (by solve_by_elim (maxDepth := 80) only [bx_al, bx_drew, bx_drewN, bx_refl, bx_set1, bx_set2, bx_set3, *]) (by assumption) (by simp) (by kernel_rfl) (by rfl) (by simp [Value.oneCell']) (fun hres2 hcur => ?_)
  refine hK.out _ _ hcur (fun _ => ?_)
  clear hK K
  try simp only [Act.put, List.setIfInBounds_toArray, List.set_cons_zero, List.set_cons_succ]
  apply PlanW.on
  · (simp only [gA, gB, gC] <;> rfl)
  · rfl
  · (intro W hS; (try dsimp only at hS); go_simp <;> with_reducible rfl)
  try simp only [Act.put, List.setIfInBounds_toArray, List.set_cons_zero, List.set_cons_succ]
  refine PlanW.done ?_
  have hr2 := hres2.cell
  have hr1 := fun vs => (hres1.rowOther (g' := w.heap.size + 3) (by omega) vs).cell
  go_wp2
  refine bodyPost_ret (v := .tuple #[vON n.world (.slice A nl c), vBx b, .int .i64 (boxErr n b)]) (by simp [results, Tryz.results57, go_sem, hr1, hr2, hr.out]) rfl ⟨rfl, ?_⟩
  exact hcur.below (by simp) hb0
end Go.Proofs.YtephimmamkafoaaGreat
namespace Go.Proofs.YtephimmamkafoaaGreat
open Go.RowKit Go.Shelf
attribute [local go_sem] bl_al bl_drew bl_drewN bl_refl bx_al bx_drew bx_drewN bx_refl index_b0 index_b1 index_b2
set_option maxRecDepth 20000
abbrev aON (b : Bx) (s : Value) : Array Value := #[.int .i64 b.x.lo, .int .i64 b.x.hi, .int .i64 b.y.lo, .int .i64 b.y.hi, .int .i64 b.z.lo, .int .i64 b.z.hi, s, .int .i64 b.x.lo, .int .i64 b.x.hi, .int .i64 b.y.lo, .int .i64 b.y.hi, .int .i64 b.z.lo, .int .i64 b.z.hi]
/-- Speeds within the limit, ticks too. -/
def Rg.in (r : Rg) (l : Int) : Prop := -l ≤ r.lo ∧ r.lo ≤ l ∧ -l ≤ r.hi ∧ r.hi ≤ l
def Bx.in (b : Bx) (l : Int) : Prop := b.x.in l ∧ b.y.in l ∧ b.z.in l
def Mv.ok (m : Mv) : Prop := 0 ≤ m.ticks ∧ m.ticks ≤ 1000 ∧ m.speed.in 100
theorem Bx.ok.in {b : Bx} (h : b.ok) : b.in 10000 := by
  obtain ⟨⟨x1, x2, x3⟩, ⟨y1, y2, y3⟩, ⟨z1, z2, z3⟩⟩ := h
  refine ⟨⟨?_, ?_, ?_, ?_⟩, ⟨?_, ?_, ?_, ?_⟩, ⟨?_, ?_, ?_, ?_⟩⟩ <;> omega
theorem Mv.ok.neg {m : Mv} (h : m.ok) : m.neg.ok := by
  obtain ⟨h1, h2, ⟨x1, x2, x3, x4⟩, ⟨y1, y2, y3, y4⟩, ⟨z1, z2, z3, z4⟩⟩ := h
  refine ⟨h1, h2, ⟨?_, ?_, ?_, ?_⟩, ⟨?_, ?_, ?_, ?_⟩, ⟨?_, ?_, ?_, ?_⟩⟩ <;> simp only [Mv.neg, Rg.neg] <;> omega
theorem tv_bd {t v : Int} (h1 : 0 ≤ t) (h2 : t ≤ 1000) (h3 : -100 ≤ v) (h4 : v ≤ 100) : -100000 ≤ t * v ∧ t * v ≤ 100000 := by
  have a1 := Int.mul_le_mul_of_nonneg_left h4 h1
  have a2 := Int.mul_le_mul_of_nonneg_left h3 h1
  omega
set_option maxHeartbeats 4000000 in
theorem c_carried (wd a : Bx) (m : Mv) (s : Value) (w : World) (ha : a.in 10000) (hm : m.ok) :
    Calls Tryz.prog 83 #[vON wd s, vBx a, vMv m] w (Ret (.tuple #[vBx (carried wd a m), .bool (carried wd a m).ordered]) w) := by
  obtain ⟨⟨x1, x2, x3, x4⟩, ⟨y1, y2, y3, y4⟩, ⟨z1, z2, z3, z4⟩⟩ := ha
  obtain ⟨h1, h2, ⟨u1, u2, u3, u4⟩, ⟨v1, v2, v3, v4⟩, ⟨w1, w2, w3, w4⟩⟩ := hm
  have bxl := tv_bd h1 h2 u1 u2
  have bxh := tv_bd h1 h2 u3 u4
  have byl := tv_bd h1 h2 v1 v2
  have byh := tv_bd h1 h2 v3 v4
  have bzl := tv_bd h1 h2 w1 w2
  have bzh := tv_bd h1 h2 w3 w4
  go_enter Tryz.func83, Tryz.ntmps83
  go_wp2_with ((go_at_call 74; (with_reducible refine (c_of m.speed _).mono ?_); rintro e w3 ⟨rfl, hb3⟩; replace hb3 := bl_tt hb3))

  have kk : (fun W => Below w.heap.size w W ∧ Blk W w.heap.size 94 (aON wd s) ∧ Blk W (w.heap.size + 1) 92 #[.int .i64 (a.x.lo), .int .i64 (a.x.hi), .int .i64 (a.y.lo), .int .i64 (a.y.hi), .int .i64 (a.z.lo), .int .i64 (a.z.hi)] ∧ Blk W (w.heap.size + 2) 44 (aMv m) ∧ Blk W (w.heap.size + 3) 92 z6) w3 := ⟨by solve_by_elim (maxDepth := 60) only [bl_al, bl_drew, bl_drewN, bl_refl, bl_setA, bl_setB, *], Blk.below (by (with_reducible repeat' (first | assumption | exact Blk.newAt (by simp; done) | refine Blk.alloc ?_ _ | refine Blk.drew ?_ | refine Blk.drewN ?_ _ | refine Blk.other ?_ (by first | (simp; done) | (simp; omega)) _ | exact Blk.set2 (by assumption) (by simp; done) | exact Blk.set1 (by assumption) (by simp; done)))) (hb3 _ (bl_refl _)), Blk.below (by (with_reducible repeat' (first | assumption | exact Blk.newAt (by simp; done) | refine Blk.alloc ?_ _ | refine Blk.drew ?_ | refine Blk.drewN ?_ _ | refine Blk.other ?_ (by first | (simp; done) | (simp; omega)) _ | exact Blk.set2 (by assumption) (by simp; done) | exact Blk.set1 (by assumption) (by simp; done)))) (hb3 _ (bl_refl _)), Blk.below (by (with_reducible repeat' (first | assumption | exact Blk.newAt (by simp; done) | refine Blk.alloc ?_ _ | refine Blk.drew ?_ | refine Blk.drewN ?_ _ | refine Blk.other ?_ (by first | (simp; done) | (simp; omega)) _ | exact Blk.set2 (by assumption) (by simp; done) | exact Blk.set1 (by assumption) (by simp; done)))) (hb3 _ (bl_refl _)), Blk.below (by (with_reducible repeat' (first | assumption | exact Blk.newAt (by simp; done) | refine Blk.alloc ?_ _ | refine Blk.drew ?_ | refine Blk.drewN ?_ _ | refine Blk.other ?_ (by first | (simp; done) | (simp; omega)) _ | exact Blk.set2 (by assumption) (by simp; done) | exact Blk.set1 (by assumption) (by simp; done)))) (hb3 _ (bl_refl _))⟩
  refine absC (C := fun W => Below w.heap.size w W ∧ Blk W w.heap.size 94 (aON wd s) ∧ Blk W (w.heap.size + 1) 92 #[.int .i64 (a.x.lo), .int .i64 (a.x.hi), .int .i64 (a.y.lo), .int .i64 (a.y.hi), .int .i64 (a.z.lo), .int .i64 (a.z.hi)] ∧ Blk W (w.heap.size + 2) 44 (aMv m) ∧ Blk W (w.heap.size + 3) 92 z6) kk (fun wa hw => ?_)
  clear kk hb3
  obtain ⟨hb0, k0, k1, k2, k3⟩ := hw
  have hlt := k3.lt
  refine wp_loop_rounds 4 ?_

  rw [rounds_succ]
  go_wp2
  refine wp_tailC (C := fun W => Below w.heap.size w W ∧ Blk W w.heap.size 94 (aON wd s) ∧ Blk W (w.heap.size + 1) 92 #[.int .i64 (a.x.lo), .int .i64 (a.x.hi), .int .i64 (a.y.lo), .int .i64 (a.y.hi), .int .i64 (a.z.lo), .int .i64 (a.z.hi)] ∧ Blk W (w.heap.size + 2) 44 (aMv m) ∧ Blk W (w.heap.size + 3) 92 z6 ∧ Blk W wa.heap.size 23 #[.int .i64 m.speed.x.lo, .int .i64 m.speed.x.hi]) 23 (by kernel_rfl) (by kernel_rfl) ⟨by solve_by_elim (maxDepth := 60) only [bl_al, bl_drew, bl_drewN, bl_refl, bl_setA, bl_setB, *], by (with_reducible repeat' (first | assumption | exact Blk.newAt (by simp; done) | refine Blk.alloc ?_ _ | refine Blk.drew ?_ | refine Blk.drewN ?_ _ | refine Blk.other ?_ (by first | (simp; done) | (simp; omega)) _ | exact Blk.set2 (by assumption) (by simp; done) | exact Blk.set1 (by assumption) (by simp; done))), by (with_reducible repeat' (first | assumption | exact Blk.newAt (by simp; done) | refine Blk.alloc ?_ _ | refine Blk.drew ?_ | refine Blk.drewN ?_ _ | refine Blk.other ?_ (by first | (simp; done) | (simp; omega)) _ | exact Blk.set2 (by assumption) (by simp; done) | exact Blk.set1 (by assumption) (by simp; done))), by (with_reducible repeat' (first | assumption | exact Blk.newAt (by simp; done) | refine Blk.alloc ?_ _ | refine Blk.drew ?_ | refine Blk.drewN ?_ _ | refine Blk.other ?_ (by first | (simp; done) | (simp; omega)) _ | exact Blk.set2 (by assumption) (by simp; done) | exact Blk.set1 (by assumption) (by simp; done))), by (with_reducible repeat' (first | assumption | exact Blk.newAt (by simp; done) | refine Blk.alloc ?_ _ | refine Blk.drew ?_ | refine Blk.drewN ?_ _ | refine Blk.other ?_ (by first | (simp; done) | (simp; omega)) _ | exact Blk.set2 (by assumption) (by simp; done) | exact Blk.set1 (by assumption) (by simp; done))), by (with_reducible repeat' (first | assumption | exact Blk.newAt (by simp; done) | refine Blk.alloc ?_ _ | refine Blk.drew ?_ | refine Blk.drewN ?_ _ | refine Blk.other ?_ (by first | (simp; done) | (simp; omega)) _ | exact Blk.set2 (by assumption) (by simp; done) | exact Blk.set1 (by assumption) (by simp; done)))⟩ (fun wb hw => ?_)
  clear hb0 k0 k1 k2 k3
  obtain ⟨hb0, k0, k1, k2, k3, k9⟩ := hw
  have L1 := k1.cell
  have F1 := k1.frozen
  have L2 := k2.cell
  have L9 := k9.cell
  simp only [List.take_succ_cons, List.take_zero, List.drop_succ_cons, List.drop_zero]
  repeat still_step
  refine wpStill_nil ?_
  go_wp2
  refine absR (C := fun W => Below w.heap.size w W ∧ Blk W w.heap.size 94 (aON wd s) ∧ Blk W (w.heap.size + 1) 92 #[.int .i64 (a.x.lo + m.ticks * m.speed.x.lo), .int .i64 (a.x.hi + m.ticks * m.speed.x.hi), .int .i64 (a.y.lo), .int .i64 (a.y.hi), .int .i64 (a.z.lo), .int .i64 (a.z.hi)] ∧ Blk W (w.heap.size + 2) 44 (aMv m) ∧ Blk W (w.heap.size + 3) 92 z6) ⟨by solve_by_elim (maxDepth := 60) only [bl_al, bl_drew, bl_drewN, bl_refl, bl_setA, bl_setB, *], by (with_reducible repeat' (first | assumption | exact Blk.newAt (by simp; done) | refine Blk.alloc ?_ _ | refine Blk.drew ?_ | refine Blk.drewN ?_ _ | refine Blk.other ?_ (by first | (simp; done) | (simp; omega)) _ | exact Blk.set2 (by assumption) (by simp; done) | exact Blk.set1 (by assumption) (by simp; done))), by (with_reducible repeat' (first | assumption | exact Blk.newAt (by simp; done) | refine Blk.alloc ?_ _ | refine Blk.drew ?_ | refine Blk.drewN ?_ _ | refine Blk.other ?_ (by first | (simp; done) | (simp; omega)) _ | exact Blk.set2 (by assumption) (by simp; done) | exact Blk.set1 (by assumption) (by simp; done))), by (with_reducible repeat' (first | assumption | exact Blk.newAt (by simp; done) | refine Blk.alloc ?_ _ | refine Blk.drew ?_ | refine Blk.drewN ?_ _ | refine Blk.other ?_ (by first | (simp; done) | (simp; omega)) _ | exact Blk.set2 (by assumption) (by simp; done) | exact Blk.set1 (by assumption) (by simp; done))), by (with_reducible repeat' (first | assumption | exact Blk.newAt (by simp; done) | refine Blk.alloc ?_ _ | refine Blk.drew ?_ | refine Blk.drewN ?_ _ | refine Blk.other ?_ (by first | (simp; done) | (simp; omega)) _ | exact Blk.set2 (by assumption) (by simp; done) | exact Blk.set1 (by assumption) (by simp; done)))⟩ (fun wa hw => ?_)
  clear hb0 k0 k1 k2 k3 L1 F1 L2 L9 k9 hlt
  obtain ⟨hb0, k0, k1, k2, k3⟩ := hw
  have hlt := k3.lt

  rw [rounds_succ]
  go_wp2
  refine wp_tailC (C := fun W => Below w.heap.size w W ∧ Blk W w.heap.size 94 (aON wd s) ∧ Blk W (w.heap.size + 1) 92 #[.int .i64 (a.x.lo + m.ticks * m.speed.x.lo), .int .i64 (a.x.hi + m.ticks * m.speed.x.hi), .int .i64 (a.y.lo), .int .i64 (a.y.hi), .int .i64 (a.z.lo), .int .i64 (a.z.hi)] ∧ Blk W (w.heap.size + 2) 44 (aMv m) ∧ Blk W (w.heap.size + 3) 92 z6 ∧ Blk W wa.heap.size 23 #[.int .i64 m.speed.y.lo, .int .i64 m.speed.y.hi]) 23 (by kernel_rfl) (by kernel_rfl) ⟨by solve_by_elim (maxDepth := 60) only [bl_al, bl_drew, bl_drewN, bl_refl, bl_setA, bl_setB, *], by (with_reducible repeat' (first | assumption | exact Blk.newAt (by simp; done) | refine Blk.alloc ?_ _ | refine Blk.drew ?_ | refine Blk.drewN ?_ _ | refine Blk.other ?_ (by first | (simp; done) | (simp; omega)) _ | exact Blk.set2 (by assumption) (by simp; done) | exact Blk.set1 (by assumption) (by simp; done))), by (with_reducible repeat' (first | assumption | exact Blk.newAt (by simp; done) | refine Blk.alloc ?_ _ | refine Blk.drew ?_ | refine Blk.drewN ?_ _ | refine Blk.other ?_ (by first | (simp; done) | (simp; omega)) _ | exact Blk.set2 (by assumption) (by simp; done) | exact Blk.set1 (by assumption) (by simp; done))), by (with_reducible repeat' (first | assumption | exact Blk.newAt (by simp; done) | refine Blk.alloc ?_ _ | refine Blk.drew ?_ | refine Blk.drewN ?_ _ | refine Blk.other ?_ (by first | (simp; done) | (simp; omega)) _ | exact Blk.set2 (by assumption) (by simp; done) | exact Blk.set1 (by assumption) (by simp; done))), by (with_reducible repeat' (first | assumption | exact Blk.newAt (by simp; done) | refine Blk.alloc ?_ _ | refine Blk.drew ?_ | refine Blk.drewN ?_ _ | refine Blk.other ?_ (by first | (simp; done) | (simp; omega)) _ | exact Blk.set2 (by assumption) (by simp; done) | exact Blk.set1 (by assumption) (by simp; done))), by (with_reducible repeat' (first | assumption | exact Blk.newAt (by simp; done) | refine Blk.alloc ?_ _ | refine Blk.drew ?_ | refine Blk.drewN ?_ _ | refine Blk.other ?_ (by first | (simp; done) | (simp; omega)) _ | exact Blk.set2 (by assumption) (by simp; done) | exact Blk.set1 (by assumption) (by simp; done)))⟩ (fun wb hw => ?_)
  clear hb0 k0 k1 k2 k3
  obtain ⟨hb0, k0, k1, k2, k3, k9⟩ := hw
  have L1 := k1.cell
  have F1 := k1.frozen
  have L2 := k2.cell
  have L9 := k9.cell
  simp only [List.take_succ_cons, List.take_zero, List.drop_succ_cons, List.drop_zero]
  repeat still_step
  refine wpStill_nil ?_
  go_wp2
  refine absR (C := fun W => Below w.heap.size w W ∧ Blk W w.heap.size 94 (aON wd s) ∧ Blk W (w.heap.size + 1) 92 #[.int .i64 (a.x.lo + m.ticks * m.speed.x.lo), .int .i64 (a.x.hi + m.ticks * m.speed.x.hi), .int .i64 (a.y.lo + m.ticks * m.speed.y.lo), .int .i64 (a.y.hi + m.ticks * m.speed.y.hi), .int .i64 (a.z.lo), .int .i64 (a.z.hi)] ∧ Blk W (w.heap.size + 2) 44 (aMv m) ∧ Blk W (w.heap.size + 3) 92 z6) ⟨by solve_by_elim (maxDepth := 60) only [bl_al, bl_drew, bl_drewN, bl_refl, bl_setA, bl_setB, *], by (with_reducible repeat' (first | assumption | exact Blk.newAt (by simp; done) | refine Blk.alloc ?_ _ | refine Blk.drew ?_ | refine Blk.drewN ?_ _ | refine Blk.other ?_ (by first | (simp; done) | (simp; omega)) _ | exact Blk.set2 (by assumption) (by simp; done) | exact Blk.set1 (by assumption) (by simp; done))), by (with_reducible repeat' (first | assumption | exact Blk.newAt (by simp; done) | refine Blk.alloc ?_ _ | refine Blk.drew ?_ | refine Blk.drewN ?_ _ | refine Blk.other ?_ (by first | (simp; done) | (simp; omega)) _ | exact Blk.set2 (by assumption) (by simp; done) | exact Blk.set1 (by assumption) (by simp; done))), by (with_reducible repeat' (first | assumption | exact Blk.newAt (by simp; done) | refine Blk.alloc ?_ _ | refine Blk.drew ?_ | refine Blk.drewN ?_ _ | refine Blk.other ?_ (by first | (simp; done) | (simp; omega)) _ | exact Blk.set2 (by assumption) (by simp; done) | exact Blk.set1 (by assumption) (by simp; done))), by (with_reducible repeat' (first | assumption | exact Blk.newAt (by simp; done) | refine Blk.alloc ?_ _ | refine Blk.drew ?_ | refine Blk.drewN ?_ _ | refine Blk.other ?_ (by first | (simp; done) | (simp; omega)) _ | exact Blk.set2 (by assumption) (by simp; done) | exact Blk.set1 (by assumption) (by simp; done)))⟩ (fun wa hw => ?_)
  clear hb0 k0 k1 k2 k3 L1 F1 L2 L9 k9 hlt
  obtain ⟨hb0, k0, k1, k2, k3⟩ := hw
  have hlt := k3.lt

  rw [rounds_succ]
  go_wp2
  refine wp_tailC (C := fun W => Below w.heap.size w W ∧ Blk W w.heap.size 94 (aON wd s) ∧ Blk W (w.heap.size + 1) 92 #[.int .i64 (a.x.lo + m.ticks * m.speed.x.lo), .int .i64 (a.x.hi + m.ticks * m.speed.x.hi), .int .i64 (a.y.lo + m.ticks * m.speed.y.lo), .int .i64 (a.y.hi + m.ticks * m.speed.y.hi), .int .i64 (a.z.lo), .int .i64 (a.z.hi)] ∧ Blk W (w.heap.size + 2) 44 (aMv m) ∧ Blk W (w.heap.size + 3) 92 z6 ∧ Blk W wa.heap.size 23 #[.int .i64 m.speed.z.lo, .int .i64 m.speed.z.hi]) 23 (by kernel_rfl) (by kernel_rfl) ⟨by solve_by_elim (maxDepth := 60) only [bl_al, bl_drew, bl_drewN, bl_refl, bl_setA, bl_setB, *], by (with_reducible repeat' (first | assumption | exact Blk.newAt (by simp; done) | refine Blk.alloc ?_ _ | refine Blk.drew ?_ | refine Blk.drewN ?_ _ | refine Blk.other ?_ (by first | (simp; done) | (simp; omega)) _ | exact Blk.set2 (by assumption) (by simp; done) | exact Blk.set1 (by assumption) (by simp; done))), by (with_reducible repeat' (first | assumption | exact Blk.newAt (by simp; done) | refine Blk.alloc ?_ _ | refine Blk.drew ?_ | refine Blk.drewN ?_ _ | refine Blk.other ?_ (by first | (simp; done) | (simp; omega)) _ | exact Blk.set2 (by assumption) (by simp; done) | exact Blk.set1 (by assumption) (by simp; done))), by (with_reducible repeat' (first | assumption | exact Blk.newAt (by simp; done) | refine Blk.alloc ?_ _ | refine Blk.drew ?_ | refine Blk.drewN ?_ _ | refine Blk.other ?_ (by first | (simp; done) | (simp; omega)) _ | exact Blk.set2 (by assumption) (by simp; done) | exact Blk.set1 (by assumption) (by simp; done))), by (with_reducible repeat' (first | assumption | exact Blk.newAt (by simp; done) | refine Blk.alloc ?_ _ | refine Blk.drew ?_ | refine Blk.drewN ?_ _ | refine Blk.other ?_ (by first | (simp; done) | (simp; omega)) _ | exact Blk.set2 (by assumption) (by simp; done) | exact Blk.set1 (by assumption) (by simp; done))), by (with_reducible repeat' (first | assumption | exact Blk.newAt (by simp; done) | refine Blk.alloc ?_ _ | refine Blk.drew ?_ | refine Blk.drewN ?_ _ | refine Blk.other ?_ (by first | (simp; done) | (simp; omega)) _ | exact Blk.set2 (by assumption) (by simp; done) | exact Blk.set1 (by assumption) (by simp; done)))⟩ (fun wb hw => ?_)
  clear hb0 k0 k1 k2 k3
  obtain ⟨hb0, k0, k1, k2, k3, k9⟩ := hw
  have L1 := k1.cell
  have F1 := k1.frozen
  have L2 := k2.cell
  have L9 := k9.cell
  simp only [List.take_succ_cons, List.take_zero, List.drop_succ_cons, List.drop_zero]
  repeat still_step
  refine wpStill_nil ?_
  go_wp2
  refine absR (C := fun W => Below w.heap.size w W ∧ Blk W w.heap.size 94 (aON wd s) ∧ Blk W (w.heap.size + 1) 92 #[.int .i64 (a.x.lo + m.ticks * m.speed.x.lo), .int .i64 (a.x.hi + m.ticks * m.speed.x.hi), .int .i64 (a.y.lo + m.ticks * m.speed.y.lo), .int .i64 (a.y.hi + m.ticks * m.speed.y.hi), .int .i64 (a.z.lo + m.ticks * m.speed.z.lo), .int .i64 (a.z.hi + m.ticks * m.speed.z.hi)] ∧ Blk W (w.heap.size + 2) 44 (aMv m) ∧ Blk W (w.heap.size + 3) 92 z6) ⟨by solve_by_elim (maxDepth := 60) only [bl_al, bl_drew, bl_drewN, bl_refl, bl_setA, bl_setB, *], by (with_reducible repeat' (first | assumption | exact Blk.newAt (by simp; done) | refine Blk.alloc ?_ _ | refine Blk.drew ?_ | refine Blk.drewN ?_ _ | refine Blk.other ?_ (by first | (simp; done) | (simp; omega)) _ | exact Blk.set2 (by assumption) (by simp; done) | exact Blk.set1 (by assumption) (by simp; done))), by (with_reducible repeat' (first | assumption | exact Blk.newAt (by simp; done) | refine Blk.alloc ?_ _ | refine Blk.drew ?_ | refine Blk.drewN ?_ _ | refine Blk.other ?_ (by first | (simp; done) | (simp; omega)) _ | exact Blk.set2 (by assumption) (by simp; done) | exact Blk.set1 (by assumption) (by simp; done))), by (with_reducible repeat' (first | assumption | exact Blk.newAt (by simp; done) | refine Blk.alloc ?_ _ | refine Blk.drew ?_ | refine Blk.drewN ?_ _ | refine Blk.other ?_ (by first | (simp; done) | (simp; omega)) _ | exact Blk.set2 (by assumption) (by simp; done) | exact Blk.set1 (by assumption) (by simp; done))), by (with_reducible repeat' (first | assumption | exact Blk.newAt (by simp; done) | refine Blk.alloc ?_ _ | refine Blk.drew ?_ | refine Blk.drewN ?_ _ | refine Blk.other ?_ (by first | (simp; done) | (simp; omega)) _ | exact Blk.set2 (by assumption) (by simp; done) | exact Blk.set1 (by assumption) (by simp; done)))⟩ (fun wa hw => ?_)
  clear hb0 k0 k1 k2 k3 L1 F1 L2 L9 k9 hlt
  obtain ⟨hb0, k0, k1, k2, k3⟩ := hw
  have hlt := k3.lt

  have L0 := k0.later
  have L1 := k1.later
  have L3 := k3.later
  have F3 := k3.laterF
  rw [rounds_succ]
  go_wp2_with ((go_at_call 67; (with_reducible refine (c_meet ⟨⟨a.x.lo + m.ticks * m.speed.x.lo, a.x.hi + m.ticks * m.speed.x.hi⟩, ⟨a.y.lo + m.ticks * m.speed.y.lo, a.y.hi + m.ticks * m.speed.y.hi⟩, ⟨a.z.lo + m.ticks * m.speed.z.lo, a.z.hi + m.ticks * m.speed.z.hi⟩⟩ wd _).mono ?_); rintro e w3 ⟨rfl, hb3⟩; replace hb3 := bl_tt hb3))
  refine ret1 (Blk.set6 (k3.below (hb3 _ (bl_refl _)))) (C := fun W => Below w.heap.size w W) (bl_set6 (by omega) (hb3 _ hb0)) (fun wf kf hbf => ?_)
  have hr := kf.cell
  refine bodyPost_ret (v := .tuple #[vBx (carried wd a m), .bool (carried wd a m).ordered]) (by simp [results, Tryz.results83, go_sem, hr]; repeat' (first | rfl | apply And.intro)) rfl ⟨rfl, hbf⟩
end Go.Proofs.YtephimmamkafoaaGreat
namespace Go.Proofs.YtephimmamkafoaaGreat
open Go.RowKit Go.Shelf
attribute [local go_sem] Oper.semAt_some
set_option maxRecDepth 20000
/-- The numbers from lo to hi. -/
def iv (lo hi : Int) : List Int := if lo ≤ hi then lo :: iv (lo + 1) hi else []
termination_by (hi + 1 - lo).toNat
decreasing_by omega
theorem iv_cons {lo hi : Int} (h : lo ≤ hi) : iv lo hi = lo :: iv (lo + 1) hi := by rw [iv, if_pos h]
theorem iv_nil {lo hi : Int} (h : ¬ lo ≤ hi) : iv lo hi = [] := by rw [iv, if_neg h]
def R3 (b : Bx) (x y z : Int) : List Pl := (iv z b.z.hi).map fun z => ⟨x, y, z⟩
def R2 (b : Bx) (x y : Int) : List Pl := (iv y b.y.hi).flatMap fun y => R3 b x y b.z.lo
def R1 (b : Bx) (x : Int) : List Pl := (iv x b.x.hi).flatMap fun x => R2 b x b.y.lo
/-- The positions of a box. -/
def Bx.pts (b : Bx) : List Pl := R1 b b.x.lo
theorem R1_step {b : Bx} {x : Int} (h : x ≤ b.x.hi) : R1 b x = R2 b x b.y.lo ++ R1 b (x + 1) := by rw [R1, iv_cons h, List.flatMap_cons]; rfl
theorem R1_end {b : Bx} {x : Int} (h : ¬ x ≤ b.x.hi) : R1 b x = [] := by rw [R1, iv_nil h]; rfl
theorem R2_step {b : Bx} {x y : Int} (h : y ≤ b.y.hi) : R2 b x y = R3 b x y b.z.lo ++ R2 b x (y + 1) := by rw [R2, iv_cons h, List.flatMap_cons]; rfl
theorem R2_end {b : Bx} {x y : Int} (h : ¬ y ≤ b.y.hi) : R2 b x y = [] := by rw [R2, iv_nil h]; rfl
theorem R3_step {b : Bx} {x y z : Int} (h : z ≤ b.z.hi) : R3 b x y z = ⟨x, y, z⟩ :: R3 b x y (z + 1) := by rw [R3, iv_cons h]; rfl
theorem R3_end {b : Bx} {x y z : Int} (h : ¬ z ≤ b.z.hi) : R3 b x y z = [] := by rw [R3, iv_nil h]; rfl
theorem mem_iv {x hi : Int} : ∀ {lo : Int}, x ∈ iv lo hi ↔ lo ≤ x ∧ x ≤ hi := fun {lo} => by
  by_cases h : lo ≤ hi
  · rw [iv_cons h, List.mem_cons, mem_iv]
    omega
  · rw [iv_nil h]
    simp
    omega
termination_by lo => (hi + 1 - lo).toNat
decreasing_by omega
theorem mem_pts {b : Bx} {p : Pl} : p ∈ b.pts ↔ b.has p = true := by
  unfold Bx.pts R1 R2 R3 Bx.has
  simp only [List.mem_flatMap, List.mem_map, mem_iv, Bool.and_eq_true, inR_iff]
  constructor
  · rintro ⟨x, hx, y, hy, z, hz, rfl⟩
    exact ⟨⟨hx, hy⟩, hz⟩
  · rintro ⟨⟨hx, hy⟩, hz⟩
    exact ⟨p.x, hx, p.y, hy, p.z, hz, rfl⟩
set_option maxHeartbeats 4000000 in
theorem places_iter (b : Bx) (hb : b.in 10000) (m : Nat) : Iter Tryz.prog m 87 #[vBx b] (fun p : Pl => #[vPl p]) b.pts := by
  intro l X J W hX hJ hY h0
  obtain ⟨⟨hx1, hx2, hx3, hx4⟩, ⟨hy1, hy2, hy3, hy4⟩, ⟨hz1, hz2, hz3, hz4⟩⟩ := hb
  refine callsIn_of_wp Tryz.func87 rfl trivial ?_ rfl
  simp only [Tryz.ntmps87, List.size_toArray, List.length_cons, List.length_nil, Nat.reduceAdd, Nat.reduceSub, Array.replicate_succ, Array.replicate_zero, List.push_toArray, List.append_toArray, List.nil_append, List.cons_append]
  have hJ0 := Lib.hid (hJ _ _ _ h0 (bl_al (.cells (aBx b) 92) (bl_refl W)))
  have hX0 : W.heap.size ∉ X := fun h => Nat.lt_irrefl _ (hX _ h)
  clear h0 hX
  replace hY := Lib.hid hY
  have keep := Lib.hid fun (A B : World) (h : BX X A B) (hk : Blk A W.heap.size 92 (aBx b)) => (h.block _ hk.lt hX0).trans hk
  gi_wp2
  gi_loopw [4] (fun p wr => ∃ x pre, p = .int .i64 x ∧ b.x.lo ≤ x ∧ x ≤ 10001 ∧ pre ++ R1 b x = b.pts ∧ J pre wr ∧ Blk wr W.heap.size 92 (aBx b)) (fun p _ => (b.x.hi + 1 - intOf p).toNat)
  case atStart => exact ⟨b.x.lo, [], rfl, Int.le_refl _, by omega, rfl, hJ0.out, Blk.new _ _ _⟩
  case round =>
    obtain ⟨x, pre, rfl, hlx, hxb, hpre, hj, hk⟩ := hrel
    replace hpre := Lib.hid hpre
    replace hj := Lib.hid hj
    have L := hk.cell
    by_cases hx : x ≤ b.x.hi
    · gi_wp2
      gi_loopw [5] (fun p wr => ∃ y pre, p = .int .i64 y ∧ b.y.lo ≤ y ∧ y ≤ 10001 ∧ pre ++ (R2 b x y ++ R1 b (x + 1)) = b.pts ∧ J pre wr ∧ Blk wr W.heap.size 92 (aBx b)) (fun p _ => (b.y.hi + 1 - intOf p).toNat)
      case atStart => exact ⟨b.y.lo, pre, rfl, Int.le_refl _, by omega, by rw [← hpre.out, R1_step hx], hj.out, hk⟩
      case round =>
        clear L hk hj hpre
        obtain ⟨y, pre, rfl, hly, hyb, hpre, hj, hk⟩ := hrel
        replace hpre := Lib.hid hpre
        replace hj := Lib.hid hj
        have L := hk.cell
        by_cases hy : y ≤ b.y.hi
        · gi_wp2
          gi_loopw [6] (fun p wr => ∃ z pre, p = .int .i64 z ∧ b.z.lo ≤ z ∧ z ≤ 10001 ∧ pre ++ (R3 b x y z ++ (R2 b x (y + 1) ++ R1 b (x + 1))) = b.pts ∧ J pre wr ∧ Blk wr W.heap.size 92 (aBx b)) (fun p _ => (b.z.hi + 1 - intOf p).toNat)
          case atStart => exact ⟨b.z.lo, pre, rfl, Int.le_refl _, by omega, by rw [← hpre.out, R2_step hy, List.append_assoc], hj.out, hk⟩
          case round =>
            clear L hk hj hpre
            obtain ⟨z, pre, rfl, hlz, hzb, hpre, hj, hk⟩ := hrel
            replace hpre := Lib.hid hpre
            have L := hk.cell
            by_cases hz : z ≤ b.z.hi
            · obtain ⟨fn, tmps, assign, body, hy, hR⟩ := hY.out pre ⟨x, y, z⟩ wr hj ⟨R3 b x y (z + 1) ++ (R2 b x (y + 1) ++ R1 b (x + 1)), by rw [← hpre.out, R3_step hz]; simp⟩
              replace hj := Lib.hid hj
              gi_wp2
              refine ⟨fun h => (by simp [Fence.wide] at h), hR.mono ?_⟩
              rintro e W3 ⟨rfl, hj3, hx3⟩
              have hk3 := keep.out _ _ hx3 hk
              replace hj3 := Lib.hid hj3
              clear hx3 hR hj L
              gi_wp2
              go_roundw
              case rel => exact ⟨z + 1, pre ++ [⟨x, y, z⟩], by go_num, by omega, by omega, by rw [← hpre.out, R3_step hz]; simp, hj3.out, hk3⟩
              case measure => simp [intOf]; omega
            · replace hj := Lib.hid hj
              gi_wp2
              go_roundw
              case rel => exact ⟨y + 1, pre, by go_num, by omega, by omega, by rw [← hpre.out, R3_end (by omega)]; simp, hj.out, hk⟩
              case measure => simp [intOf]; omega
        · gi_wp2
          go_roundw
          case rel => exact ⟨x + 1, pre, by go_num, by omega, by omega, by rw [← hpre.out, R2_end (by omega)]; simp, hj.out, hk⟩
          case measure => simp [intOf]; omega
    · gi_wp2
      go_end0
      exact ⟨⟨_, rfl⟩, by have := hpre.out; rw [R1_end (by omega), List.append_nil] at this; rw [← this]; exact hj.out⟩
end Go.Proofs.YtephimmamkafoaaGreat
namespace Go.Proofs.YtephimmamkafoaaGreat
open Go.RowKit
section
variable {P : Program} {w0 w W0 : World} {a : Act} {F : Fence} {n D : Nat} {c : Code} {Q : World → Exit → Act → World → Prop} {X : List Nat}

theorem midK6 {g0 g1 g2 g3 g4 g5 : Nat} {t0 t1 t2 t3 t4 t5 : TypeId} {c0 c1 c2 c3 c4 c5 : Array Value} (hD : w0.heap.size ≤ D) (hb : Below w0.heap.size w0 w) (hx : BX X W0 w) (k0 : Blk w g0 t0 c0) (k1 : Blk w g1 t1 c1) (k2 : Blk w g2 t2 c2) (k3 : Blk w g3 t3 c3) (k4 : Blk w g4 t4 c4) (k5 : Blk w g5 t5 c5) (h : ∀ W, Below w0.heap.size w0 W → CK D w W → Blk W g0 t0 c0 → Blk W g1 t1 c1 → Blk W g2 t2 c2 → Blk W g3 t3 c3 → Blk W g4 t4 c4 → Blk W g5 t5 c5 → c.wpIn F n P (Q W) a W) : BX X W0 w ∧ ∀ W, CK D w W → c.wpIn F n P (Q W) a W := ⟨hx, fun W h' => h W (h'.belowOf hD hb) h' (h'.blk k0) (h'.blk k1) (h'.blk k2) (h'.blk k3) (h'.blk k4) (h'.blk k5)⟩
theorem midK7 {g0 g1 g2 g3 g4 g5 g6 : Nat} {t0 t1 t2 t3 t4 t5 t6 : TypeId} {c0 c1 c2 c3 c4 c5 c6 : Array Value} (hD : w0.heap.size ≤ D) (hb : Below w0.heap.size w0 w) (hx : BX X W0 w) (k0 : Blk w g0 t0 c0) (k1 : Blk w g1 t1 c1) (k2 : Blk w g2 t2 c2) (k3 : Blk w g3 t3 c3) (k4 : Blk w g4 t4 c4) (k5 : Blk w g5 t5 c5) (k6 : Blk w g6 t6 c6) (h : ∀ W, Below w0.heap.size w0 W → CK D w W → Blk W g0 t0 c0 → Blk W g1 t1 c1 → Blk W g2 t2 c2 → Blk W g3 t3 c3 → Blk W g4 t4 c4 → Blk W g5 t5 c5 → Blk W g6 t6 c6 → c.wpIn F n P (Q W) a W) : BX X W0 w ∧ ∀ W, CK D w W → c.wpIn F n P (Q W) a W := ⟨hx, fun W h' => h W (h'.belowOf hD hb) h' (h'.blk k0) (h'.blk k1) (h'.blk k2) (h'.blk k3) (h'.blk k4) (h'.blk k5) (h'.blk k6)⟩
theorem goesK3 {α : Type} {I : List α → World → Prop} {xs : List α} {B : World} {X' : List Nat} {g0 g1 g2 : Nat} {t0 t1 t2 : TypeId} {c0 c1 c2 : Array Value} (hb : BX X w0 w) (k0 : Blk w g0 t0 c0) (k1 : Blk w g1 t1 c1) (k2 : Blk w g2 t2 c2) (h : ∀ W, BX X w0 W → Blk W g0 t0 c0 → Blk W g1 t1 c1 → Blk W g2 t2 c2 → Goes X' I xs B .normal a W) : Goes X' I xs B .normal a w := h w hb k0 k1 k2
theorem goesK6 {α : Type} {I : List α → World → Prop} {xs : List α} {B : World} {X' : List Nat} {g0 g1 g2 g3 g4 g5 : Nat} {t0 t1 t2 t3 t4 t5 : TypeId} {c0 c1 c2 c3 c4 c5 : Array Value} (hb : BX X w0 w) (k0 : Blk w g0 t0 c0) (k1 : Blk w g1 t1 c1) (k2 : Blk w g2 t2 c2) (k3 : Blk w g3 t3 c3) (k4 : Blk w g4 t4 c4) (k5 : Blk w g5 t5 c5) (h : ∀ W, BX X w0 W → Blk W g0 t0 c0 → Blk W g1 t1 c1 → Blk W g2 t2 c2 → Blk W g3 t3 c3 → Blk W g4 t4 c4 → Blk W g5 t5 c5 → Goes X' I xs B .normal a W) : Goes X' I xs B .normal a w := h w hb k0 k1 k2 k3 k4 k5
theorem goesK7 {α : Type} {I : List α → World → Prop} {xs : List α} {B : World} {X' : List Nat} {g0 g1 g2 g3 g4 g5 g6 : Nat} {t0 t1 t2 t3 t4 t5 t6 : TypeId} {c0 c1 c2 c3 c4 c5 c6 : Array Value} (hb : BX X w0 w) (k0 : Blk w g0 t0 c0) (k1 : Blk w g1 t1 c1) (k2 : Blk w g2 t2 c2) (k3 : Blk w g3 t3 c3) (k4 : Blk w g4 t4 c4) (k5 : Blk w g5 t5 c5) (k6 : Blk w g6 t6 c6) (h : ∀ W, BX X w0 W → Blk W g0 t0 c0 → Blk W g1 t1 c1 → Blk W g2 t2 c2 → Blk W g3 t3 c3 → Blk W g4 t4 c4 → Blk W g5 t5 c5 → Blk W g6 t6 c6 → Goes X' I xs B .normal a W) : Goes X' I xs B .normal a w := h w hb k0 k1 k2 k3 k4 k5 k6
theorem absPMB1 {m : Nat} {fn : Func} {R : Ending → World → Prop} {x : Exit} {g0 : Nat} {t0 : TypeId} {c0 : Array Value} (hb : Below w0.heap.size w0 w) (k0 : Blk w g0 t0 c0) (h : ∀ W, Below w0.heap.size w0 W → Blk W g0 t0 c0 → bodyPostM F m P fn R x a W) : bodyPostM F m P fn R x a w := h w hb k0
theorem absPMB2 {m : Nat} {fn : Func} {R : Ending → World → Prop} {x : Exit} {g0 g1 : Nat} {t0 t1 : TypeId} {c0 c1 : Array Value} (hb : Below w0.heap.size w0 w) (k0 : Blk w g0 t0 c0) (k1 : Blk w g1 t1 c1) (h : ∀ W, Below w0.heap.size w0 W → Blk W g0 t0 c0 → Blk W g1 t1 c1 → bodyPostM F m P fn R x a W) : bodyPostM F m P fn R x a w := h w hb k0 k1
theorem postM_ret {m : Nat} {fn : Func} {R : Ending → World → Prop} {v : Value} {ts : Array Value} (hr : (results fn ts).run P w = .ok v w) (h : R (.returned v) w) : bodyPostM F m P fn R .ret { tmps := ts, defers := [] } w := ⟨v, hr, h⟩
/-- The return behind a range over a function: the block for its rounds' deferred calls is empty. -/
theorem postM_taken {m : Nat} {fn : Func} {R : Ending → World → Prop} {v : Value} {ts : Array Value} (hK : w.heap[D]? = some (.deferred (some []))) (hr : (results fn ts).run P (w.putObj D (.deferred none)) = .ok v (w.putObj D (.deferred none)))
    (h : R (.returned v) (w.putObj D (.deferred none))) : bodyPostM F m P fn R .ret { tmps := ts, defers := [{ target := .collected D, args := #[] }] } w :=
  ⟨by simp, .inl ⟨_, _, rfl, run_takeDeferred hK, ⟨v, hr, h⟩⟩⟩
theorem bx_below {A B : World} (hb : Below w.heap.size w A) (h : BX X A B) (hX : ∀ x ∈ X, w.heap.size ≤ x) : Below w.heap.size w B :=
  ⟨h.os.trans hb.os, h.tape.trans hb.tape, h.output.trans hb.output, Nat.le_trans hb.size h.size, fun k hk => (h.block k (Nat.lt_of_lt_of_le hk hb.size) (fun e => by have := hX k e; omega)).trans (hb.block k hk)⟩
end
end Go.Proofs.YtephimmamkafoaaGreat
