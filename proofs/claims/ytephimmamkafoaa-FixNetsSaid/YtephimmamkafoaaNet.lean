/-
  Walk: which nets are valid.
-/
import Derived.Test.YtephimmamkafoaaW3
import Derived.Test.YtephimmamkafoaaPlan
namespace Go.Proofs.Ytephimmamkafoaa
set_option linter.unusedSimpArgs false
set_option linter.unusedVariables false
open Go.RowKit Go.Shelf
attribute [local go_sem] bl_al bl_drew bl_drewN bl_refl
set_option maxRecDepth 20000
/-- A net's beacons lie where the header of its slice says; so many at most. -/
structure NtIn (n : Nt) (A : Option Addr) (c : Nat) (w : World) : Prop where
  len : n.bs.length ≤ 1000
  cap : n.bs.length ≤ c
  nm : ∀ b ∈ n.bs, b.name.size ≤ maxLen
  sl : Sl cBc 4 w A n.bs
theorem NtIn.below {n : Nt} {A : Option Addr} {c : Nat} {w w' : World} (h : NtIn n A c w) (hb : Below w.heap.size w w') : NtIn n A c w' := ⟨h.len, h.cap, h.nm, h.sl.below hb⟩
set_option maxHeartbeats 4000000 in
theorem c_CheckNet (n : Nt) (A : Option Addr) (c : Nat) (w : World) (hn : NtIn n A c w) :
    Calls Try.prog 12 #[vNt n.world (.slice A n.bs.length c)] w (Ret (.tuple #[.int .i64 (netChk n).1, .int .i64 (netChk n).2]) w) := by
  have Hn := Lib.hid hn
  have hlen := hn.len
  clear hn
  have hev := Lib.hid fun (W : World) (hb : Below w.heap.size w W) (hB : W.cell? ⟨w.heap.size, 6, none⟩ = some (.slice A n.bs.length c)) =>
    c_eachB 65 #[.pointer (some ⟨w.heap.size, 0, none⟩)] (bcErr n.bs) A n.bs c W (by have := Hn.out.len; omega) (enters_of Try.func65 (by kernel_rfl) rfl)
      (fun k x hx W' hb' => c_bcErr n A c _ k x W' hx (by have := Hn.out.len; omega) Hn.out.cap (Hn.out.nm x (List.mem_of_getElem? hx)) (kcell hb' hB) ((Hn.out.sl.below hb).below hb'))
      (Hn.out.sl.below hb)
  have hres : Hid ((worldErr n.world n.bs.length = 0 → netChk n = eachS (bcErr n.bs) n.bs 0) ∧ (worldErr n.world n.bs.length ≠ 0 → netChk n = (0, worldErr n.world n.bs.length))) := ⟨fun h => by rw [netChk, if_pos h], fun h => by rw [netChk, if_neg h]⟩
  have hwe : Hid (worldErr n.world n.bs.length = fstE [unl (n.world.sized 10000 && (decide (0 ≤ n.world.z.lo) && decide (0 ≤ n.world.z.hi))) 2, unl n.world.ordered 9, unl (decide ((n.bs.length : Int) ≤ 6)) 8]) := rfl
  generalize n.bs.length = nl at *
  cases hA : n.world.sized 10000
  all_goals cases hB : decide (0 ≤ n.world.z.lo)
  all_goals
    go_enter Try.func12, Try.ntmps12
    go_wp2_with ((go_at_call 59; (with_reducible refine (c_of n.world _).mono ?_); rintro e w3 ⟨rfl, hb3⟩; replace hb3 := bl_tt hb3))
    have k0 := (Blk.new w 28 (aNt n.world (.slice A nl c))).below (hb3 _ (bl_refl _))
    refine abs1 (fun wb hb k1 => ?_)
    replace hb := bl_tt hb
    have L0 := (k0.below (hb _ (bl_refl _))).later
    have L1 := k1.later
    clear k0 k1
    refine wp_plan [(0, true), (17, true), (20, true), (21, true), (22, true), (23, true), (1, false), (2, true), (3, true), (4, true), (5, true), (6, true), (7, true), (8, true), (9, true), (10, true), (11, true), (12, true), (13, true), (14, true), (15, true), (16, false), (18, false), (19, false), (24, false), (25, false), (26, false), (27, true)] (fun W => Below wb.heap.size wb W) (by kernel_rfl) (by kernel_rfl) (by kernel_rfl) (by solve_by_elim (maxDepth := 60) only [bl_al, bl_drew, bl_drewN, bl_refl, *]) ?_
    apply PlanW.on
    · (simp only [List.getElem?_toArray, List.getElem?_cons_succ, List.getElem?_cons_zero] <;> rfl)
    · rfl
    · (intro W hS; (try dsimp only at hS); go_simp <;> with_reducible rfl)
    try simp only [Act.put, List.setIfInBounds_toArray, List.set_cons_zero, List.set_cons_succ]
    apply PlanW.on
    · (simp only [List.getElem?_toArray, List.getElem?_cons_succ, List.getElem?_cons_zero] <;> rfl)
    · rfl
    · (intro W hS; (try dsimp only at hS); go_simp <;> with_reducible rfl)
    try simp only [Act.put, List.setIfInBounds_toArray, List.set_cons_zero, List.set_cons_succ]
    apply PlanW.on
    · (simp only [List.getElem?_toArray, List.getElem?_cons_succ, List.getElem?_cons_zero] <;> rfl)
    · rfl
    · (intro W hS; (try dsimp only at hS); go_simp <;> with_reducible rfl)
    try simp only [Act.put, List.setIfInBounds_toArray, List.set_cons_zero, List.set_cons_succ]
    apply PlanW.on
    · (simp only [List.getElem?_toArray, List.getElem?_cons_succ, List.getElem?_cons_zero] <;> rfl)
    · rfl
    · (intro W hS; (try dsimp only at hS); go_simp <;> with_reducible rfl)
    try simp only [Act.put, List.setIfInBounds_toArray, List.set_cons_zero, List.set_cons_succ]
    apply PlanW.on
    · (simp only [List.getElem?_toArray, List.getElem?_cons_succ, List.getElem?_cons_zero] <;> rfl)
    · rfl
    · (intro W hS; (try dsimp only at hS); go_simp <;> with_reducible rfl)
    try simp only [Act.put, List.setIfInBounds_toArray, List.set_cons_zero, List.set_cons_succ]
    apply PlanW.on
    · (simp only [List.getElem?_toArray, List.getElem?_cons_succ, List.getElem?_cons_zero] <;> rfl)
    · rfl
    · (intro W hS; (try dsimp only at hS); go_simp <;> with_reducible rfl)
    try simp only [Act.put, List.setIfInBounds_toArray, List.set_cons_zero, List.set_cons_succ]
    apply PlanW.step
    · (simp only [List.getElem?_toArray, List.getElem?_cons_succ, List.getElem?_cons_zero] <;> rfl)
    · rfl
    intro K hK
    go_simp
    (first | (go_at_call 62; (with_reducible refine (c_sizedB n.world _ _ (by omega) (by omega)).mono ?_); rintro e w3 ⟨rfl, hb3⟩; replace hb3 := bl_tt hb3) | (go_at_call 61; (with_reducible refine (c_unless _ _ _).mono ?_); rintro e w3 ⟨rfl, rfl⟩) | (go_at_call 63; (with_reducible refine (c_ordered n.world _).mono ?_); rintro e w3 ⟨rfl, hb3⟩; replace hb3 := bl_tt hb3) | (go_at_call 60; (with_reducible refine (c_first3 (Blk.new _ _ _)).mono ?_); rintro e w3 ⟨rfl, rfl⟩))
    (try dsimp only)
    refine hK.out _ _ (by solve_by_elim (maxDepth := 60) only [bl_al, bl_drew, bl_drewN, bl_refl, *]) (fun hcur => ?_)
    clear hK K
    (try dsimp only at hcur)
    try simp only [Act.put, List.setIfInBounds_toArray, List.set_cons_zero, List.set_cons_succ]
    apply PlanW.on
    · (simp only [List.getElem?_toArray, List.getElem?_cons_succ, List.getElem?_cons_zero] <;> rfl)
    · rfl
    · (intro W hS; (try dsimp only at hS); go_simp <;> with_reducible rfl)
    try simp only [Act.put, List.setIfInBounds_toArray, List.set_cons_zero, List.set_cons_succ]
    first
    | apply PlanW.on
      · (simp only [List.getElem?_toArray, List.getElem?_cons_succ, List.getElem?_cons_zero] <;> rfl)
      · (simp [Region.wanted, yielded]; done)
      · (intro W hS; (try dsimp only at hS); go_simp <;> with_reducible rfl)
    | apply PlanW.off
      · (simp only [List.getElem?_toArray, List.getElem?_cons_succ, List.getElem?_cons_zero] <;> rfl)
      · (simp [Region.wanted, yielded]; done)
    try simp only [Act.put, List.setIfInBounds_toArray, List.set_cons_zero, List.set_cons_succ]
    first
    | apply PlanW.on
      · (simp only [List.getElem?_toArray, List.getElem?_cons_succ, List.getElem?_cons_zero] <;> rfl)
      · (simp [Region.wanted, yielded]; done)
      · (intro W hS; (try dsimp only at hS); go_simp <;> with_reducible rfl)
    | apply PlanW.off
      · (simp only [List.getElem?_toArray, List.getElem?_cons_succ, List.getElem?_cons_zero] <;> rfl)
      · (simp [Region.wanted, yielded]; done)
    try simp only [Act.put, List.setIfInBounds_toArray, List.set_cons_zero, List.set_cons_succ]
    first
    | apply PlanW.on
      · (simp only [List.getElem?_toArray, List.getElem?_cons_succ, List.getElem?_cons_zero] <;> rfl)
      · (simp [Region.wanted, yielded]; done)
      · (intro W hS; (try dsimp only at hS); go_simp <;> with_reducible rfl)
    | apply PlanW.off
      · (simp only [List.getElem?_toArray, List.getElem?_cons_succ, List.getElem?_cons_zero] <;> rfl)
      · (simp [Region.wanted, yielded]; done)
    try simp only [Act.put, List.setIfInBounds_toArray, List.set_cons_zero, List.set_cons_succ]
    first
    | apply PlanW.on
      · (simp only [List.getElem?_toArray, List.getElem?_cons_succ, List.getElem?_cons_zero] <;> rfl)
      · (simp [Region.wanted, yielded]; done)
      · (intro W hS; (try dsimp only at hS); go_simp <;> with_reducible rfl)
    | apply PlanW.off
      · (simp only [List.getElem?_toArray, List.getElem?_cons_succ, List.getElem?_cons_zero] <;> rfl)
      · (simp [Region.wanted, yielded]; done)
    try simp only [Act.put, List.setIfInBounds_toArray, List.set_cons_zero, List.set_cons_succ]
    first
    | apply PlanW.on
      · (simp only [List.getElem?_toArray, List.getElem?_cons_succ, List.getElem?_cons_zero] <;> rfl)
      · (simp [Region.wanted, yielded]; done)
      · (intro W hS; (try dsimp only at hS); go_simp <;> with_reducible rfl)
    | apply PlanW.off
      · (simp only [List.getElem?_toArray, List.getElem?_cons_succ, List.getElem?_cons_zero] <;> rfl)
      · (simp [Region.wanted, yielded]; done)
    try simp only [Act.put, List.setIfInBounds_toArray, List.set_cons_zero, List.set_cons_succ]
    apply PlanW.on
    · (simp only [List.getElem?_toArray, List.getElem?_cons_succ, List.getElem?_cons_zero] <;> rfl)
    · rfl
    · (intro W hS; (try dsimp only at hS); go_simp <;> with_reducible rfl)
    try simp only [Act.put, List.setIfInBounds_toArray, List.set_cons_zero, List.set_cons_succ]
    apply PlanW.on
    · (simp only [List.getElem?_toArray, List.getElem?_cons_succ, List.getElem?_cons_zero] <;> rfl)
    · rfl
    · (intro W hS; (try dsimp only at hS); go_simp <;> with_reducible rfl)
    try simp only [Act.put, List.setIfInBounds_toArray, List.set_cons_zero, List.set_cons_succ]
    first
    | apply PlanW.on
      · (simp only [List.getElem?_toArray, List.getElem?_cons_succ, List.getElem?_cons_zero] <;> rfl)
      · (simp [Region.wanted, yielded]; done)
      · (intro W hS; (try dsimp only at hS); go_simp <;> with_reducible rfl)
    | apply PlanW.off
      · (simp only [List.getElem?_toArray, List.getElem?_cons_succ, List.getElem?_cons_zero] <;> rfl)
      · (simp [Region.wanted, yielded]; done)
    try simp only [Act.put, List.setIfInBounds_toArray, List.set_cons_zero, List.set_cons_succ]
    first
    | apply PlanW.on
      · (simp only [List.getElem?_toArray, List.getElem?_cons_succ, List.getElem?_cons_zero] <;> rfl)
      · (simp [Region.wanted, yielded]; done)
      · (intro W hS; (try dsimp only at hS); go_simp <;> with_reducible rfl)
    | apply PlanW.off
      · (simp only [List.getElem?_toArray, List.getElem?_cons_succ, List.getElem?_cons_zero] <;> rfl)
      · (simp [Region.wanted, yielded]; done)
    try simp only [Act.put, List.setIfInBounds_toArray, List.set_cons_zero, List.set_cons_succ]
    first
    | apply PlanW.on
      · (simp only [List.getElem?_toArray, List.getElem?_cons_succ, List.getElem?_cons_zero] <;> rfl)
      · (simp [Region.wanted, yielded]; done)
      · (intro W hS; (try dsimp only at hS); go_simp <;> with_reducible rfl)
    | apply PlanW.off
      · (simp only [List.getElem?_toArray, List.getElem?_cons_succ, List.getElem?_cons_zero] <;> rfl)
      · (simp [Region.wanted, yielded]; done)
    try simp only [Act.put, List.setIfInBounds_toArray, List.set_cons_zero, List.set_cons_succ]
    first
    | apply PlanW.on
      · (simp only [List.getElem?_toArray, List.getElem?_cons_succ, List.getElem?_cons_zero] <;> rfl)
      · (simp [Region.wanted, yielded]; done)
      · (intro W hS; (try dsimp only at hS); go_simp <;> with_reducible rfl)
    | apply PlanW.off
      · (simp only [List.getElem?_toArray, List.getElem?_cons_succ, List.getElem?_cons_zero] <;> rfl)
      · (simp [Region.wanted, yielded]; done)
    try simp only [Act.put, List.setIfInBounds_toArray, List.set_cons_zero, List.set_cons_succ]
    first
    | apply PlanW.on
      · (simp only [List.getElem?_toArray, List.getElem?_cons_succ, List.getElem?_cons_zero] <;> rfl)
      · (simp [Region.wanted, yielded]; done)
      · (intro W hS; (try dsimp only at hS); go_simp <;> with_reducible rfl)
    | apply PlanW.off
      · (simp only [List.getElem?_toArray, List.getElem?_cons_succ, List.getElem?_cons_zero] <;> rfl)
      · (simp [Region.wanted, yielded]; done)
    try simp only [Act.put, List.setIfInBounds_toArray, List.set_cons_zero, List.set_cons_succ]
    apply PlanW.on
    · (simp only [List.getElem?_toArray, List.getElem?_cons_succ, List.getElem?_cons_zero] <;> rfl)
    · rfl
    · (intro W hS; (try dsimp only at hS); go_simp <;> with_reducible rfl)
    try simp only [Act.put, List.setIfInBounds_toArray, List.set_cons_zero, List.set_cons_succ]
    apply PlanW.step
    · (simp only [List.getElem?_toArray, List.getElem?_cons_succ, List.getElem?_cons_zero] <;> rfl)
    · rfl
    intro K hK
    go_simp
    (first | (go_at_call 62; (with_reducible refine (c_sizedB n.world _ _ (by omega) (by omega)).mono ?_); rintro e w3 ⟨rfl, hb3⟩; replace hb3 := bl_tt hb3) | (go_at_call 61; (with_reducible refine (c_unless _ _ _).mono ?_); rintro e w3 ⟨rfl, rfl⟩) | (go_at_call 63; (with_reducible refine (c_ordered n.world _).mono ?_); rintro e w3 ⟨rfl, hb3⟩; replace hb3 := bl_tt hb3) | (go_at_call 60; (with_reducible refine (c_first3 (Blk.new _ _ _)).mono ?_); rintro e w3 ⟨rfl, rfl⟩))
    (try dsimp only)
    refine hK.out _ _ (by solve_by_elim (maxDepth := 60) only [bl_al, bl_drew, bl_drewN, bl_refl, *]) (fun hcur => ?_)
    clear hK K
    (try dsimp only at hcur)
    try simp only [Act.put, List.setIfInBounds_toArray, List.set_cons_zero, List.set_cons_succ]
    apply PlanW.step
    · (simp only [List.getElem?_toArray, List.getElem?_cons_succ, List.getElem?_cons_zero] <;> rfl)
    · rfl
    intro K hK
    go_simp
    (first | (go_at_call 62; (with_reducible refine (c_sizedB n.world _ _ (by omega) (by omega)).mono ?_); rintro e w3 ⟨rfl, hb3⟩; replace hb3 := bl_tt hb3) | (go_at_call 61; (with_reducible refine (c_unless _ _ _).mono ?_); rintro e w3 ⟨rfl, rfl⟩) | (go_at_call 63; (with_reducible refine (c_ordered n.world _).mono ?_); rintro e w3 ⟨rfl, hb3⟩; replace hb3 := bl_tt hb3) | (go_at_call 60; (with_reducible refine (c_first3 (Blk.new _ _ _)).mono ?_); rintro e w3 ⟨rfl, rfl⟩))
    (try dsimp only)
    refine hK.out _ _ (by solve_by_elim (maxDepth := 60) only [bl_al, bl_drew, bl_drewN, bl_refl, *]) (fun hcur => ?_)
    clear hK K
    (try dsimp only at hcur)
    try simp only [Act.put, List.setIfInBounds_toArray, List.set_cons_zero, List.set_cons_succ]
    apply PlanW.step
    · (simp only [List.getElem?_toArray, List.getElem?_cons_succ, List.getElem?_cons_zero] <;> rfl)
    · rfl
    intro K hK
    go_simp
    (first | (go_at_call 62; (with_reducible refine (c_sizedB n.world _ _ (by omega) (by omega)).mono ?_); rintro e w3 ⟨rfl, hb3⟩; replace hb3 := bl_tt hb3) | (go_at_call 61; (with_reducible refine (c_unless _ _ _).mono ?_); rintro e w3 ⟨rfl, rfl⟩) | (go_at_call 63; (with_reducible refine (c_ordered n.world _).mono ?_); rintro e w3 ⟨rfl, hb3⟩; replace hb3 := bl_tt hb3) | (go_at_call 60; (with_reducible refine (c_first3 (Blk.new _ _ _)).mono ?_); rintro e w3 ⟨rfl, rfl⟩))
    (try dsimp only)
    refine hK.out _ _ (by solve_by_elim (maxDepth := 60) only [bl_al, bl_drew, bl_drewN, bl_refl, *]) (fun hcur => ?_)
    clear hK K
    (try dsimp only at hcur)
    try simp only [Act.put, List.setIfInBounds_toArray, List.set_cons_zero, List.set_cons_succ]
    apply PlanW.step
    · (simp only [List.getElem?_toArray, List.getElem?_cons_succ, List.getElem?_cons_zero] <;> rfl)
    · rfl
    intro K hK
    go_simp
    (first | (go_at_call 62; (with_reducible refine (c_sizedB n.world _ _ (by omega) (by omega)).mono ?_); rintro e w3 ⟨rfl, hb3⟩; replace hb3 := bl_tt hb3) | (go_at_call 61; (with_reducible refine (c_unless _ _ _).mono ?_); rintro e w3 ⟨rfl, rfl⟩) | (go_at_call 63; (with_reducible refine (c_ordered n.world _).mono ?_); rintro e w3 ⟨rfl, hb3⟩; replace hb3 := bl_tt hb3) | (go_at_call 60; (with_reducible refine (c_first3 (Blk.new _ _ _)).mono ?_); rintro e w3 ⟨rfl, rfl⟩))
    (try dsimp only)
    refine hK.out _ _ (by solve_by_elim (maxDepth := 60) only [bl_al, bl_drew, bl_drewN, bl_refl, *]) (fun hcur => ?_)
    clear hK K
    (try dsimp only at hcur)
    try simp only [Act.put, List.setIfInBounds_toArray, List.set_cons_zero, List.set_cons_succ]
    apply PlanW.step
    · (simp only [List.getElem?_toArray, List.getElem?_cons_succ, List.getElem?_cons_zero] <;> rfl)
    · rfl
    intro K hK
    go_simp
    refine hK.out _ _ (by solve_by_elim (maxDepth := 60) only [bl_al, bl_drew, bl_drewN, bl_refl, *]) (fun hcur => ?_)
    clear hK K
    (try dsimp only at hcur)
    try simp only [Act.put, List.setIfInBounds_toArray, List.set_cons_zero, List.set_cons_succ]
    apply PlanW.step
    · (simp only [List.getElem?_toArray, List.getElem?_cons_succ, List.getElem?_cons_zero] <;> rfl)
    · rfl
    intro K hK
    go_simp
    (first | (go_at_call 62; (with_reducible refine (c_sizedB n.world _ _ (by omega) (by omega)).mono ?_); rintro e w3 ⟨rfl, hb3⟩; replace hb3 := bl_tt hb3) | (go_at_call 61; (with_reducible refine (c_unless _ _ _).mono ?_); rintro e w3 ⟨rfl, rfl⟩) | (go_at_call 63; (with_reducible refine (c_ordered n.world _).mono ?_); rintro e w3 ⟨rfl, hb3⟩; replace hb3 := bl_tt hb3) | (go_at_call 60; (with_reducible refine (c_first3 (Blk.new _ _ _)).mono ?_); rintro e w3 ⟨rfl, rfl⟩))
    (try dsimp only)
    refine hK.out _ _ (by solve_by_elim (maxDepth := 60) only [bl_al, bl_drew, bl_drewN, bl_refl, *]) (fun hcur => ?_)
    clear hK K
    (try dsimp only at hcur)
    try simp only [Act.put, List.setIfInBounds_toArray, List.set_cons_zero, List.set_cons_succ]
    apply PlanW.on
    · (simp only [List.getElem?_toArray, List.getElem?_cons_succ, List.getElem?_cons_zero] <;> rfl)
    · rfl
    · (intro W hS; (try dsimp only at hS); go_simp <;> with_reducible rfl)
    try simp only [Act.put, List.setIfInBounds_toArray, List.set_cons_zero, List.set_cons_succ]
    refine PlanW.done ?_
    rw [hA, hB] at hwe
    simp only [Bool.false_and, Bool.true_and] at hwe
    rw [← hwe.out]
    generalize worldErr n.world nl = we at *
    by_cases h0 : we = 0
    · have h0' : (we != 0) = false := by simp [h0]
      replace h0 := Lib.hid h0
      go_wp2_with fail
      refine Calls.mono (hev.out _ ?_ ?_) ?_
      · solve_by_elim (maxDepth := 60) only [bl_al, bl_drew, bl_drewN, bl_refl, *]
      · exact L0 _ (by solve_by_elim (maxDepth := 60) only [bl_al, bl_drew, bl_drewN, bl_refl, *]) 6
      rintro e w3 ⟨rfl, hb3⟩
      replace hb3 := bl_tt hb3
      go_wp2
      go_ret2
      exact ⟨by rw [hres.out.1 h0.out] <;> rfl, by solve_by_elim (maxDepth := 60) only [bl_al, bl_drew, bl_drewN, bl_refl, *]⟩
    · have h0' : (we != 0) = true := by simp [h0]
      replace h0 := Lib.hid h0
      go_wp2
      go_ret2
      exact ⟨by rw [hres.out.2 h0.out] <;> rfl, by solve_by_elim (maxDepth := 60) only [bl_al, bl_drew, bl_drewN, bl_refl, *]⟩
end Go.Proofs.Ytephimmamkafoaa
