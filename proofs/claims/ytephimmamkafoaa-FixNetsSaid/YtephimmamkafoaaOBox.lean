/-
  Walk: a net and a box in it opened.
-/
import Derived.Test.YtephimmamkafoaaErrs
namespace Go.Proofs.Ytephimmamkafoaa
set_option linter.unusedSimpArgs false
set_option linter.unusedVariables false
open Go.RowKit Go.Shelf
attribute [local go_sem] bl_al bl_drew bl_drewN bl_refl bx_al bx_drew bx_drewN bx_refl
set_option maxRecDepth 20000
theorem obErr (n : Nt) (b : Bx) : fstE [netErr n, boxErr n b] = boxErr n b := by
  have h : ∀ (a : Int) (l : List Int), fstE [a, fstE (a :: l)] = fstE (a :: l) := fun a l => by
    by_cases h : a = 0
    · simp only [fstE, h, if_true]
      split
      · omega
      · rfl
    · simp [fstE, h]
  exact h _ _
set_option maxHeartbeats 2000000 in
theorem c_openBox (n : Nt) (b : Bx) (A : Option Addr) (c : Nat) (w : World) (hn : NtIn n A c w) :
    Calls Try.prog 81 #[vNt n.world (.slice A n.bs.length c), vBx b] w (Ret (.tuple #[vON n.world (.slice A n.bs.length c), vBx b, .int .i64 (boxErr n b)]) w) := by
  have hcn := Lib.hid fun (W : World) (hb : Below w.heap.size w W) => c_open n A c W (hn.below hb)
  have hcb := Lib.hid fun (W : World) (hb : Below w.heap.size w W) => c_CheckBox n b A c W (hn.below hb)
  have hr := Lib.hid (obErr n b)
  clear hn
  generalize n.bs.length = nl at *
  go_enter Try.func81, Try.ntmps81
  go_wp2_with fail
  refine Calls.mono (hcn.out _ ?_) ?_
  · solve_by_elim (maxDepth := 60) only [bl_al, bl_drew, bl_drewN, bl_refl, *]
  rintro e w3 ⟨rfl, hb3⟩
  have k0 := ((((Blk.new w 28 (aNt n.world (.slice A nl c))).alloc (.cells (aBx b) 25)).alloc (.cells z13 127)).alloc (.cells z6 111)).below hb3
  have k1 := (((Blk.new (w.alloc (.cells (aNt n.world (.slice A nl c)) 28)) 25 (aBx b)).alloc (.cells z13 127)).alloc (.cells z6 111)).below hb3
  have k2 := ((Blk.new ((w.alloc (.cells (aNt n.world (.slice A nl c)) 28)).alloc (.cells (aBx b) 25)) 127 z13).alloc (.cells z6 111)).below hb3
  have k3 := (Blk.new (((w.alloc (.cells (aNt n.world (.slice A nl c)) 28)).alloc (.cells (aBx b) 25)).alloc (.cells z13 127)) 111 z6).below hb3
  simp only [World.size_alloc] at k1 k2 k3
  have hlt : w.heap.size + 4 ≤ w3.heap.size := by have := hb3.size; simp at this; omega
  replace hb3 := bl_tt hb3
  go_wp2_with fail
  refine abs1 (fun wb hb k4 => ?_)
  have L0 := (k0.below hb).laterX (X := [w.heap.size + 2, w.heap.size + 3]) (by simp)
  have L1 := (k1.below hb).laterX (X := [w.heap.size + 2, w.heap.size + 3]) (by simp)
  have L4 := k4.laterX (X := [w.heap.size + 2, w.heap.size + 3]) (by simp; omega)
  replace k2 := k2.below hb
  replace k3 := k3.below hb
  replace hb := bl_tt hb
  have hb0 : Below w.heap.size w wb := by solve_by_elim (maxDepth := 60) only [bl_al, bl_drew, bl_drewN, bl_refl, *]
  clear k0 k1 k4 hlt
  refine wp_plan [(0, true), (1, true), (3, true), (4, true), (5, true), (2, false), (6, false), (7, false), (8, false), (9, false), (10, false), (11, true)] (fun W => BX [w.heap.size + 2, w.heap.size + 3] wb W) (by kernel_rfl) (by kernel_rfl) (by kernel_rfl) (by solve_by_elim (maxDepth := 80) only [bx_al, bx_drew, bx_drewN, bx_refl, bx_set1, bx_set2, bx_set3, *]) ?_
  apply PlanW.on
  · (simp only [List.getElem?_toArray, List.getElem?_cons_succ, List.getElem?_cons_zero] <;> rfl)
  · rfl
  · (intro W hS; (try dsimp only at hS); go_simp <;> with_reducible rfl)
  try simp only [Act.put, List.setIfInBounds_toArray, List.set_cons_zero, List.set_cons_succ]
  apply PlanW.on
  · (simp only [List.getElem?_toArray, List.getElem?_cons_succ, List.getElem?_cons_zero] <;> rfl)
  · rfl
  · (intro W hS; (try dsimp only at hS); go_simp <;> with_reducible rfl)
  try simp only [Act.put, List.setIfInBounds_toArray, List.set_cons_zero, List.set_cons_succ]
  apply PlanW.on
  · (simp only [List.getElem?_toArray, List.getElem?_cons_succ, List.getElem?_cons_zero] <;> rfl)
  · rfl
  · (intro W hS; (try dsimp only at hS); go_simp <;> with_reducible rfl)
  try simp only [Act.put, List.setIfInBounds_toArray, List.set_cons_zero, List.set_cons_succ]
  apply PlanW.on
  · (simp only [List.getElem?_toArray, List.getElem?_cons_succ, List.getElem?_cons_zero] <;> rfl)
  · rfl
  · (intro W hS; (try dsimp only at hS); go_simp <;> with_reducible rfl)
  try simp only [Act.put, List.setIfInBounds_toArray, List.set_cons_zero, List.set_cons_succ]
  apply PlanW.on
  · (simp only [List.getElem?_toArray, List.getElem?_cons_succ, List.getElem?_cons_zero] <;> rfl)
  · rfl
  · (intro W hS; (try dsimp only at hS); go_simp <;> with_reducible rfl)
  try simp only [Act.put, List.setIfInBounds_toArray, List.set_cons_zero, List.set_cons_succ]
  apply PlanW.step
  · (simp only [List.getElem?_toArray, List.getElem?_cons_succ, List.getElem?_cons_zero] <;> rfl)
  · rfl
  intro K hK
  go_simp
  (first | (go_at_call 59; (with_reducible refine (c_of b _).mono ?_); rintro e w3 ⟨rfl, hb3⟩; replace hb3 := bx_tt hb3) | (go_at_call 16; refine Calls.mono (hcb.out _ ?_) ?_; exact BX.below (X := [w.heap.size + 2, w.heap.size + 3]) (by simp) hb0 (by solve_by_elim (maxDepth := 80) only [bx_al, bx_drew, bx_drewN, bx_refl, bx_set1, bx_set2, bx_set3, *]); rintro e w3 ⟨rfl, hb3⟩; replace hb3 := bx_tt hb3) | (go_at_call 60; (with_reducible refine (c_first2 (Blk.new _ _ _)).mono ?_); rintro e w3 ⟨rfl, rfl⟩))
  (try dsimp only)
  refine hK.out _ _ (by solve_by_elim (maxDepth := 80) only [bx_al, bx_drew, bx_drewN, bx_refl, bx_set1, bx_set2, bx_set3, *]) (fun hcur => ?_)
  clear hK K
  (try dsimp only at hcur)
  try simp only [Act.put, List.setIfInBounds_toArray, List.set_cons_zero, List.set_cons_succ]
  apply PlanW.step
  · (simp only [List.getElem?_toArray, List.getElem?_cons_succ, List.getElem?_cons_zero] <;> rfl)
  · rfl
  intro K hK
  go_simp
  (first | (go_at_call 59; (with_reducible refine (c_of b _).mono ?_); rintro e w3 ⟨rfl, hb3⟩; replace hb3 := bx_tt hb3) | (go_at_call 16; refine Calls.mono (hcb.out _ ?_) ?_; exact BX.below (X := [w.heap.size + 2, w.heap.size + 3]) (by simp) hb0 (by solve_by_elim (maxDepth := 80) only [bx_al, bx_drew, bx_drewN, bx_refl, bx_set1, bx_set2, bx_set3, *]); rintro e w3 ⟨rfl, hb3⟩; replace hb3 := bx_tt hb3) | (go_at_call 60; (with_reducible refine (c_first2 (Blk.new _ _ _)).mono ?_); rintro e w3 ⟨rfl, rfl⟩))
  (try dsimp only)
  refine hK.out _ _ (by solve_by_elim (maxDepth := 80) only [bx_al, bx_drew, bx_drewN, bx_refl, bx_set1, bx_set2, bx_set3, *]) (fun hcur => ?_)
  clear hK K
  (try dsimp only at hcur)
  try simp only [Act.put, List.setIfInBounds_toArray, List.set_cons_zero, List.set_cons_succ]
  apply PlanW.step
  · (simp only [List.getElem?_toArray, List.getElem?_cons_succ, List.getElem?_cons_zero] <;> rfl)
  · rfl
  intro K hK
  go_simp
  refine hK.out _ _ (by solve_by_elim (maxDepth := 80) only [bx_al, bx_drew, bx_drewN, bx_refl, bx_set1, bx_set2, bx_set3, *]) (fun hcur => ?_)
  clear hK K
  (try dsimp only at hcur)
  try simp only [Act.put, List.setIfInBounds_toArray, List.set_cons_zero, List.set_cons_succ]
  apply PlanW.step
  · (simp only [List.getElem?_toArray, List.getElem?_cons_succ, List.getElem?_cons_zero] <;> rfl)
  · rfl
  intro K hK
  go_simp
  (first | (go_at_call 59; (with_reducible refine (c_of b _).mono ?_); rintro e w3 ⟨rfl, hb3⟩; replace hb3 := bx_tt hb3) | (go_at_call 16; refine Calls.mono (hcb.out _ ?_) ?_; exact BX.below (X := [w.heap.size + 2, w.heap.size + 3]) (by simp) hb0 (by solve_by_elim (maxDepth := 80) only [bx_al, bx_drew, bx_drewN, bx_refl, bx_set1, bx_set2, bx_set3, *]); rintro e w3 ⟨rfl, hb3⟩; replace hb3 := bx_tt hb3) | (go_at_call 60; (with_reducible refine (c_first2 (Blk.new _ _ _)).mono ?_); rintro e w3 ⟨rfl, rfl⟩))
  (try dsimp only)
  refine hK.out _ _ (by solve_by_elim (maxDepth := 80) only [bx_al, bx_drew, bx_drewN, bx_refl, bx_set1, bx_set2, bx_set3, *]) (fun hcur => ?_)
  clear hK K
  (try dsimp only at hcur)
  try simp only [Act.put, List.setIfInBounds_toArray, List.set_cons_zero, List.set_cons_succ]
  apply PlanW.step
  · (simp only [List.getElem?_toArray, List.getElem?_cons_succ, List.getElem?_cons_zero] <;> rfl)
  · rfl
  intro K hK
  refine wp_store_keep (X := [w.heap.size + 2, w.heap.size + 3]) (w0 := wb) rfl rfl rfl (by solve_by_elim (maxDepth := 80) only [bx_al, bx_drew, bx_drewN, bx_refl, bx_set1, bx_set2, bx_set3, *]) (by assumption) (by simp) (by kernel_rfl) (by rfl) (by simp [Value.oneCell']) (fun hres1 hcur => ?_)
  refine hK.out _ _ hcur (fun _ => ?_)
  clear hK K
  try simp only [Act.put, List.setIfInBounds_toArray, List.set_cons_zero, List.set_cons_succ]
  apply PlanW.step
  · (simp only [List.getElem?_toArray, List.getElem?_cons_succ, List.getElem?_cons_zero] <;> rfl)
  · rfl
  intro K hK
  refine wp_store_keep (X := [w.heap.size + 2, w.heap.size + 3]) (w0 := wb) rfl rfl rfl (by solve_by_elim (maxDepth := 80) only [bx_al, bx_drew, bx_drewN, bx_refl, bx_set1, bx_set2, bx_set3, *]) (by assumption) (by simp) (by kernel_rfl) (by rfl) (by simp [Value.oneCell']) (fun hres2 hcur => ?_)
  refine hK.out _ _ hcur (fun _ => ?_)
  clear hK K
  try simp only [Act.put, List.setIfInBounds_toArray, List.set_cons_zero, List.set_cons_succ]
  apply PlanW.on
  · (simp only [List.getElem?_toArray, List.getElem?_cons_succ, List.getElem?_cons_zero] <;> rfl)
  · rfl
  · (intro W hS; (try dsimp only at hS); go_simp <;> with_reducible rfl)
  try simp only [Act.put, List.setIfInBounds_toArray, List.set_cons_zero, List.set_cons_succ]
  refine PlanW.done ?_
  have hr2 := hres2.cell
  have hr1 := fun vs => (hres1.rowOther (g' := w.heap.size + 3) (by omega) vs).cell
  go_wp2
  refine bodyPost_ret (v := .tuple #[vON n.world (.slice A nl c), vBx b, .int .i64 (boxErr n b)]) (by simp [results, Try.results81, go_sem, hr1, hr2, hr.out]) rfl ⟨rfl, ?_⟩
  exact hcur.below (by simp) hb0
end Go.Proofs.Ytephimmamkafoaa
