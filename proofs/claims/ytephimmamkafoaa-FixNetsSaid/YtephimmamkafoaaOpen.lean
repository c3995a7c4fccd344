/-
  Walk: a net opened.
-/
import Derived.Test.YtephimmamkafoaaNet
namespace Go.Proofs.Ytephimmamkafoaa
set_option linter.unusedSimpArgs false
set_option linter.unusedVariables false
open Go.RowKit Go.Shelf
attribute [local go_sem] bl_al bl_drew bl_drewN bl_refl bx_al bx_drew bx_drewN bx_refl
set_option maxRecDepth 20000
abbrev z13 : Array Value := #[.int .i64 0, .int .i64 0, .int .i64 0, .int .i64 0, .int .i64 0, .int .i64 0, .slice none 0 0, .int .i64 0, .int .i64 0, .int .i64 0, .int .i64 0, .int .i64 0, .int .i64 0]
set_option maxHeartbeats 2000000 in
theorem c_open (n : Nt) (A : Option Addr) (c : Nat) (w : World) (hn : NtIn n A c w) :
    Calls Try.prog 77 #[vNt n.world (.slice A n.bs.length c)] w (Ret (.tuple #[vON n.world (.slice A n.bs.length c), .int .i64 (netErr n)]) w) := by
  have hcn := Lib.hid fun (W : World) (hb : Below w.heap.size w W) => c_CheckNet n A c W (hn.below hb)
  clear hn
  generalize n.bs.length = nl at *
  go_enter Try.func77, Try.ntmps77
  go_wp2_with fail
  refine Calls.mono (hcn.out _ ?_) ?_
  · solve_by_elim (maxDepth := 60) only [bl_al, bl_drew, bl_drewN, bl_refl, *]
  rintro e wb ⟨rfl, hb3⟩
  have k0 := ((Blk.new w 28 (aNt n.world (.slice A nl c))).alloc (.cells z13 127)).below hb3
  have k1 := (Blk.new (w.alloc (.cells (aNt n.world (.slice A nl c)) 28)) 127 z13).below hb3
  rw [World.size_alloc] at k1
  have L0 := k0.laterX (X := [w.heap.size + 1]) (by simp)
  have hb0 : Below w.heap.size w wb := bl_tr (bl_al _ (bl_al _ (bl_refl _))) hb3
  clear hb3
  go_wp2_with fail
  refine wp_plan [(0, true), (1, true), (2, true), (5, true), (3, false), (4, true), (6, false), (7, true)] (fun W => BX [w.heap.size + 1] wb W) (by kernel_rfl) (by kernel_rfl) (by kernel_rfl) (by solve_by_elim (maxDepth := 80) only [bx_al, bx_drew, bx_drewN, bx_refl, bx_set1, bx_set2, bx_set3, *]) ?_
  apply PlanW.on
  · (simp only [List.getElem?_toArray, List.getElem?_cons_succ, List.getElem?_cons_zero] <;> rfl)
  · rfl
  · (intro W hS; (try dsimp only at hS); go_simp <;> with_reducible rfl)
  try simp only [Act.put, List.setIfInBounds_toArray, List.set_cons_zero, List.set_cons_succ]
  apply PlanW.on
  · (simp only [List.getElem?_toArray, List.getElem?_cons_succ, List.getElem?_cons_zero] <;> rfl)
  · rfl
  · (intro W hS; (try dsimp only at hS); go_simp <;> with_reducible rfl)
  try simp only [Act.put, List.setIfInBounds_toArray, List.set_cons_zero, List.set_cons_succ]
  apply PlanW.on
  · (simp only [List.getElem?_toArray, List.getElem?_cons_succ, List.getElem?_cons_zero] <;> rfl)
  · rfl
  · (intro W hS; (try dsimp only at hS); go_simp <;> with_reducible rfl)
  try simp only [Act.put, List.setIfInBounds_toArray, List.set_cons_zero, List.set_cons_succ]
  apply PlanW.on
  · (simp only [List.getElem?_toArray, List.getElem?_cons_succ, List.getElem?_cons_zero] <;> rfl)
  · rfl
  · (intro W hS; (try dsimp only at hS); go_simp <;> with_reducible rfl)
  try simp only [Act.put, List.setIfInBounds_toArray, List.set_cons_zero, List.set_cons_succ]
  apply PlanW.step
  · (simp only [List.getElem?_toArray, List.getElem?_cons_succ, List.getElem?_cons_zero] <;> rfl)
  · rfl
  intro K hK
  go_simp
  (first | (go_at_call 59; (with_reducible refine (c_of n.world _).mono ?_); rintro e w3 ⟨rfl, hb3⟩; replace hb3 := bx_tt hb3))
  (try dsimp only)
  refine hK.out _ _ (by solve_by_elim (maxDepth := 80) only [bx_al, bx_drew, bx_drewN, bx_refl, bx_set1, bx_set2, bx_set3, *]) (fun hcur => ?_)
  clear hK K
  (try dsimp only at hcur)
  try simp only [Act.put, List.setIfInBounds_toArray, List.set_cons_zero, List.set_cons_succ]
  apply PlanW.on
  · (simp only [List.getElem?_toArray, List.getElem?_cons_succ, List.getElem?_cons_zero] <;> rfl)
  · rfl
  · (intro W hS; (try dsimp only at hS); go_simp <;> with_reducible rfl)
  try simp only [Act.put, List.setIfInBounds_toArray, List.set_cons_zero, List.set_cons_succ]
  apply PlanW.step
  · (simp only [List.getElem?_toArray, List.getElem?_cons_succ, List.getElem?_cons_zero] <;> rfl)
  · rfl
  intro K hK
  refine wp_store_keep (X := [w.heap.size + 1]) (w0 := wb) rfl rfl rfl (by solve_by_elim (maxDepth := 80) only [bx_al, bx_drew, bx_drewN, bx_refl, bx_set1, bx_set2, bx_set3, *]) (by assumption) (by simp) (by kernel_rfl) (by rfl) (by simp [Value.oneCell']) (fun hres1 hcur => ?_)
  refine hK.out _ _ hcur (fun _ => ?_)
  clear hK K
  try simp only [Act.put, List.setIfInBounds_toArray, List.set_cons_zero, List.set_cons_succ]
  apply PlanW.on
  · (simp only [List.getElem?_toArray, List.getElem?_cons_succ, List.getElem?_cons_zero] <;> rfl)
  · rfl
  · (intro W hS; (try dsimp only at hS); go_simp <;> with_reducible rfl)
  try simp only [Act.put, List.setIfInBounds_toArray, List.set_cons_zero, List.set_cons_succ]
  refine PlanW.done ?_
  have hr := hres1.cell
  go_wp2
  refine bodyPost_ret (v := .tuple #[vON n.world (.slice A nl c), .int .i64 (netErr n)]) (by simp [results, Try.results77, go_sem, hr, netErr]) rfl ⟨rfl, ?_⟩
  exact hcur.below (by simp) hb0
end Go.Proofs.Ytephimmamkafoaa
