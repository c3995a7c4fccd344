/-
  Walk: what two boxes have in common.
-/
import Derived.Test.YtephimmamkafoaaPlan
import Derived.Test.YtephimmamkafoaaSides
import Derived.Lib.MinMax
namespace Go.Proofs.Ytephimmamkafoaa
set_option linter.unusedSimpArgs false
set_option linter.unusedVariables false
open Go.RowKit Go.Shelf
attribute [local go_sem] bl_al bl_drew bl_drewN bl_refl bx_al bx_drew bx_drewN bx_refl index_b0 index_b1 index_b2
set_option maxRecDepth 20000
set_option maxHeartbeats 2000000 in
theorem c_meet (a o : Bx) (w : World) : Calls Try.prog 119 #[vBx a, vBx o] w (Ret (.tuple #[vBx (a.meet o), .bool (a.meet o).ordered]) w) := by
  go_enter Try.func119, Try.ntmps119
  go_wp2
  refine absC (C := fun W => Below w.heap.size w W ∧ Blk W w.heap.size 111 #[.int .i64 a.x.lo, .int .i64 a.x.hi, .int .i64 a.y.lo, .int .i64 a.y.hi, .int .i64 a.z.lo, .int .i64 a.z.hi] ∧ Blk W (w.heap.size + 2) 111 z6) ⟨by solve_by_elim (maxDepth := 60) only [bl_al, bl_drew, bl_drewN, bl_refl, bl_setA, bl_setB, *], by (with_reducible repeat' (first | assumption | exact Blk.newAt (by simp; done) | refine Blk.alloc ?_ _ | refine Blk.drew ?_ | refine Blk.drewN ?_ _ | refine Blk.other ?_ (by first | (simp; done) | (simp; omega)) _ | exact Blk.set2 (by assumption) (by simp; done) | exact Blk.set1 (by assumption) (by simp; done))), by (with_reducible repeat' (first | assumption | exact Blk.newAt (by simp; done) | refine Blk.alloc ?_ _ | refine Blk.drew ?_ | refine Blk.drewN ?_ _ | refine Blk.other ?_ (by first | (simp; done) | (simp; omega)) _ | exact Blk.set2 (by assumption) (by simp; done) | exact Blk.set1 (by assumption) (by simp; done)))⟩ (fun wa hw => ?_)
  obtain ⟨hb0, k0, k2⟩ := hw
  have hlt := k2.lt
  refine wp_loop_rounds 4 ?_
  rw [rounds_succ]
  go_wp2
  refine wp_tailC (C := fun W => Below w.heap.size w W ∧ Blk W w.heap.size 111 #[.int .i64 a.x.lo, .int .i64 a.x.hi, .int .i64 a.y.lo, .int .i64 a.y.hi, .int .i64 a.z.lo, .int .i64 a.z.hi] ∧ Blk W (w.heap.size + 2) 111 z6 ∧ Blk W wa.heap.size 23 #[.int .i64 o.x.lo, .int .i64 o.x.hi]) 17 (by kernel_rfl) (by kernel_rfl) ⟨by solve_by_elim (maxDepth := 60) only [bl_al, bl_drew, bl_drewN, bl_refl, bl_setA, bl_setB, *], by (with_reducible repeat' (first | assumption | exact Blk.newAt (by simp; done) | refine Blk.alloc ?_ _ | refine Blk.drew ?_ | refine Blk.drewN ?_ _ | refine Blk.other ?_ (by first | (simp; done) | (simp; omega)) _ | exact Blk.set2 (by assumption) (by simp; done) | exact Blk.set1 (by assumption) (by simp; done))), by (with_reducible repeat' (first | assumption | exact Blk.newAt (by simp; done) | refine Blk.alloc ?_ _ | refine Blk.drew ?_ | refine Blk.drewN ?_ _ | refine Blk.other ?_ (by first | (simp; done) | (simp; omega)) _ | exact Blk.set2 (by assumption) (by simp; done) | exact Blk.set1 (by assumption) (by simp; done))), by (with_reducible repeat' (first | assumption | exact Blk.newAt (by simp; done) | refine Blk.alloc ?_ _ | refine Blk.drew ?_ | refine Blk.drewN ?_ _ | refine Blk.other ?_ (by first | (simp; done) | (simp; omega)) _ | exact Blk.set2 (by assumption) (by simp; done) | exact Blk.set1 (by assumption) (by simp; done)))⟩ (fun wb hw => ?_)
  clear hb0 k0 k2
  obtain ⟨hb0, k0, k2, k7⟩ := hw
  have L0 := k0.cell
  have F0 := k0.frozen
  have L7 := k7.cell
  simp only [List.take_succ_cons, List.take_zero, List.drop_succ_cons, List.drop_zero]
  repeat still_step
  refine wpStill_nil ?_
  go_wp2
  refine absR (C := fun W => Below w.heap.size w W ∧ Blk W w.heap.size 111 #[.int .i64 (max a.x.lo o.x.lo), .int .i64 (min a.x.hi o.x.hi), .int .i64 a.y.lo, .int .i64 a.y.hi, .int .i64 a.z.lo, .int .i64 a.z.hi] ∧ Blk W (w.heap.size + 2) 111 z6) ⟨by solve_by_elim (maxDepth := 60) only [bl_al, bl_drew, bl_drewN, bl_refl, bl_setA, bl_setB, *], by (with_reducible repeat' (first | assumption | exact Blk.newAt (by simp; done) | refine Blk.alloc ?_ _ | refine Blk.drew ?_ | refine Blk.drewN ?_ _ | refine Blk.other ?_ (by first | (simp; done) | (simp; omega)) _ | exact Blk.set2 (by assumption) (by simp; done) | exact Blk.set1 (by assumption) (by simp; done))), by (with_reducible repeat' (first | assumption | exact Blk.newAt (by simp; done) | refine Blk.alloc ?_ _ | refine Blk.drew ?_ | refine Blk.drewN ?_ _ | refine Blk.other ?_ (by first | (simp; done) | (simp; omega)) _ | exact Blk.set2 (by assumption) (by simp; done) | exact Blk.set1 (by assumption) (by simp; done)))⟩ (fun wa hw => ?_)
  clear hb0 k0 k2 L0 F0 L7 k7 hlt
  obtain ⟨hb0, k0, k2⟩ := hw
  have hlt := k2.lt
  rw [rounds_succ]
  go_wp2
  refine wp_tailC (C := fun W => Below w.heap.size w W ∧ Blk W w.heap.size 111 #[.int .i64 (max a.x.lo o.x.lo), .int .i64 (min a.x.hi o.x.hi), .int .i64 a.y.lo, .int .i64 a.y.hi, .int .i64 a.z.lo, .int .i64 a.z.hi] ∧ Blk W (w.heap.size + 2) 111 z6 ∧ Blk W wa.heap.size 23 #[.int .i64 o.y.lo, .int .i64 o.y.hi]) 17 (by kernel_rfl) (by kernel_rfl) ⟨by solve_by_elim (maxDepth := 60) only [bl_al, bl_drew, bl_drewN, bl_refl, bl_setA, bl_setB, *], by (with_reducible repeat' (first | assumption | exact Blk.newAt (by simp; done) | refine Blk.alloc ?_ _ | refine Blk.drew ?_ | refine Blk.drewN ?_ _ | refine Blk.other ?_ (by first | (simp; done) | (simp; omega)) _ | exact Blk.set2 (by assumption) (by simp; done) | exact Blk.set1 (by assumption) (by simp; done))), by (with_reducible repeat' (first | assumption | exact Blk.newAt (by simp; done) | refine Blk.alloc ?_ _ | refine Blk.drew ?_ | refine Blk.drewN ?_ _ | refine Blk.other ?_ (by first | (simp; done) | (simp; omega)) _ | exact Blk.set2 (by assumption) (by simp; done) | exact Blk.set1 (by assumption) (by simp; done))), by (with_reducible repeat' (first | assumption | exact Blk.newAt (by simp; done) | refine Blk.alloc ?_ _ | refine Blk.drew ?_ | refine Blk.drewN ?_ _ | refine Blk.other ?_ (by first | (simp; done) | (simp; omega)) _ | exact Blk.set2 (by assumption) (by simp; done) | exact Blk.set1 (by assumption) (by simp; done)))⟩ (fun wb hw => ?_)
  clear hb0 k0 k2
  obtain ⟨hb0, k0, k2, k7⟩ := hw
  have L0 := k0.cell
  have F0 := k0.frozen
  have L7 := k7.cell
  simp only [List.take_succ_cons, List.take_zero, List.drop_succ_cons, List.drop_zero]
  repeat still_step
  refine wpStill_nil ?_
  go_wp2
  refine absR (C := fun W => Below w.heap.size w W ∧ Blk W w.heap.size 111 #[.int .i64 (max a.x.lo o.x.lo), .int .i64 (min a.x.hi o.x.hi), .int .i64 (max a.y.lo o.y.lo), .int .i64 (min a.y.hi o.y.hi), .int .i64 a.z.lo, .int .i64 a.z.hi] ∧ Blk W (w.heap.size + 2) 111 z6) ⟨by solve_by_elim (maxDepth := 60) only [bl_al, bl_drew, bl_drewN, bl_refl, bl_setA, bl_setB, *], by (with_reducible repeat' (first | assumption | exact Blk.newAt (by simp; done) | refine Blk.alloc ?_ _ | refine Blk.drew ?_ | refine Blk.drewN ?_ _ | refine Blk.other ?_ (by first | (simp; done) | (simp; omega)) _ | exact Blk.set2 (by assumption) (by simp; done) | exact Blk.set1 (by assumption) (by simp; done))), by (with_reducible repeat' (first | assumption | exact Blk.newAt (by simp; done) | refine Blk.alloc ?_ _ | refine Blk.drew ?_ | refine Blk.drewN ?_ _ | refine Blk.other ?_ (by first | (simp; done) | (simp; omega)) _ | exact Blk.set2 (by assumption) (by simp; done) | exact Blk.set1 (by assumption) (by simp; done)))⟩ (fun wa hw => ?_)
  clear hb0 k0 k2 L0 F0 L7 k7 hlt
  obtain ⟨hb0, k0, k2⟩ := hw
  have hlt := k2.lt
  rw [rounds_succ]
  go_wp2
  refine wp_tailC (C := fun W => Below w.heap.size w W ∧ Blk W w.heap.size 111 #[.int .i64 (max a.x.lo o.x.lo), .int .i64 (min a.x.hi o.x.hi), .int .i64 (max a.y.lo o.y.lo), .int .i64 (min a.y.hi o.y.hi), .int .i64 a.z.lo, .int .i64 a.z.hi] ∧ Blk W (w.heap.size + 2) 111 z6 ∧ Blk W wa.heap.size 23 #[.int .i64 o.z.lo, .int .i64 o.z.hi]) 17 (by kernel_rfl) (by kernel_rfl) ⟨by solve_by_elim (maxDepth := 60) only [bl_al, bl_drew, bl_drewN, bl_refl, bl_setA, bl_setB, *], by (with_reducible repeat' (first | assumption | exact Blk.newAt (by simp; done) | refine Blk.alloc ?_ _ | refine Blk.drew ?_ | refine Blk.drewN ?_ _ | refine Blk.other ?_ (by first | (simp; done) | (simp; omega)) _ | exact Blk.set2 (by assumption) (by simp; done) | exact Blk.set1 (by assumption) (by simp; done))), by (with_reducible repeat' (first | assumption | exact Blk.newAt (by simp; done) | refine Blk.alloc ?_ _ | refine Blk.drew ?_ | refine Blk.drewN ?_ _ | refine Blk.other ?_ (by first | (simp; done) | (simp; omega)) _ | exact Blk.set2 (by assumption) (by simp; done) | exact Blk.set1 (by assumption) (by simp; done))), by (with_reducible repeat' (first | assumption | exact Blk.newAt (by simp; done) | refine Blk.alloc ?_ _ | refine Blk.drew ?_ | refine Blk.drewN ?_ _ | refine Blk.other ?_ (by first | (simp; done) | (simp; omega)) _ | exact Blk.set2 (by assumption) (by simp; done) | exact Blk.set1 (by assumption) (by simp; done)))⟩ (fun wb hw => ?_)
  clear hb0 k0 k2
  obtain ⟨hb0, k0, k2, k7⟩ := hw
  have L0 := k0.cell
  have F0 := k0.frozen
  have L7 := k7.cell
  simp only [List.take_succ_cons, List.take_zero, List.drop_succ_cons, List.drop_zero]
  repeat still_step
  refine wpStill_nil ?_
  go_wp2
  refine absR (C := fun W => Below w.heap.size w W ∧ Blk W w.heap.size 111 #[.int .i64 (max a.x.lo o.x.lo), .int .i64 (min a.x.hi o.x.hi), .int .i64 (max a.y.lo o.y.lo), .int .i64 (min a.y.hi o.y.hi), .int .i64 (max a.z.lo o.z.lo), .int .i64 (min a.z.hi o.z.hi)] ∧ Blk W (w.heap.size + 2) 111 z6) ⟨by solve_by_elim (maxDepth := 60) only [bl_al, bl_drew, bl_drewN, bl_refl, bl_setA, bl_setB, *], by (with_reducible repeat' (first | assumption | exact Blk.newAt (by simp; done) | refine Blk.alloc ?_ _ | refine Blk.drew ?_ | refine Blk.drewN ?_ _ | refine Blk.other ?_ (by first | (simp; done) | (simp; omega)) _ | exact Blk.set2 (by assumption) (by simp; done) | exact Blk.set1 (by assumption) (by simp; done))), by (with_reducible repeat' (first | assumption | exact Blk.newAt (by simp; done) | refine Blk.alloc ?_ _ | refine Blk.drew ?_ | refine Blk.drewN ?_ _ | refine Blk.other ?_ (by first | (simp; done) | (simp; omega)) _ | exact Blk.set2 (by assumption) (by simp; done) | exact Blk.set1 (by assumption) (by simp; done)))⟩ (fun wa hw => ?_)
  clear hb0 k0 k2 L0 F0 L7 k7 hlt
  obtain ⟨hb0, k0, k2⟩ := hw
  have hlt := k2.lt
  rw [rounds_succ]
  go_wp2
  refine absC (C := fun W => Below w.heap.size w W ∧ Blk W w.heap.size 111 #[.int .i64 (max a.x.lo o.x.lo), .int .i64 (min a.x.hi o.x.hi), .int .i64 (max a.y.lo o.y.lo), .int .i64 (min a.y.hi o.y.hi), .int .i64 (max a.z.lo o.z.lo), .int .i64 (min a.z.hi o.z.hi)] ∧ Blk W (w.heap.size + 2) 111 z6) ⟨hb0, k0, k2⟩ (fun wb hw => ?_)
  clear hb0 k0 k2
  obtain ⟨hb0, k0, k2⟩ := hw
  have L0 := k0.laterX (X := [w.heap.size + 2]) (by simp)
  clear k0
  refine wp_plan [(0, true), (1, true), (2, false), (3, false), (4, true)] (fun W => BX [w.heap.size + 2] wb W) (by kernel_rfl) (by kernel_rfl) (by kernel_rfl) (by solve_by_elim (maxDepth := 80) only [bx_al, bx_drew, bx_drewN, bx_refl, bx_set1, bx_set2, bx_set3, *]) ?_
  apply PlanW.on
  · (simp only [List.getElem?_toArray, List.getElem?_cons_succ, List.getElem?_cons_zero] <;> rfl)
  · rfl
  · (intro W hS; (try dsimp only at hS); go_simp <;> with_reducible rfl)
  try simp only [Act.put, List.setIfInBounds_toArray, List.set_cons_zero, List.set_cons_succ]
  apply PlanW.on
  · (simp only [List.getElem?_toArray, List.getElem?_cons_succ, List.getElem?_cons_zero] <;> rfl)
  · rfl
  · (intro W hS; (try dsimp only at hS); go_simp <;> with_reducible rfl)
  try simp only [Act.put, List.setIfInBounds_toArray, List.set_cons_zero, List.set_cons_succ]
  apply PlanW.step
  · (simp only [List.getElem?_toArray, List.getElem?_cons_succ, List.getElem?_cons_zero] <;> rfl)
  · rfl
  intro K hK
  go_simp
  (first | (go_at_call 63; (with_reducible refine (c_ordered ⟨⟨max a.x.lo o.x.lo, min a.x.hi o.x.hi⟩, ⟨max a.y.lo o.y.lo, min a.y.hi o.y.hi⟩, ⟨max a.z.lo o.z.lo, min a.z.hi o.z.hi⟩⟩ _).mono ?_); rintro e w3 ⟨rfl, hb3⟩; replace hb3 := bx_tt hb3))
  (try dsimp only)
  refine hK.out _ _ (by solve_by_elim (maxDepth := 80) only [bx_al, bx_drew, bx_drewN, bx_refl, bx_set1, bx_set2, bx_set3, *]) (fun hcur => ?_)
  clear hK K
  (try dsimp only at hcur)
  try simp only [Act.put, List.setIfInBounds_toArray, List.set_cons_zero, List.set_cons_succ]
  apply PlanW.step
  · (simp only [List.getElem?_toArray, List.getElem?_cons_succ, List.getElem?_cons_zero] <;> rfl)
  · rfl
  intro K hK
  refine wp_store_keep (X := [w.heap.size + 2]) (w0 := wb) rfl rfl rfl (by solve_by_elim (maxDepth := 80) only [bx_al, bx_drew, bx_drewN, bx_refl, bx_set1, bx_set2, bx_set3, *]) (by assumption) (by simp) (by kernel_rfl) (by rfl) (by simp [Value.oneCell']) (fun hres1 hcur => ?_)
  refine hK.out _ _ hcur (fun _ => ?_)
  clear hK K
  try simp only [Act.put, List.setIfInBounds_toArray, List.set_cons_zero, List.set_cons_succ]
  apply PlanW.on
  · (simp only [List.getElem?_toArray, List.getElem?_cons_succ, List.getElem?_cons_zero] <;> rfl)
  · rfl
  · (intro W hS; (try dsimp only at hS); go_simp <;> with_reducible rfl)
  try simp only [Act.put, List.setIfInBounds_toArray, List.set_cons_zero, List.set_cons_succ]
  refine PlanW.done ?_
  have hr := hres1.cell
  go_wp2
  refine bodyPost_ret (v := .tuple #[vBx (a.meet o), .bool (a.meet o).ordered]) (by simp [results, Try.results119, go_sem, hr, Bx.meet, Rg.meet]) rfl ⟨rfl, ?_⟩
  exact hcur.below (by simp) hb0
end Go.Proofs.Ytephimmamkafoaa
