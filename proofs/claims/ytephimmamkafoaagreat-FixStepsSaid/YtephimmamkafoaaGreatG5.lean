/-
  Walk: what two boxes have in common.
  Walk: a net opened.
  Walks: whether a position lies in a box, whether there is a beacon with an index.
  Walks: the errors of moves and of boxes.
  Walk: a net and a box in it opened.
-/
import Derived.Test.YtephimmamkafoaaGreatG1
import Derived.Test.YtephimmamkafoaaGreatG4
import Derived.Lib.MinMax
namespace Go.Proofs.YtephimmamkafoaaGreat
set_option linter.unusedSimpArgs false
set_option linter.unusedVariables false
open Go.RowKit Go.Shelf
attribute [local go_sem] bl_al bl_drew bl_drewN bl_refl bx_al bx_drew bx_drewN bx_refl index_b0 index_b1 index_b2
set_option maxRecDepth 20000
set_option maxHeartbeats 2000000 in
theorem c_meet (a o : Bx) (w : World) : Calls Tryz.prog 67 #[vBx a, vBx o] w (Ret (.tuple #[vBx (a.meet o), .bool (a.meet o).ordered]) w) := by
  go_enter Tryz.func67, Tryz.ntmps67
  go_wp2
  refine absC (C := fun W => Below w.heap.size w W ∧ Blk W w.heap.size 92 #[.int .i64 a.x.lo, .int .i64 a.x.hi, .int .i64 a.y.lo, .int .i64 a.y.hi, .int .i64 a.z.lo, .int .i64 a.z.hi] ∧ Blk W (w.heap.size + 2) 92 z6) ⟨by solve_by_elim (maxDepth := 60) only [bl_al, bl_drew, bl_drewN, bl_refl, bl_setA, bl_setB, *], by (with_reducible repeat' (first | assumption | exact Blk.newAt (by simp; done) | refine Blk.alloc ?_ _ | refine Blk.drew ?_ | refine Blk.drewN ?_ _ | refine Blk.other ?_ (by first | (simp; done) | (simp; omega)) _ | exact Blk.set2 (by assumption) (by simp; done) | exact Blk.set1 (by assumption) (by simp; done))), by (with_reducible repeat' (first | assumption | exact Blk.newAt (by simp; done) | refine Blk.alloc ?_ _ | refine Blk.drew ?_ | refine Blk.drewN ?_ _ | refine Blk.other ?_ (by first | (simp; done) | (simp; omega)) _ | exact Blk.set2 (by assumption) (by simp; done) | exact Blk.set1 (by assumption) (by simp; done)))⟩ (fun wa hw => ?_)
  obtain ⟨hb0, k0, k2⟩ := hw
  have hlt := k2.lt
  refine wp_loop_rounds 4 ?_
  rw [rounds_succ]
  go_wp2
  refine wp_tailC (C := fun W => Below w.heap.size w W ∧ Blk W w.heap.size 92 #[.int .i64 a.x.lo, .int .i64 a.x.hi, .int .i64 a.y.lo, .int .i64 a.y.hi, .int .i64 a.z.lo, .int .i64 a.z.hi] ∧ Blk W (w.heap.size + 2) 92 z6 ∧ Blk W wa.heap.size 23 #[.int .i64 o.x.lo, .int .i64 o.x.hi]) 17 (by kernel_rfl) (by kernel_rfl) ⟨by solve_by_elim (maxDepth := 60) only [bl_al, bl_drew, bl_drewN, bl_refl, bl_setA, bl_setB, *], by (with_reducible repeat' (first | assumption | exact Blk.newAt (by simp; done) | refine Blk.alloc ?_ _ | refine Blk.drew ?_ | refine Blk.drewN ?_ _ | refine Blk.other ?_ (by first | (simp; done) | (simp; omega)) _ | exact Blk.set2 (by assumption) (by simp; done) | exact Blk.set1 (by assumption) (by simp; done))), by (with_reducible repeat' (first | assumption | exact Blk.newAt (by simp; done) | refine Blk.alloc ?_ _ | refine Blk.drew ?_ | refine Blk.drewN ?_ _ | refine Blk.other ?_ (by first | (simp; done) | (simp; omega)) _ | exact Blk.set2 (by assumption) (by simp; done) | exact Blk.set1 (by assumption) (by simp; done))), by (with_reducible repeat' (first | assumption | exact Blk.newAt (by simp; done) | refine Blk.alloc ?_ _ | refine Blk.drew ?_ | refine Blk.drewN ?_ _ | refine Blk.other ?_ (by first | (simp; done) | (simp; omega)) _ | exact Blk.set2 (by assumption) (by simp; done) | exact Blk.set1 (by assumption) (by simp; done)))⟩ (fun wb hw => ?_)
  clear hb0 k0 k2
  obtain ⟨hb0, k0, k2, k7⟩ := hw
  have L0 := k0.cell
  have F0 := k0.frozen
  have L7 := k7.cell
  simp only [List.take_succ_cons, List.take_zero, List.drop_succ_cons, List.drop_zero]
  repeat still_step
  refine wpStill_nil ?_
  go_wp2
  refine absR (C := fun W => Below w.heap.size w W ∧ Blk W w.heap.size 92 #[.int .i64 (max a.x.lo o.x.lo), .int .i64 (min a.x.hi o.x.hi), .int .i64 a.y.lo, .int .i64 a.y.hi, .int .i64 a.z.lo, .int .i64 a.z.hi] ∧ Blk W (w.heap.size + 2) 92 z6) ⟨by solve_by_elim (maxDepth := 60) only [bl_al, bl_drew, bl_drewN, bl_refl, bl_setA, bl_setB, *], by (with_reducible repeat' (first | assumption | exact Blk.newAt (by simp; done) | refine Blk.alloc ?_ _ | refine Blk.drew ?_ | refine Blk.drewN ?_ _ | refine Blk.other ?_ (by first | (simp; done) | (simp; omega)) _ | exact Blk.set2 (by assumption) (by simp; done) | exact Blk.set1 (by assumption) (by simp; done))), by (with_reducible repeat' (first | assumption | exact Blk.newAt (by simp; done) | refine Blk.alloc ?_ _ | refine Blk.drew ?_ | refine Blk.drewN ?_ _ | refine Blk.other ?_ (by first | (simp; done) | (simp; omega)) _ | exact Blk.set2 (by assumption) (by simp; done) | exact Blk.set1 (by assumption) (by simp; done)))⟩ (fun wa hw => ?_)
  clear hb0 k0 k2 L0 F0 L7 k7 hlt
  obtain ⟨hb0, k0, k2⟩ := hw
  have hlt := k2.lt
  rw [rounds_succ]
  go_wp2
  refine wp_tailC (C := fun W => Below w.heap.size w W ∧ Blk W w.heap.size 92 #[.int .i64 (max a.x.lo o.x.lo), .int .i64 (min a.x.hi o.x.hi), .int .i64 a.y.lo, .int .i64 a.y.hi, .int .i64 a.z.lo, .int .i64 a.z.hi] ∧ Blk W (w.heap.size + 2) 92 z6 ∧ Blk W wa.heap.size 23 #[.int .i64 o.y.lo, .int .i64 o.y.hi]) 17 (by kernel_rfl) (by kernel_rfl) ⟨by solve_by_elim (maxDepth := 60) only [bl_al, bl_drew, bl_drewN, bl_refl, bl_setA, bl_setB, *], by (with_reducible repeat' (first | assumption | exact Blk.newAt (by simp; done) | refine Blk.alloc ?_ _ | refine Blk.drew ?_ | refine Blk.drewN ?_ _ | refine Blk.other ?_ (by first | (simp; done) | (simp; omega)) _ | exact Blk.set2 (by assumption) (by simp; done) | exact Blk.set1 (by assumption) (by simp; done))), by (with_reducible repeat' (first | assumption | exact Blk.newAt (by simp; done) | refine Blk.alloc ?_ _ | refine Blk.drew ?_ | refine Blk.drewN ?_ _ | refine Blk.other ?_ (by first | (simp; done) | (simp; omega)) _ | exact Blk.set2 (by assumption) (by simp; done) | exact Blk.set1 (by assumption) (by simp; done))), by (with_reducible repeat' (first | assumption | exact Blk.newAt (by simp; done) | refine Blk.alloc ?_ _ | refine Blk.drew ?_ | refine Blk.drewN ?_ _ | refine Blk.other ?_ (by first | (simp; done) | (simp; omega)) _ | exact Blk.set2 (by assumption) (by simp; done) | exact Blk.set1 (by assumption) (by simp; done)))⟩ (fun wb hw => ?_)
  clear hb0 k0 k2
  obtain ⟨hb0, k0, k2, k7⟩ := hw
  have L0 := k0.cell
  have F0 := k0.frozen
  have L7 := k7.cell
  simp only [List.take_succ_cons, List.take_zero, List.drop_succ_cons, List.drop_zero]
  repeat still_step
  refine wpStill_nil ?_
  go_wp2
  refine absR (C := fun W => Below w.heap.size w W ∧ Blk W w.heap.size 92 #[.int .i64 (max a.x.lo o.x.lo), .int .i64 (min a.x.hi o.x.hi), .int .i64 (max a.y.lo o.y.lo), .int .i64 (min a.y.hi o.y.hi), .int .i64 a.z.lo, .int .i64 a.z.hi] ∧ Blk W (w.heap.size + 2) 92 z6) ⟨by solve_by_elim (maxDepth := 60) only [bl_al, bl_drew, bl_drewN, bl_refl, bl_setA, bl_setB, *], by (with_reducible repeat' (first | assumption | exact Blk.newAt (by simp; done) | refine Blk.alloc ?_ _ | refine Blk.drew ?_ | refine Blk.drewN ?_ _ | refine Blk.other ?_ (by first | (simp; done) | (simp; omega)) _ | exact Blk.set2 (by assumption) (by simp; done) | exact Blk.set1 (by assumption) (by simp; done))), by (with_reducible repeat' (first | assumption | exact Blk.newAt (by simp; done) | refine Blk.alloc ?_ _ | refine Blk.drew ?_ | refine Blk.drewN ?_ _ | refine Blk.other ?_ (by first | (simp; done) | (simp; omega)) _ | exact Blk.set2 (by assumption) (by simp; done) | exact Blk.set1 (by assumption) (by simp; done)))⟩ (fun wa hw => ?_)
  clear hb0 k0 k2 L0 F0 L7 k7 hlt
  obtain ⟨hb0, k0, k2⟩ := hw
  have hlt := k2.lt
  rw [rounds_succ]
  go_wp2
  refine wp_tailC (C := fun W => Below w.heap.size w W ∧ Blk W w.heap.size 92 #[.int .i64 (max a.x.lo o.x.lo), .int .i64 (min a.x.hi o.x.hi), .int .i64 (max a.y.lo o.y.lo), .int .i64 (min a.y.hi o.y.hi), .int .i64 a.z.lo, .int .i64 a.z.hi] ∧ Blk W (w.heap.size + 2) 92 z6 ∧ Blk W wa.heap.size 23 #[.int .i64 o.z.lo, .int .i64 o.z.hi]) 17 (by kernel_rfl) (by kernel_rfl) ⟨by solve_by_elim (maxDepth := 60) only [bl_al, bl_drew, bl_drewN, bl_refl, bl_setA, bl_setB, *], by (with_reducible repeat' (first | assumption | exact Blk.newAt (by simp; done) | refine Blk.alloc ?_ _ | refine Blk.drew ?_ | refine Blk.drewN ?_ _ | refine Blk.other ?_ (by first | (simp; done) | (simp; omega)) _ | exact Blk.set2 (by assumption) (by simp; done) | exact Blk.set1 (by assumption) (by simp; done))), by (with_reducible repeat' (first | assumption | exact Blk.newAt (by simp; done) | refine Blk.alloc ?_ _ | refine Blk.drew ?_ | refine Blk.drewN ?_ _ | refine Blk.other ?_ (by first | (simp; done) | (simp; omega)) _ | exact Blk.set2 (by assumption) (by simp; done) | exact Blk.set1 (by assumption) (by simp; done))), by (with_reducible repeat' (first | assumption | exact Blk.newAt (by simp; done) | refine Blk.alloc ?_ _ | refine Blk.drew ?_ | refine Blk.drewN ?_ _ | refine Blk.other ?_ (by first | (simp; done) | (simp; omega)) _ | exact Blk.set2 (by assumption) (by simp; done) | exact Blk.set1 (by assumption) (by simp; done)))⟩ (fun wb hw => ?_)
  clear hb0 k0 k2
  obtain ⟨hb0, k0, k2, k7⟩ := hw
  have L0 := k0.cell
  have F0 := k0.frozen
  have L7 := k7.cell
  simp only [List.take_succ_cons, List.take_zero, List.drop_succ_cons, List.drop_zero]
  repeat still_step
  refine wpStill_nil ?_
  go_wp2
  refine absR (C := fun W => Below w.heap.size w W ∧ Blk W w.heap.size 92 #[.int .i64 (max a.x.lo o.x.lo), .int .i64 (min a.x.hi o.x.hi), .int .i64 (max a.y.lo o.y.lo), .int .i64 (min a.y.hi o.y.hi), .int .i64 (max a.z.lo o.z.lo), .int .i64 (min a.z.hi o.z.hi)] ∧ Blk W (w.heap.size + 2) 92 z6) ⟨by solve_by_elim (maxDepth := 60) only [bl_al, bl_drew, bl_drewN, bl_refl, bl_setA, bl_setB, *], by (with_reducible repeat' (first | assumption | exact Blk.newAt (by simp; done) | refine Blk.alloc ?_ _ | refine Blk.drew ?_ | refine Blk.drewN ?_ _ | refine Blk.other ?_ (by first | (simp; done) | (simp; omega)) _ | exact Blk.set2 (by assumption) (by simp; done) | exact Blk.set1 (by assumption) (by simp; done))), by (with_reducible repeat' (first | assumption | exact Blk.newAt (by simp; done) | refine Blk.alloc ?_ _ | refine Blk.drew ?_ | refine Blk.drewN ?_ _ | refine Blk.other ?_ (by first | (simp; done) | (simp; omega)) _ | exact Blk.set2 (by assumption) (by simp; done) | exact Blk.set1 (by assumption) (by simp; done)))⟩ (fun wa hw => ?_)
  clear hb0 k0 k2 L0 F0 L7 k7 hlt
  obtain ⟨hb0, k0, k2⟩ := hw
  have hlt := k2.lt
  rw [rounds_succ]
  go_wp2
  refine absC (C := fun W => Below w.heap.size w W ∧ Blk W w.heap.size 92 #[.int .i64 (max a.x.lo o.x.lo), .int .i64 (min a.x.hi o.x.hi), .int .i64 (max a.y.lo o.y.lo), .int .i64 (min a.y.hi o.y.hi), .int .i64 (max a.z.lo o.z.lo), .int .i64 (min a.z.hi o.z.hi)] ∧ Blk W (w.heap.size + 2) 92 z6) ⟨hb0, k0, k2⟩ (fun wb hw => ?_)
  clear hb0 k0 k2
  obtain ⟨hb0, k0, k2⟩ := hw
  have L0 := k0.laterX (X := [w.heap.size + 2]) (by simp)
  clear k0
  refine wp_plan [(0, true), (1, true), (2, false), (3, false), (4, true)] (fun W => BX [w.heap.size + 2] wb W) (by kernel_rfl) (by kernel_rfl) (by kernel_rfl) (by solve_by_elim (maxDepth := 80) only [bx_al, bx_drew, bx_drewN, bx_refl, bx_set1, bx_set2, bx_set3, *]) ?_
  apply PlanW.on
  · (simp only [List.getElem?_toArray, List.getElem?_cons_succ, List.getElem?_cons_zero] <;> rfl)
  · rfl
  · (intro W hS; (try dsimp only at hS); go_simp <;> with_reducible rfl)
  try simp only [Act.put, List.setIfInBounds_toArray, List.set_cons_zero, List.set_cons_succ]
  apply PlanW.on
  · (simp only [List.getElem?_toArray, List.getElem?_cons_succ, List.getElem?_cons_zero] <;> rfl)
  · rfl
  · (intro W hS; (try dsimp only at hS); go_simp <;> with_reducible rfl)
  try simp only [Act.put, List.setIfInBounds_toArray, List.set_cons_zero, List.set_cons_succ]
  apply PlanW.step
  · (simp only [List.getElem?_toArray, List.getElem?_cons_succ, List.getElem?_cons_zero] <;> rfl)
  · rfl
  intro K hK
  go_simp
  (first | (go_at_call 94; (with_reducible refine (c_ordered ⟨⟨max a.x.lo o.x.lo, min a.x.hi o.x.hi⟩, ⟨max a.y.lo o.y.lo, min a.y.hi o.y.hi⟩, ⟨max a.z.lo o.z.lo, min a.z.hi o.z.hi⟩⟩ _).mono ?_); rintro e w3 ⟨rfl, hb3⟩; replace hb3 := bx_tt hb3))
  (try dsimp only)
  refine hK.out _ _ (by solve_by_elim (maxDepth := 80) only [bx_al, bx_drew, bx_drewN, bx_refl, bx_set1, bx_set2, bx_set3, *]) (fun hcur => ?_)
  clear hK K
  (try dsimp only at hcur)
  try simp only [Act.put, List.setIfInBounds_toArray, List.set_cons_zero, List.set_cons_succ]
  apply PlanW.step
  · (simp only [List.getElem?_toArray, List.getElem?_cons_succ, List.getElem?_cons_zero] <;> rfl)
  · rfl
  intro K hK
  refine wp_store_keep (X := [w.heap.size + 2]) (w0 := wb) rfl rfl rfl (by solve_by_elim (maxDepth := 80) only [bx_al, bx_drew, bx_drewN, bx_refl, bx_set1, bx_set2, bx_set3, *]) (by assumption) (by simp) (by kernel_rfl) (by rfl) (by simp [Value.oneCell']) (fun hres1 hcur => ?_)
  refine hK.out _ _ hcur (fun _ => ?_)
  clear hK K
  try simp only [Act.put, List.setIfInBounds_toArray, List.set_cons_zero, List.set_cons_succ]
  apply PlanW.on
  · (simp only [List.getElem?_toArray, List.getElem?_cons_succ, List.getElem?_cons_zero] <;> rfl)
  · rfl
  · (intro W hS; (try dsimp only at hS); go_simp <;> with_reducible rfl)
  try simp only [Act.put, List.setIfInBounds_toArray, List.set_cons_zero, List.set_cons_succ]
  refine PlanW.done ?_
  have hr := hres1.cell
  go_wp2
  refine bodyPost_ret (v := .tuple #[vBx (a.meet o), .bool (a.meet o).ordered]) (by simp [results, Tryz.results67, go_sem, hr, Bx.meet, Rg.meet]) rfl ⟨rfl, ?_⟩
  exact hcur.below (by simp) hb0
end Go.Proofs.YtephimmamkafoaaGreat
namespace Go.Proofs.YtephimmamkafoaaGreat
set_option linter.unusedSimpArgs false
set_option linter.unusedVariables false
open Go.RowKit Go.Shelf
attribute [local go_sem] bl_al bl_drew bl_drewN bl_refl bx_al bx_drew bx_drewN bx_refl
set_option maxRecDepth 20000
abbrev z13 : Array Value := #[.int .i64 0, .int .i64 0, .int .i64 0, .int .i64 0, .int .i64 0, .int .i64 0, .slice none 0 0, .int .i64 0, .int .i64 0, .int .i64 0, .int .i64 0, .int .i64 0, .int .i64 0]
set_option maxHeartbeats 2000000 in
theorem c_open (n : Nt) (A : Option Addr) (c : Nat) (w : World) (hn : NtIn n A c w) :
    Calls Tryz.prog 47 #[vNt n.world (.slice A n.bs.length c)] w (Ret (.tuple #[vON n.world (.slice A n.bs.length c), .int .i64 (netErr n)]) w) := by
  have hcn := Lib.hid fun (W : World) (hb : Below w.heap.size w W) => c_CheckNet n A c W (hn.below hb)
  clear hn
  generalize n.bs.length = nl at *
  go_enter Tryz.func47, Tryz.ntmps47
  go_wp2_with fail
  refine Calls.mono (hcn.out _ ?_) ?_
  · solve_by_elim (maxDepth := 60) only [bl_al, bl_drew, bl_drewN, bl_refl, *]
  rintro e wb ⟨rfl, hb3⟩
  have k0 := ((Blk.new w 28 (aNt n.world (.slice A nl c))).alloc (.cells z13 94)).below hb3
  have k1 := (Blk.new (w.alloc (.cells (aNt n.world (.slice A nl c)) 28)) 94 z13).below hb3
  rw [World.size_alloc] at k1
  have L0 := k0.laterX (X := [w.heap.size + 1]) (by simp)
  have hb0 : Below w.heap.size w wb := bl_tr (bl_al _ (bl_al _ (bl_refl _))) hb3
  clear hb3
  go_wp2_with fail
  refine wp_plan [(0, true), (1, true), (2, true), (5, true), (3, false), (4, true), (6, false), (7, true)] (fun W => BX [w.heap.size + 1] wb W) (by kernel_rfl) (by kernel_rfl) (by kernel_rfl) (by solve_by_elim (maxDepth := 80) only [bx_al, bx_drew, bx_drewN, bx_refl, bx_set1, bx_set2, bx_set3, *]) ?_
  apply PlanW.on
  · (simp only [List.getElem?_toArray, List.getElem?_cons_succ, List.getElem?_cons_zero] <;> rfl)
  · rfl
  · (intro W hS; (try dsimp only at hS); go_simp <;> with_reducible rfl)
  try simp only [Act.put, List.setIfInBounds_toArray, List.set_cons_zero, List.set_cons_succ]
  apply PlanW.on
  · (simp only [List.getElem?_toArray, List.getElem?_cons_succ, List.getElem?_cons_zero] <;> rfl)
  · rfl
  · (intro W hS; (try dsimp only at hS); go_simp <;> with_reducible rfl)
  try simp only [Act.put, List.setIfInBounds_toArray, List.set_cons_zero, List.set_cons_succ]
  apply PlanW.on
  · (simp only [List.getElem?_toArray, List.getElem?_cons_succ, List.getElem?_cons_zero] <;> rfl)
  · rfl
  · (intro W hS; (try dsimp only at hS); go_simp <;> with_reducible rfl)
  try simp only [Act.put, List.setIfInBounds_toArray, List.set_cons_zero, List.set_cons_succ]
  apply PlanW.on
  · (simp only [List.getElem?_toArray, List.getElem?_cons_succ, List.getElem?_cons_zero] <;> rfl)
  · rfl
  · (intro W hS; (try dsimp only at hS); go_simp <;> with_reducible rfl)
  try simp only [Act.put, List.setIfInBounds_toArray, List.set_cons_zero, List.set_cons_succ]
  apply PlanW.step
  · (simp only [List.getElem?_toArray, List.getElem?_cons_succ, List.getElem?_cons_zero] <;> rfl)
  · rfl
  intro K hK
  go_simp
  (first | (go_at_call 74; (with_reducible refine (c_of n.world _).mono ?_); rintro e w3 ⟨rfl, hb3⟩; replace hb3 := bx_tt hb3))
  (try dsimp only)
  refine hK.out _ _ (by solve_by_elim (maxDepth := 80) only [bx_al, bx_drew, bx_drewN, bx_refl, bx_set1, bx_set2, bx_set3, *]) (fun hcur => ?_)
  clear hK K
  (try dsimp only at hcur)
  try simp only [Act.put, List.setIfInBounds_toArray, List.set_cons_zero, List.set_cons_succ]
  apply PlanW.on
  · (simp only [List.getElem?_toArray, List.getElem?_cons_succ, List.getElem?_cons_zero] <;> rfl)
  · rfl
  · (intro W hS; (try dsimp only at hS); go_simp <;> with_reducible rfl)
  try simp only [Act.put, List.setIfInBounds_toArray, List.set_cons_zero, List.set_cons_succ]
  apply PlanW.step
  · (simp only [List.getElem?_toArray, List.getElem?_cons_succ, List.getElem?_cons_zero] <;> rfl)
  · rfl
  intro K hK
  refine wp_store_keep (X := [w.heap.size + 1]) (w0 := wb) rfl rfl rfl (by solve_by_elim (maxDepth := 80) only [bx_al, bx_drew, bx_drewN, bx_refl, bx_set1, bx_set2, bx_set3, *]) (by assumption) (by simp) (by kernel_rfl) (by rfl) (by simp [Value.oneCell']) (fun hres1 hcur => ?_)
  refine hK.out _ _ hcur (fun _ => ?_)
  clear hK K
  try simp only [Act.put, List.setIfInBounds_toArray, List.set_cons_zero, List.set_cons_succ]
  apply PlanW.on
  · (simp only [List.getElem?_toArray, List.getElem?_cons_succ, List.getElem?_cons_zero] <;> rfl)
  · rfl
  · (intro W hS; (try dsimp only at hS); go_simp <;> with_reducible rfl)
  try simp only [Act.put, List.setIfInBounds_toArray, List.set_cons_zero, List.set_cons_succ]
  refine PlanW.done ?_
  have hr := hres1.cell
  go_wp2
  refine bodyPost_ret (v := .tuple #[vON n.world (.slice A nl c), .int .i64 (netErr n)]) (by simp [results, Tryz.results47, go_sem, hr, netErr]) rfl ⟨rfl, ?_⟩
  exact hcur.below (by simp) hb0
end Go.Proofs.YtephimmamkafoaaGreat
namespace Go.Proofs.YtephimmamkafoaaGreat
set_option linter.unusedSimpArgs false
set_option linter.unusedVariables false
open Go.RowKit Go.Shelf
attribute [local go_sem] bl_al bl_drew bl_drewN bl_refl index_b0 index_b1 index_b2 index_p0 index_p1 index_p2
set_option maxRecDepth 20000
theorem quiet_same {P : Program} {f : FuncId} {args : Array Value} {w : World} {n : Nat} {v : Value} (h : ∀ W, Calls P f args W (Same v W)) : Calls P f args (w.drewN n) fun e w'' => e = .returned v ∧ ∃ m, w'' = w.drewN m :=
  (h _).mono fun _ _ ⟨he, hm⟩ => ⟨he, n, hm.symm⟩

set_option maxHeartbeats 2000000 in
theorem c_has (a : Bx) (p : Pl) (w : World) : Calls Tryz.prog 70 #[vBx a, vPl p] w (Ret (.bool (a.has p)) w) := by
  cases p0 : inR p.x a.x.lo a.x.hi
  case false =>
    go_enter Tryz.func70, Tryz.ntmps70
    go_wp2
    refine wp_loop_rounds 4 ?_
    rw [rounds_succ]
    go_wp2
    go_quiet ((go_at_call 75; exact quiet_same (fun W => c_within _ _ _ W)))
    go_wp2
    go_ret
    exact ⟨by simp [Bx.has, *], by solve_by_elim (maxDepth := 60) only [bl_al, bl_drew, bl_drewN, bl_refl, *]⟩
  cases p1 : inR p.y a.y.lo a.y.hi
  case false =>
    go_enter Tryz.func70, Tryz.ntmps70
    go_wp2
    refine wp_loop_rounds 4 ?_
    rw [rounds_succ]
    go_wp2
    go_quiet ((go_at_call 75; exact quiet_same (fun W => c_within _ _ _ W)))
    go_wp2
    rw [rounds_succ]
    go_wp2
    go_quiet ((go_at_call 75; exact quiet_same (fun W => c_within _ _ _ W)))
    go_wp2
    go_ret
    exact ⟨by simp [Bx.has, *], by solve_by_elim (maxDepth := 60) only [bl_al, bl_drew, bl_drewN, bl_refl, *]⟩
  cases p2 : inR p.z a.z.lo a.z.hi
  case false =>
    go_enter Tryz.func70, Tryz.ntmps70
    go_wp2
    refine wp_loop_rounds 4 ?_
    rw [rounds_succ]
    go_wp2
    go_quiet ((go_at_call 75; exact quiet_same (fun W => c_within _ _ _ W)))
    go_wp2
    rw [rounds_succ]
    go_wp2
    go_quiet ((go_at_call 75; exact quiet_same (fun W => c_within _ _ _ W)))
    go_wp2
    rw [rounds_succ]
    go_wp2
    go_quiet ((go_at_call 75; exact quiet_same (fun W => c_within _ _ _ W)))
    go_wp2
    go_ret
    exact ⟨by simp [Bx.has, *], by solve_by_elim (maxDepth := 60) only [bl_al, bl_drew, bl_drewN, bl_refl, *]⟩
  go_enter Tryz.func70, Tryz.ntmps70
  go_wp2
  refine wp_loop_rounds 4 ?_
  rw [rounds_succ]
  go_wp2
  go_quiet ((go_at_call 75; exact quiet_same (fun W => c_within _ _ _ W)))
  go_wp2
  rw [rounds_succ]
  go_wp2
  go_quiet ((go_at_call 75; exact quiet_same (fun W => c_within _ _ _ W)))
  go_wp2
  rw [rounds_succ]
  go_wp2
  go_quiet ((go_at_call 75; exact quiet_same (fun W => c_within _ _ _ W)))
  go_wp2
  rw [rounds_succ]
  go_wp2
  go_ret
  exact ⟨by simp [Bx.has, *], by solve_by_elim (maxDepth := 60) only [bl_al, bl_drew, bl_drewN, bl_refl, *]⟩

set_option maxHeartbeats 1000000 in
theorem c_isBeacon (b : Bx) (A : Option Addr) (n c : Nat) (i : Int) (w : World) (hn : n ≤ 1000) : Calls Tryz.prog 123 #[vON b (.slice A n c), .int .i64 i] w (Ret (.bool (inR i 0 ((n : Int) - 1))) w) := by
  go_enter Tryz.func123, Tryz.ntmps123
  go_wp2_with (go_at_call 75; (with_reducible refine (c_within _ _ _ _).mono ?_); rintro e w3 ⟨rfl, rfl⟩)
  go_ret
  exact ⟨rfl, by solve_by_elim (maxDepth := 60) only [bl_al, bl_drew, bl_drewN, bl_refl, *]⟩
end Go.Proofs.YtephimmamkafoaaGreat
namespace Go.Proofs.YtephimmamkafoaaGreat
set_option linter.unusedSimpArgs false
set_option linter.unusedVariables false
open Go.RowKit Go.Shelf
attribute [local go_sem] bl_al bl_drew bl_drewN bl_refl
set_option maxRecDepth 20000
abbrev aBx (b : Bx) : Array Value := #[.int .i64 b.x.lo, .int .i64 b.x.hi, .int .i64 b.y.lo, .int .i64 b.y.hi, .int .i64 b.z.lo, .int .i64 b.z.hi]
abbrev aMv (m : Mv) : Array Value := #[.int .i64 m.ticks, .int .i64 m.speed.x.lo, .int .i64 m.speed.x.hi, .int .i64 m.speed.y.lo, .int .i64 m.speed.y.hi, .int .i64 m.speed.z.lo, .int .i64 m.speed.z.hi]
set_option maxHeartbeats 2000000 in
theorem c_moveErr (m : Mv) (w : World) : Calls Tryz.prog 52 #[vMv m] w (Ret (.int .i64 (mvErr m)) w) := by
  have hr : Hid (mvErr m = fstE [unl (inR m.ticks 0 1000 && m.speed.sized 100) 2, unl m.speed.ordered 9]) := rfl
  cases hA : inR m.ticks 0 1000
  all_goals
    rw [hA] at hr
    simp only [Bool.false_and, Bool.true_and] at hr
    go_enter Tryz.func52, Tryz.ntmps52
    go_wp2_with ((go_at_call 74; (with_reducible refine (c_of m.speed _).mono ?_); rintro e w3 ⟨rfl, hb3⟩; replace hb3 := bl_tt hb3))
    have k0 := (Blk.new w 44 (aMv m)).below (hb3 _ (bl_refl _))
    refine abs1 (fun wb hb k1 => ?_)
    replace hb := bl_tt hb
    have L0 := (k0.below (hb _ (bl_refl _))).later
    have L1 := k1.later
    clear k0 k1
    refine wp_plan [(0, true), (1, true), (8, true), (2, false), (3, true), (4, true), (5, false), (6, true), (7, false), (9, false), (10, false), (11, false), (12, false), (13, true)] (fun W => Below wb.heap.size wb W) (by kernel_rfl) (by kernel_rfl) (by kernel_rfl) (by solve_by_elim (maxDepth := 60) only [bl_al, bl_drew, bl_drewN, bl_refl, *]) ?_
    apply PlanW.on
    · (simp only [List.getElem?_toArray, List.getElem?_cons_succ, List.getElem?_cons_zero] <;> rfl)
    · rfl
    · (intro W hS; (try dsimp only at hS); go_simp <;> with_reducible rfl)
    try simp only [Act.put, List.setIfInBounds_toArray, List.set_cons_zero, List.set_cons_succ]
    apply PlanW.on
    · (simp only [List.getElem?_toArray, List.getElem?_cons_succ, List.getElem?_cons_zero] <;> rfl)
    · rfl
    · (intro W hS; (try dsimp only at hS); go_simp <;> with_reducible rfl)
    try simp only [Act.put, List.setIfInBounds_toArray, List.set_cons_zero, List.set_cons_succ]
    apply PlanW.on
    · (simp only [List.getElem?_toArray, List.getElem?_cons_succ, List.getElem?_cons_zero] <;> rfl)
    · rfl
    · (intro W hS; (try dsimp only at hS); go_simp <;> with_reducible rfl)
    try simp only [Act.put, List.setIfInBounds_toArray, List.set_cons_zero, List.set_cons_succ]
    apply PlanW.step
    · (simp only [List.getElem?_toArray, List.getElem?_cons_succ, List.getElem?_cons_zero] <;> rfl)
    · rfl
    intro K hK
    go_simp
    (first | (go_at_call 75; (with_reducible refine (c_within _ _ _ _).mono ?_); rintro e w3 ⟨rfl, rfl⟩) | (go_at_call 93; (with_reducible refine (c_sizedB m.speed _ _ (by omega) (by omega)).mono ?_); rintro e w3 ⟨rfl, hb3⟩; replace hb3 := bl_tt hb3) | (go_at_call 49; (with_reducible refine (c_unless _ _ _).mono ?_); rintro e w3 ⟨rfl, rfl⟩) | (go_at_call 94; (with_reducible refine (c_ordered m.speed _).mono ?_); rintro e w3 ⟨rfl, hb3⟩; replace hb3 := bl_tt hb3) | (go_at_call 48; (with_reducible refine (c_first2 (Blk.new _ _ _)).mono ?_); rintro e w3 ⟨rfl, rfl⟩))
    (try dsimp only)
    refine hK.out _ _ (by solve_by_elim (maxDepth := 60) only [bl_al, bl_drew, bl_drewN, bl_refl, *]) (fun hcur => ?_)
    clear hK K
    (try dsimp only at hcur)
    try simp only [Act.put, List.setIfInBounds_toArray, List.set_cons_zero, List.set_cons_succ]
    apply PlanW.on
    · (simp only [List.getElem?_toArray, List.getElem?_cons_succ, List.getElem?_cons_zero] <;> rfl)
    · rfl
    · (intro W hS; (try dsimp only at hS); go_simp <;> with_reducible rfl)
    try simp only [Act.put, List.setIfInBounds_toArray, List.set_cons_zero, List.set_cons_succ]
    first
    | apply PlanW.on
      · (simp only [List.getElem?_toArray, List.getElem?_cons_succ, List.getElem?_cons_zero] <;> rfl)
      · (simp [Region.wanted, yielded]; done)
      · (intro W hS; (try dsimp only at hS); go_simp <;> with_reducible rfl)
    | apply PlanW.off
      · (simp only [List.getElem?_toArray, List.getElem?_cons_succ, List.getElem?_cons_zero] <;> rfl)
      · (simp [Region.wanted, yielded]; done)
    try simp only [Act.put, List.setIfInBounds_toArray, List.set_cons_zero, List.set_cons_succ]
    first
    | apply PlanW.step
      · (simp only [List.getElem?_toArray, List.getElem?_cons_succ, List.getElem?_cons_zero] <;> rfl)
      · (simp [Region.wanted, yielded]; done)
      intro K hK
      go_simp
      (first | (go_at_call 75; (with_reducible refine (c_within _ _ _ _).mono ?_); rintro e w3 ⟨rfl, rfl⟩) | (go_at_call 93; (with_reducible refine (c_sizedB m.speed _ _ (by omega) (by omega)).mono ?_); rintro e w3 ⟨rfl, hb3⟩; replace hb3 := bl_tt hb3) | (go_at_call 49; (with_reducible refine (c_unless _ _ _).mono ?_); rintro e w3 ⟨rfl, rfl⟩) | (go_at_call 94; (with_reducible refine (c_ordered m.speed _).mono ?_); rintro e w3 ⟨rfl, hb3⟩; replace hb3 := bl_tt hb3) | (go_at_call 48; (with_reducible refine (c_first2 (Blk.new _ _ _)).mono ?_); rintro e w3 ⟨rfl, rfl⟩))
      (try dsimp only)
      refine hK.out _ _ (by solve_by_elim (maxDepth := 60) only [bl_al, bl_drew, bl_drewN, bl_refl, *]) (fun hcur => ?_)
      clear hK K
      (try dsimp only at hcur)
    | apply PlanW.stepOff
      · (simp only [List.getElem?_toArray, List.getElem?_cons_succ, List.getElem?_cons_zero] <;> rfl)
      · (simp [Region.wanted, yielded]; done)
      · solve_by_elim (maxDepth := 60) only [bl_al, bl_drew, bl_drewN, bl_refl, *]
    try simp only [Act.put, List.setIfInBounds_toArray, List.set_cons_zero, List.set_cons_succ]
    apply PlanW.on
    · (simp only [List.getElem?_toArray, List.getElem?_cons_succ, List.getElem?_cons_zero] <;> rfl)
    · rfl
    · (intro W hS; (try dsimp only at hS); go_simp <;> with_reducible rfl)
    try simp only [Act.put, List.setIfInBounds_toArray, List.set_cons_zero, List.set_cons_succ]
    apply PlanW.step
    · (simp only [List.getElem?_toArray, List.getElem?_cons_succ, List.getElem?_cons_zero] <;> rfl)
    · rfl
    intro K hK
    go_simp
    (first | (go_at_call 75; (with_reducible refine (c_within _ _ _ _).mono ?_); rintro e w3 ⟨rfl, rfl⟩) | (go_at_call 93; (with_reducible refine (c_sizedB m.speed _ _ (by omega) (by omega)).mono ?_); rintro e w3 ⟨rfl, hb3⟩; replace hb3 := bl_tt hb3) | (go_at_call 49; (with_reducible refine (c_unless _ _ _).mono ?_); rintro e w3 ⟨rfl, rfl⟩) | (go_at_call 94; (with_reducible refine (c_ordered m.speed _).mono ?_); rintro e w3 ⟨rfl, hb3⟩; replace hb3 := bl_tt hb3) | (go_at_call 48; (with_reducible refine (c_first2 (Blk.new _ _ _)).mono ?_); rintro e w3 ⟨rfl, rfl⟩))
    (try dsimp only)
    refine hK.out _ _ (by solve_by_elim (maxDepth := 60) only [bl_al, bl_drew, bl_drewN, bl_refl, *]) (fun hcur => ?_)
    clear hK K
    (try dsimp only at hcur)
    try simp only [Act.put, List.setIfInBounds_toArray, List.set_cons_zero, List.set_cons_succ]
    apply PlanW.step
    · (simp only [List.getElem?_toArray, List.getElem?_cons_succ, List.getElem?_cons_zero] <;> rfl)
    · rfl
    intro K hK
    go_simp
    (first | (go_at_call 75; (with_reducible refine (c_within _ _ _ _).mono ?_); rintro e w3 ⟨rfl, rfl⟩) | (go_at_call 93; (with_reducible refine (c_sizedB m.speed _ _ (by omega) (by omega)).mono ?_); rintro e w3 ⟨rfl, hb3⟩; replace hb3 := bl_tt hb3) | (go_at_call 49; (with_reducible refine (c_unless _ _ _).mono ?_); rintro e w3 ⟨rfl, rfl⟩) | (go_at_call 94; (with_reducible refine (c_ordered m.speed _).mono ?_); rintro e w3 ⟨rfl, hb3⟩; replace hb3 := bl_tt hb3) | (go_at_call 48; (with_reducible refine (c_first2 (Blk.new _ _ _)).mono ?_); rintro e w3 ⟨rfl, rfl⟩))
    (try dsimp only)
    refine hK.out _ _ (by solve_by_elim (maxDepth := 60) only [bl_al, bl_drew, bl_drewN, bl_refl, *]) (fun hcur => ?_)
    clear hK K
    (try dsimp only at hcur)
    try simp only [Act.put, List.setIfInBounds_toArray, List.set_cons_zero, List.set_cons_succ]
    apply PlanW.step
    · (simp only [List.getElem?_toArray, List.getElem?_cons_succ, List.getElem?_cons_zero] <;> rfl)
    · rfl
    intro K hK
    go_simp
    (first | (go_at_call 75; (with_reducible refine (c_within _ _ _ _).mono ?_); rintro e w3 ⟨rfl, rfl⟩) | (go_at_call 93; (with_reducible refine (c_sizedB m.speed _ _ (by omega) (by omega)).mono ?_); rintro e w3 ⟨rfl, hb3⟩; replace hb3 := bl_tt hb3) | (go_at_call 49; (with_reducible refine (c_unless _ _ _).mono ?_); rintro e w3 ⟨rfl, rfl⟩) | (go_at_call 94; (with_reducible refine (c_ordered m.speed _).mono ?_); rintro e w3 ⟨rfl, hb3⟩; replace hb3 := bl_tt hb3) | (go_at_call 48; (with_reducible refine (c_first2 (Blk.new _ _ _)).mono ?_); rintro e w3 ⟨rfl, rfl⟩))
    (try dsimp only)
    refine hK.out _ _ (by solve_by_elim (maxDepth := 60) only [bl_al, bl_drew, bl_drewN, bl_refl, *]) (fun hcur => ?_)
    clear hK K
    (try dsimp only at hcur)
    try simp only [Act.put, List.setIfInBounds_toArray, List.set_cons_zero, List.set_cons_succ]
    apply PlanW.step
    · (simp only [List.getElem?_toArray, List.getElem?_cons_succ, List.getElem?_cons_zero] <;> rfl)
    · rfl
    intro K hK
    go_simp
    refine hK.out _ _ (by solve_by_elim (maxDepth := 60) only [bl_al, bl_drew, bl_drewN, bl_refl, *]) (fun hcur => ?_)
    clear hK K
    (try dsimp only at hcur)
    try simp only [Act.put, List.setIfInBounds_toArray, List.set_cons_zero, List.set_cons_succ]
    apply PlanW.step
    · (simp only [List.getElem?_toArray, List.getElem?_cons_succ, List.getElem?_cons_zero] <;> rfl)
    · rfl
    intro K hK
    go_simp
    (first | (go_at_call 75; (with_reducible refine (c_within _ _ _ _).mono ?_); rintro e w3 ⟨rfl, rfl⟩) | (go_at_call 93; (with_reducible refine (c_sizedB m.speed _ _ (by omega) (by omega)).mono ?_); rintro e w3 ⟨rfl, hb3⟩; replace hb3 := bl_tt hb3) | (go_at_call 49; (with_reducible refine (c_unless _ _ _).mono ?_); rintro e w3 ⟨rfl, rfl⟩) | (go_at_call 94; (with_reducible refine (c_ordered m.speed _).mono ?_); rintro e w3 ⟨rfl, hb3⟩; replace hb3 := bl_tt hb3) | (go_at_call 48; (with_reducible refine (c_first2 (Blk.new _ _ _)).mono ?_); rintro e w3 ⟨rfl, rfl⟩))
    (try dsimp only)
    refine hK.out _ _ (by solve_by_elim (maxDepth := 60) only [bl_al, bl_drew, bl_drewN, bl_refl, *]) (fun hcur => ?_)
    clear hK K
    (try dsimp only at hcur)
    try simp only [Act.put, List.setIfInBounds_toArray, List.set_cons_zero, List.set_cons_succ]
    apply PlanW.on
    · (simp only [List.getElem?_toArray, List.getElem?_cons_succ, List.getElem?_cons_zero] <;> rfl)
    · rfl
    · (intro W hS; (try dsimp only at hS); go_simp <;> with_reducible rfl)
    try simp only [Act.put, List.setIfInBounds_toArray, List.set_cons_zero, List.set_cons_succ]
    refine PlanW.done ?_
    go_wp2
    go_ret
    exact ⟨by rw [hr.out] <;> rfl, by solve_by_elim (maxDepth := 60) only [bl_al, bl_drew, bl_drewN, bl_refl, *]⟩
set_option maxHeartbeats 2000000 in
theorem c_CheckBox (n : Nt) (b : Bx) (A : Option Addr) (c : Nat) (w : World) (hn : NtIn n A c w) :
    Calls Tryz.prog 97 #[vNt n.world (.slice A n.bs.length c), vBx b] w (Ret (.int .i64 (boxErr n b)) w) := by
  have hcn := Lib.hid fun (W : World) (hb : Below w.heap.size w W) => c_open n A c W (hn.below hb)
  have hr : Hid (boxErr n b = fstE [netErr n, unl b.ordered 9, unl (n.world.holds b) 2]) := rfl
  clear hn
  generalize n.bs.length = nl at *
  go_enter Tryz.func97, Tryz.ntmps97
  go_wp2_with fail
  refine Calls.mono (hcn.out _ ?_) ?_
  · solve_by_elim (maxDepth := 60) only [bl_al, bl_drew, bl_drewN, bl_refl, *]
  rintro e w3 ⟨rfl, hb3⟩
  have k0 := ((Blk.new w 28 (aNt n.world (.slice A nl c))).alloc (.cells (aBx b) 25)).below hb3
  have k1 := (Blk.new (w.alloc (.cells (aNt n.world (.slice A nl c)) 28)) 25 (aBx b)).below hb3
  rw [World.size_alloc] at k1
  replace hb3 := bl_tt hb3
  go_wp2_with fail
  refine abs1 (fun wb hb k2 => ?_)
  have L0 := (k0.below hb).later
  have L1 := (k1.below hb).later
  have L2 := k2.later
  replace hb := bl_tt hb
  clear k0 k1 k2
  refine wp_plan [(0, true), (1, true), (5, true), (6, true), (7, true), (2, false), (3, false), (4, false), (8, false), (9, false), (10, false), (11, false), (12, false), (13, true)] (fun W => Below wb.heap.size wb W) (by kernel_rfl) (by kernel_rfl) (by kernel_rfl) (by solve_by_elim (maxDepth := 60) only [bl_al, bl_drew, bl_drewN, bl_refl, *]) ?_
  apply PlanW.on
  · (simp only [List.getElem?_toArray, List.getElem?_cons_succ, List.getElem?_cons_zero] <;> rfl)
  · rfl
  · (intro W hS; (try dsimp only at hS); go_simp <;> with_reducible rfl)
  try simp only [Act.put, List.setIfInBounds_toArray, List.set_cons_zero, List.set_cons_succ]
  apply PlanW.on
  · (simp only [List.getElem?_toArray, List.getElem?_cons_succ, List.getElem?_cons_zero] <;> rfl)
  · rfl
  · (intro W hS; (try dsimp only at hS); go_simp <;> with_reducible rfl)
  try simp only [Act.put, List.setIfInBounds_toArray, List.set_cons_zero, List.set_cons_succ]
  apply PlanW.on
  · (simp only [List.getElem?_toArray, List.getElem?_cons_succ, List.getElem?_cons_zero] <;> rfl)
  · rfl
  · (intro W hS; (try dsimp only at hS); go_simp <;> with_reducible rfl)
  try simp only [Act.put, List.setIfInBounds_toArray, List.set_cons_zero, List.set_cons_succ]
  apply PlanW.on
  · (simp only [List.getElem?_toArray, List.getElem?_cons_succ, List.getElem?_cons_zero] <;> rfl)
  · rfl
  · (intro W hS; (try dsimp only at hS); go_simp <;> with_reducible rfl)
  try simp only [Act.put, List.setIfInBounds_toArray, List.set_cons_zero, List.set_cons_succ]
  apply PlanW.on
  · (simp only [List.getElem?_toArray, List.getElem?_cons_succ, List.getElem?_cons_zero] <;> rfl)
  · rfl
  · (intro W hS; (try dsimp only at hS); go_simp <;> with_reducible rfl)
  try simp only [Act.put, List.setIfInBounds_toArray, List.set_cons_zero, List.set_cons_succ]
  apply PlanW.step
  · (simp only [List.getElem?_toArray, List.getElem?_cons_succ, List.getElem?_cons_zero] <;> rfl)
  · rfl
  intro K hK
  go_simp
  (first | (go_at_call 74; (with_reducible refine (c_of b _).mono ?_); rintro e w3 ⟨rfl, hb3⟩; replace hb3 := bl_tt hb3) | (go_at_call 119; (with_reducible refine (c_holds n.world b _).mono ?_); rintro e w3 ⟨rfl, hb3⟩; replace hb3 := bl_tt hb3) | (go_at_call 49; (with_reducible refine (c_unless _ _ _).mono ?_); rintro e w3 ⟨rfl, rfl⟩) | (go_at_call 94; (with_reducible refine (c_ordered b _).mono ?_); rintro e w3 ⟨rfl, hb3⟩; replace hb3 := bl_tt hb3) | (go_at_call 48; (with_reducible refine (c_first3 (Blk.new _ _ _)).mono ?_); rintro e w3 ⟨rfl, rfl⟩))
  (try dsimp only)
  refine hK.out _ _ (by solve_by_elim (maxDepth := 60) only [bl_al, bl_drew, bl_drewN, bl_refl, *]) (fun hcur => ?_)
  clear hK K
  (try dsimp only at hcur)
  try simp only [Act.put, List.setIfInBounds_toArray, List.set_cons_zero, List.set_cons_succ]
  apply PlanW.step
  · (simp only [List.getElem?_toArray, List.getElem?_cons_succ, List.getElem?_cons_zero] <;> rfl)
  · rfl
  intro K hK
  go_simp
  (first | (go_at_call 74; (with_reducible refine (c_of b _).mono ?_); rintro e w3 ⟨rfl, hb3⟩; replace hb3 := bl_tt hb3) | (go_at_call 119; (with_reducible refine (c_holds n.world b _).mono ?_); rintro e w3 ⟨rfl, hb3⟩; replace hb3 := bl_tt hb3) | (go_at_call 49; (with_reducible refine (c_unless _ _ _).mono ?_); rintro e w3 ⟨rfl, rfl⟩) | (go_at_call 94; (with_reducible refine (c_ordered b _).mono ?_); rintro e w3 ⟨rfl, hb3⟩; replace hb3 := bl_tt hb3) | (go_at_call 48; (with_reducible refine (c_first3 (Blk.new _ _ _)).mono ?_); rintro e w3 ⟨rfl, rfl⟩))
  (try dsimp only)
  refine hK.out _ _ (by solve_by_elim (maxDepth := 60) only [bl_al, bl_drew, bl_drewN, bl_refl, *]) (fun hcur => ?_)
  clear hK K
  (try dsimp only at hcur)
  try simp only [Act.put, List.setIfInBounds_toArray, List.set_cons_zero, List.set_cons_succ]
  apply PlanW.step
  · (simp only [List.getElem?_toArray, List.getElem?_cons_succ, List.getElem?_cons_zero] <;> rfl)
  · rfl
  intro K hK
  go_simp
  (first | (go_at_call 74; (with_reducible refine (c_of b _).mono ?_); rintro e w3 ⟨rfl, hb3⟩; replace hb3 := bl_tt hb3) | (go_at_call 119; (with_reducible refine (c_holds n.world b _).mono ?_); rintro e w3 ⟨rfl, hb3⟩; replace hb3 := bl_tt hb3) | (go_at_call 49; (with_reducible refine (c_unless _ _ _).mono ?_); rintro e w3 ⟨rfl, rfl⟩) | (go_at_call 94; (with_reducible refine (c_ordered b _).mono ?_); rintro e w3 ⟨rfl, hb3⟩; replace hb3 := bl_tt hb3) | (go_at_call 48; (with_reducible refine (c_first3 (Blk.new _ _ _)).mono ?_); rintro e w3 ⟨rfl, rfl⟩))
  (try dsimp only)
  refine hK.out _ _ (by solve_by_elim (maxDepth := 60) only [bl_al, bl_drew, bl_drewN, bl_refl, *]) (fun hcur => ?_)
  clear hK K
  (try dsimp only at hcur)
  try simp only [Act.put, List.setIfInBounds_toArray, List.set_cons_zero, List.set_cons_succ]
  apply PlanW.step
  · (simp only [List.getElem?_toArray, List.getElem?_cons_succ, List.getElem?_cons_zero] <;> rfl)
  · rfl
  intro K hK
  go_simp
  (first | (go_at_call 74; (with_reducible refine (c_of b _).mono ?_); rintro e w3 ⟨rfl, hb3⟩; replace hb3 := bl_tt hb3) | (go_at_call 119; (with_reducible refine (c_holds n.world b _).mono ?_); rintro e w3 ⟨rfl, hb3⟩; replace hb3 := bl_tt hb3) | (go_at_call 49; (with_reducible refine (c_unless _ _ _).mono ?_); rintro e w3 ⟨rfl, rfl⟩) | (go_at_call 94; (with_reducible refine (c_ordered b _).mono ?_); rintro e w3 ⟨rfl, hb3⟩; replace hb3 := bl_tt hb3) | (go_at_call 48; (with_reducible refine (c_first3 (Blk.new _ _ _)).mono ?_); rintro e w3 ⟨rfl, rfl⟩))
  (try dsimp only)
  refine hK.out _ _ (by solve_by_elim (maxDepth := 60) only [bl_al, bl_drew, bl_drewN, bl_refl, *]) (fun hcur => ?_)
  clear hK K
  (try dsimp only at hcur)
  try simp only [Act.put, List.setIfInBounds_toArray, List.set_cons_zero, List.set_cons_succ]
  apply PlanW.step
  · (simp only [List.getElem?_toArray, List.getElem?_cons_succ, List.getElem?_cons_zero] <;> rfl)
  · rfl
  intro K hK
  go_simp
  (first | (go_at_call 74; (with_reducible refine (c_of b _).mono ?_); rintro e w3 ⟨rfl, hb3⟩; replace hb3 := bl_tt hb3) | (go_at_call 119; (with_reducible refine (c_holds n.world b _).mono ?_); rintro e w3 ⟨rfl, hb3⟩; replace hb3 := bl_tt hb3) | (go_at_call 49; (with_reducible refine (c_unless _ _ _).mono ?_); rintro e w3 ⟨rfl, rfl⟩) | (go_at_call 94; (with_reducible refine (c_ordered b _).mono ?_); rintro e w3 ⟨rfl, hb3⟩; replace hb3 := bl_tt hb3) | (go_at_call 48; (with_reducible refine (c_first3 (Blk.new _ _ _)).mono ?_); rintro e w3 ⟨rfl, rfl⟩))
  (try dsimp only)
  refine hK.out _ _ (by solve_by_elim (maxDepth := 60) only [bl_al, bl_drew, bl_drewN, bl_refl, *]) (fun hcur => ?_)
  clear hK K
  (try dsimp only at hcur)
  try simp only [Act.put, List.setIfInBounds_toArray, List.set_cons_zero, List.set_cons_succ]
  apply PlanW.step
  · (simp only [List.getElem?_toArray, List.getElem?_cons_succ, List.getElem?_cons_zero] <;> rfl)
  · rfl
  intro K hK
  go_simp
  (first | (go_at_call 74; (with_reducible refine (c_of b _).mono ?_); rintro e w3 ⟨rfl, hb3⟩; replace hb3 := bl_tt hb3) | (go_at_call 119; (with_reducible refine (c_holds n.world b _).mono ?_); rintro e w3 ⟨rfl, hb3⟩; replace hb3 := bl_tt hb3) | (go_at_call 49; (with_reducible refine (c_unless _ _ _).mono ?_); rintro e w3 ⟨rfl, rfl⟩) | (go_at_call 94; (with_reducible refine (c_ordered b _).mono ?_); rintro e w3 ⟨rfl, hb3⟩; replace hb3 := bl_tt hb3) | (go_at_call 48; (with_reducible refine (c_first3 (Blk.new _ _ _)).mono ?_); rintro e w3 ⟨rfl, rfl⟩))
  (try dsimp only)
  refine hK.out _ _ (by solve_by_elim (maxDepth := 60) only [bl_al, bl_drew, bl_drewN, bl_refl, *]) (fun hcur => ?_)
  clear hK K
  (try dsimp only at hcur)
  try simp only [Act.put, List.setIfInBounds_toArray, List.set_cons_zero, List.set_cons_succ]
  apply PlanW.step
  · (simp only [List.getElem?_toArray, List.getElem?_cons_succ, List.getElem?_cons_zero] <;> rfl)
  · rfl
  intro K hK
  go_simp
  refine hK.out _ _ (by solve_by_elim (maxDepth := 60) only [bl_al, bl_drew, bl_drewN, bl_refl, *]) (fun hcur => ?_)
  clear hK K
  (try dsimp only at hcur)
  try simp only [Act.put, List.setIfInBounds_toArray, List.set_cons_zero, List.set_cons_succ]
  apply PlanW.step
  · (simp only [List.getElem?_toArray, List.getElem?_cons_succ, List.getElem?_cons_zero] <;> rfl)
  · rfl
  intro K hK
  go_simp
  (first | (go_at_call 74; (with_reducible refine (c_of b _).mono ?_); rintro e w3 ⟨rfl, hb3⟩; replace hb3 := bl_tt hb3) | (go_at_call 119; (with_reducible refine (c_holds n.world b _).mono ?_); rintro e w3 ⟨rfl, hb3⟩; replace hb3 := bl_tt hb3) | (go_at_call 49; (with_reducible refine (c_unless _ _ _).mono ?_); rintro e w3 ⟨rfl, rfl⟩) | (go_at_call 94; (with_reducible refine (c_ordered b _).mono ?_); rintro e w3 ⟨rfl, hb3⟩; replace hb3 := bl_tt hb3) | (go_at_call 48; (with_reducible refine (c_first3 (Blk.new _ _ _)).mono ?_); rintro e w3 ⟨rfl, rfl⟩))
  (try dsimp only)
  refine hK.out _ _ (by solve_by_elim (maxDepth := 60) only [bl_al, bl_drew, bl_drewN, bl_refl, *]) (fun hcur => ?_)
  clear hK K
  (try dsimp only at hcur)
  try simp only [Act.put, List.setIfInBounds_toArray, List.set_cons_zero, List.set_cons_succ]
  apply PlanW.on
  · (simp only [List.getElem?_toArray, List.getElem?_cons_succ, List.getElem?_cons_zero] <;> rfl)
  · rfl
  · (intro W hS; (try dsimp only at hS); go_simp <;> with_reducible rfl)
  try simp only [Act.put, List.setIfInBounds_toArray, List.set_cons_zero, List.set_cons_succ]
  refine PlanW.done ?_
  go_wp2
  go_ret
  exact ⟨by rw [hr.out] <;> rfl, by solve_by_elim (maxDepth := 60) only [bl_al, bl_drew, bl_drewN, bl_refl, *]⟩
end Go.Proofs.YtephimmamkafoaaGreat
namespace Go.Proofs.YtephimmamkafoaaGreat
set_option linter.unusedSimpArgs false
set_option linter.unusedVariables false
open Go.RowKit Go.Shelf
attribute [local go_sem] bl_al bl_drew bl_drewN bl_refl bx_al bx_drew bx_drewN bx_refl
set_option maxRecDepth 20000
theorem obErr (n : Nt) (b : Bx) : fstE [netErr n, boxErr n b] = boxErr n b := by
  have h : ∀ (a : Int) (l : List Int), fstE [a, fstE (a :: l)] = fstE (a :: l) := fun a l => by
    by_cases h : a = 0
    · simp only [fstE, h, if_true]
      split
      · omega
      · rfl
    · simp [fstE, h]
  exact h _ _
set_option maxHeartbeats 2000000 in
theorem c_openBox (n : Nt) (b : Bx) (A : Option Addr) (c : Nat) (w : World) (hn : NtIn n A c w) :
    Calls Tryz.prog 57 #[vNt n.world (.slice A n.bs.length c), vBx b] w (Ret (.tuple #[vON n.world (.slice A n.bs.length c), vBx b, .int .i64 (boxErr n b)]) w) := by
  have hcn := Lib.hid fun (W : World) (hb : Below w.heap.size w W) => c_open n A c W (hn.below hb)
  have hcb := Lib.hid fun (W : World) (hb : Below w.heap.size w W) => c_CheckBox n b A c W (hn.below hb)
  have hr := Lib.hid (obErr n b)
  clear hn
  generalize n.bs.length = nl at *
  go_enter Tryz.func57, Tryz.ntmps57
  go_wp2_with fail
  refine Calls.mono (hcn.out _ ?_) ?_
  · solve_by_elim (maxDepth := 60) only [bl_al, bl_drew, bl_drewN, bl_refl, *]
  rintro e w3 ⟨rfl, hb3⟩
  have k0 := ((((Blk.new w 28 (aNt n.world (.slice A nl c))).alloc (.cells (aBx b) 25)).alloc (.cells z13 94)).alloc (.cells z6 92)).below hb3
  have k1 := (((Blk.new (w.alloc (.cells (aNt n.world (.slice A nl c)) 28)) 25 (aBx b)).alloc (.cells z13 94)).alloc (.cells z6 92)).below hb3
  have k2 := ((Blk.new ((w.alloc (.cells (aNt n.world (.slice A nl c)) 28)).alloc (.cells (aBx b) 25)) 94 z13).alloc (.cells z6 92)).below hb3
  have k3 := (Blk.new (((w.alloc (.cells (aNt n.world (.slice A nl c)) 28)).alloc (.cells (aBx b) 25)).alloc (.cells z13 94)) 92 z6).below hb3
  simp only [World.size_alloc] at k1 k2 k3
  have hlt : w.heap.size + 4 ≤ w3.heap.size := by have := hb3.size; simp at this; omega
  replace hb3 := bl_tt hb3
  go_wp2_with fail
  refine abs1 (fun wb hb k4 => ?_)
  have L0 := (k0.below hb).laterX (X := [w.heap.size + 2, w.heap.size + 3]) (by simp)
  have L1 := (k1.below hb).laterX (X := [w.heap.size + 2, w.heap.size + 3]) (by simp)
  have L4 := k4.laterX (X := [w.heap.size + 2, w.heap.size + 3]) (by simp; omega)
  replace k2 := k2.below hb
  replace k3 := k3.below hb
  replace hb := bl_tt hb
  have hb0 : Below w.heap.size w wb := by solve_by_elim (maxDepth := 60) only [bl_al, bl_drew, bl_drewN, bl_refl, *]
  clear k0 k1 k4 hlt
  refine wp_plan [(0, true), (1, true), (3, true), (4, true), (5, true), (2, false), (6, false), (7, false), (8, false), (9, false), (10, false), (11, true)] (fun W => BX [w.heap.size + 2, w.heap.size + 3] wb W) (by kernel_rfl) (by kernel_rfl) (by kernel_rfl) (by solve_by_elim (maxDepth := 80) only [bx_al, bx_drew, bx_drewN, bx_refl, bx_set1, bx_set2, bx_set3, *]) ?_
  apply PlanW.on
  · (simp only [List.getElem?_toArray, List.getElem?_cons_succ, List.getElem?_cons_zero] <;> rfl)
  · rfl
  · (intro W hS; (try dsimp only at hS); go_simp <;> with_reducible rfl)
  try simp only [Act.put, List.setIfInBounds_toArray, List.set_cons_zero, List.set_cons_succ]
  apply PlanW.on
  · (simp only [List.getElem?_toArray, List.getElem?_cons_succ, List.getElem?_cons_zero] <;> rfl)
  · rfl
  · (intro W hS; (try dsimp only at hS); go_simp <;> with_reducible rfl)
  try simp only [Act.put, List.setIfInBounds_toArray, List.set_cons_zero, List.set_cons_succ]
  apply PlanW.on
  · (simp only [List.getElem?_toArray, List.getElem?_cons_succ, List.getElem?_cons_zero] <;> rfl)
  · rfl
  · (intro W hS; (try dsimp only at hS); go_simp <;> with_reducible rfl)
  try simp only [Act.put, List.setIfInBounds_toArray, List.set_cons_zero, List.set_cons_succ]
  apply PlanW.on
  · (simp only [List.getElem?_toArray, List.getElem?_cons_succ, List.getElem?_cons_zero] <;> rfl)
  · rfl
  · (intro W hS; (try dsimp only at hS); go_simp <;> with_reducible rfl)
  try simp only [Act.put, List.setIfInBounds_toArray, List.set_cons_zero, List.set_cons_succ]
  apply PlanW.on
  · (simp only [List.getElem?_toArray, List.getElem?_cons_succ, List.getElem?_cons_zero] <;> rfl)
  · rfl
  · (intro W hS; (try dsimp only at hS); go_simp <;> with_reducible rfl)
  try simp only [Act.put, List.setIfInBounds_toArray, List.set_cons_zero, List.set_cons_succ]
  apply PlanW.step
  · (simp only [List.getElem?_toArray, List.getElem?_cons_succ, List.getElem?_cons_zero] <;> rfl)
  · rfl
  intro K hK
  go_simp
  (first | (go_at_call 74; (with_reducible refine (c_of b _).mono ?_); rintro e w3 ⟨rfl, hb3⟩; replace hb3 := bx_tt hb3) | (go_at_call 97; refine Calls.mono (hcb.out _ ?_) ?_; exact BX.below (X := [w.heap.size + 2, w.heap.size + 3]) (by simp) hb0 (by solve_by_elim (maxDepth := 80) only [bx_al, bx_drew, bx_drewN, bx_refl, bx_set1, bx_set2, bx_set3, *]); rintro e w3 ⟨rfl, hb3⟩; replace hb3 := bx_tt hb3) | (go_at_call 48; (with_reducible refine (c_first2 (Blk.new _ _ _)).mono ?_); rintro e w3 ⟨rfl, rfl⟩))
  (try dsimp only)
  refine hK.out _ _ (by solve_by_elim (maxDepth := 80) only [bx_al, bx_drew, bx_drewN, bx_refl, bx_set1, bx_set2, bx_set3, *]) (fun hcur => ?_)
  clear hK K
  (try dsimp only at hcur)
  try simp only [Act.put, List.setIfInBounds_toArray, List.set_cons_zero, List.set_cons_succ]
  apply PlanW.step
  · (simp only [List.getElem?_toArray, List.getElem?_cons_succ, List.getElem?_cons_zero] <;> rfl)
  · rfl
  intro K hK
  go_simp
  (first | (go_at_call 74; (with_reducible refine (c_of b _).mono ?_); rintro e w3 ⟨rfl, hb3⟩; replace hb3 := bx_tt hb3) | (go_at_call 97; refine Calls.mono (hcb.out _ ?_) ?_; exact BX.below (X := [w.heap.size + 2, w.heap.size + 3]) (by simp) hb0 (by solve_by_elim (maxDepth := 80) only [bx_al, bx_drew, bx_drewN, bx_refl, bx_set1, bx_set2, bx_set3, *]); rintro e w3 ⟨rfl, hb3⟩; replace hb3 := bx_tt hb3) | (go_at_call 48; (with_reducible refine (c_first2 (Blk.new _ _ _)).mono ?_); rintro e w3 ⟨rfl, rfl⟩))
  (try dsimp only)
  refine hK.out _ _ (by solve_by_elim (maxDepth := 80) only [bx_al, bx_drew, bx_drewN, bx_refl, bx_set1, bx_set2, bx_set3, *]) (fun hcur => ?_)
  clear hK K
  (try dsimp only at hcur)
  try simp only [Act.put, List.setIfInBounds_toArray, List.set_cons_zero, List.set_cons_succ]
  apply PlanW.step
  · (simp only [List.getElem?_toArray, List.getElem?_cons_succ, List.getElem?_cons_zero] <;> rfl)
  · rfl
  intro K hK
  go_simp
  refine hK.out _ _ (by solve_by_elim (maxDepth := 80) only [bx_al, bx_drew, bx_drewN, bx_refl, bx_set1, bx_set2, bx_set3, *]) (fun hcur => ?_)
  clear hK K
  (try dsimp only at hcur)
  try simp only [Act.put, List.setIfInBounds_toArray, List.set_cons_zero, List.set_cons_succ]
  apply PlanW.step
  · (simp only [List.getElem?_toArray, List.getElem?_cons_succ, List.getElem?_cons_zero] <;> rfl)
  · rfl
  intro K hK
  go_simp
  (first | (go_at_call 74; (with_reducible refine (c_of b _).mono ?_); rintro e w3 ⟨rfl, hb3⟩; replace hb3 := bx_tt hb3) | (go_at_call 97; refine Calls.mono (hcb.out _ ?_) ?_; exact BX.below (X := [w.heap.size + 2, w.heap.size + 3]) (by simp) hb0 (by solve_by_elim (maxDepth := 80) only [bx_al, bx_drew, bx_drewN, bx_refl, bx_set1, bx_set2, bx_set3, *]); rintro e w3 ⟨rfl, hb3⟩; replace hb3 := bx_tt hb3) | (go_at_call 48; (with_reducible refine (c_first2 (Blk.new _ _ _)).mono ?_); rintro e w3 ⟨rfl, rfl⟩))
  (try dsimp only)
  refine hK.out _ _ (by solve_by_elim (maxDepth := 80) only [bx_al, bx_drew, bx_drewN, bx_refl, bx_set1, bx_set2, bx_set3, *]) (fun hcur => ?_)
  clear hK K
  (try dsimp only at hcur)
  try simp only [Act.put, List.setIfInBounds_toArray, List.set_cons_zero, List.set_cons_succ]
  apply PlanW.step
  · (simp only [List.getElem?_toArray, List.getElem?_cons_succ, List.getElem?_cons_zero] <;> rfl)
  · rfl
  intro K hK
  refine wp_store_keep (X := [w.heap.size + 2, w.heap.size + 3]) (w0 := wb) rfl rfl rfl (by solve_by_elim (maxDepth := 80) only [bx_al, bx_drew, bx_drewN, bx_refl, bx_set1, bx_set2, bx_set3, *]) (by assumption) (by simp) (by kernel_rfl) (by rfl) (by simp [Value.oneCell']) (fun hres1 hcur => ?_)
  refine hK.out _ _ hcur (fun _ => ?_)
  clear hK K
  try simp only [Act.put, List.setIfInBounds_toArray, List.set_cons_zero, List.set_cons_succ]
  apply PlanW.step
  · (simp only [List.getElem?_toArray, List.getElem?_cons_succ, List.getElem?_cons_zero] <;> rfl)
  · rfl
  intro K hK
  refine wp_store_keep (X := [w.heap.size + 2, w.heap.size + 3]) (w0 := wb) rfl rfl rfl (by solve_by_elim (maxDepth := 80) only [bx_al, bx_drew, bx_drewN, bx_refl, bx_set1, bx_set2, bx_set3, *]) (by assumption) (by simp) (by kernel_rfl) (by rfl) (by simp [Value.oneCell']) (fun hres2 hcur => ?_)
  refine hK.out _ _ hcur (fun _ => ?_)
  clear hK K
  try simp only [Act.put, List.setIfInBounds_toArray, List.set_cons_zero, List.set_cons_succ]
  apply PlanW.on
  · (simp only [List.getElem?_toArray, List.getElem?_cons_succ, List.getElem?_cons_zero] <;> rfl)
  · rfl
  · (intro W hS; (try dsimp only at hS); go_simp <;> with_reducible rfl)
  try simp only [Act.put, List.setIfInBounds_toArray, List.set_cons_zero, List.set_cons_succ]
  refine PlanW.done ?_
  have hr2 := hres2.cell
  have hr1 := fun vs => (hres1.rowOther (g' := w.heap.size + 3) (by omega) vs).cell
  go_wp2
  refine bodyPost_ret (v := .tuple #[vON n.world (.slice A nl c), vBx b, .int .i64 (boxErr n b)]) (by simp [results, Tryz.results57, go_sem, hr1, hr2, hr.out]) rfl ⟨rfl, ?_⟩
  exact hcur.below (by simp) hb0
end Go.Proofs.YtephimmamkafoaaGreat
