/-
  Walks: a box carried, and carried back.
-/
import Derived.Test.YtephimmamkafoaaAny
import Derived.Test.YtephimmamkafoaaMeet
import Derived.Test.YtephimmamkafoaaOBox
namespace Go.Proofs.Ytephimmamkafoaa
set_option linter.unusedSimpArgs false
set_option linter.unusedVariables false
open Go.RowKit Go.Shelf
attribute [local go_sem] bl_al bl_drew bl_drewN bl_refl bx_al bx_drew bx_drewN bx_refl index_b0 index_b1 index_b2
set_option maxRecDepth 20000
abbrev aON (b : Bx) (s : Value) : Array Value := #[.int .i64 b.x.lo, .int .i64 b.x.hi, .int .i64 b.y.lo, .int .i64 b.y.hi, .int .i64 b.z.lo, .int .i64 b.z.hi, s, .int .i64 b.x.lo, .int .i64 b.x.hi, .int .i64 b.y.lo, .int .i64 b.y.hi, .int .i64 b.z.lo, .int .i64 b.z.hi]
/-- Speeds within the limit, ticks too. -/
def Rg.in (r : Rg) (l : Int) : Prop := -l ≤ r.lo ∧ r.lo ≤ l ∧ -l ≤ r.hi ∧ r.hi ≤ l
def Bx.in (b : Bx) (l : Int) : Prop := b.x.in l ∧ b.y.in l ∧ b.z.in l
def Mv.ok (m : Mv) : Prop := 0 ≤ m.ticks ∧ m.ticks ≤ 1000 ∧ m.speed.in 100
theorem Bx.ok.in {b : Bx} (h : b.ok) : b.in 10000 := by
  obtain ⟨⟨x1, x2, x3⟩, ⟨y1, y2, y3⟩, ⟨z1, z2, z3⟩⟩ := h
  refine ⟨⟨?_, ?_, ?_, ?_⟩, ⟨?_, ?_, ?_, ?_⟩, ⟨?_, ?_, ?_, ?_⟩⟩ <;> omega
theorem Mv.ok.neg {m : Mv} (h : m.ok) : m.neg.ok := by
  obtain ⟨h1, h2, ⟨x1, x2, x3, x4⟩, ⟨y1, y2, y3, y4⟩, ⟨z1, z2, z3, z4⟩⟩ := h
  refine ⟨h1, h2, ⟨?_, ?_, ?_, ?_⟩, ⟨?_, ?_, ?_, ?_⟩, ⟨?_, ?_, ?_, ?_⟩⟩ <;> simp only [Mv.neg, Rg.neg] <;> omega
theorem tv_bd {t v : Int} (h1 : 0 ≤ t) (h2 : t ≤ 1000) (h3 : -100 ≤ v) (h4 : v ≤ 100) : -100000 ≤ t * v ∧ t * v ≤ 100000 := by
  have a1 := Int.mul_le_mul_of_nonneg_left h4 h1
  have a2 := Int.mul_le_mul_of_nonneg_left h3 h1
  omega
set_option maxHeartbeats 4000000 in
theorem c_carried (wd a : Bx) (m : Mv) (s : Value) (w : World) (ha : a.in 10000) (hm : m.ok) :
    Calls Try.prog 88 #[vON wd s, vBx a, vMv m] w (Ret (.tuple #[vBx (carried wd a m), .bool (carried wd a m).ordered]) w) := by
  obtain ⟨⟨x1, x2, x3, x4⟩, ⟨y1, y2, y3, y4⟩, ⟨z1, z2, z3, z4⟩⟩ := ha
  obtain ⟨h1, h2, ⟨u1, u2, u3, u4⟩, ⟨v1, v2, v3, v4⟩, ⟨w1, w2, w3, w4⟩⟩ := hm
  have bxl := tv_bd h1 h2 u1 u2
  have bxh := tv_bd h1 h2 u3 u4
  have byl := tv_bd h1 h2 v1 v2
  have byh := tv_bd h1 h2 v3 v4
  have bzl := tv_bd h1 h2 w1 w2
  have bzh := tv_bd h1 h2 w3 w4
  go_enter Try.func88, Try.ntmps88
  go_wp2_with ((go_at_call 59; (with_reducible refine (c_of m.speed _).mono ?_); rintro e w3 ⟨rfl, hb3⟩; replace hb3 := bl_tt hb3))

  have kk : (fun W => Below w.heap.size w W ∧ Blk W w.heap.size 127 (aON wd s) ∧ Blk W (w.heap.size + 1) 111 #[.int .i64 (a.x.lo), .int .i64 (a.x.hi), .int .i64 (a.y.lo), .int .i64 (a.y.hi), .int .i64 (a.z.lo), .int .i64 (a.z.hi)] ∧ Blk W (w.heap.size + 2) 60 (aMv m) ∧ Blk W (w.heap.size + 3) 111 z6) w3 := ⟨by solve_by_elim (maxDepth := 60) only [bl_al, bl_drew, bl_drewN, bl_refl, bl_setA, bl_setB, *], Blk.below (by (with_reducible repeat' (first | assumption | exact Blk.newAt (by simp; done) | refine Blk.alloc ?_ _ | refine Blk.drew ?_ | refine Blk.drewN ?_ _ | refine Blk.other ?_ (by first | (simp; done) | (simp; omega)) _ | exact Blk.set2 (by assumption) (by simp; done) | exact Blk.set1 (by assumption) (by simp; done)))) (hb3 _ (bl_refl _)), Blk.below (by (with_reducible repeat' (first | assumption | exact Blk.newAt (by simp; done) | refine Blk.alloc ?_ _ | refine Blk.drew ?_ | refine Blk.drewN ?_ _ | refine Blk.other ?_ (by first | (simp; done) | (simp; omega)) _ | exact Blk.set2 (by assumption) (by simp; done) | exact Blk.set1 (by assumption) (by simp; done)))) (hb3 _ (bl_refl _)), Blk.below (by (with_reducible repeat' (first | assumption | exact Blk.newAt (by simp; done) | refine Blk.alloc ?_ _ | refine Blk.drew ?_ | refine Blk.drewN ?_ _ | refine Blk.other ?_ (by first | (simp; done) | (simp; omega)) _ | exact Blk.set2 (by assumption) (by simp; done) | exact Blk.set1 (by assumption) (by simp; done)))) (hb3 _ (bl_refl _)), Blk.below (by (with_reducible repeat' (first | assumption | exact Blk.newAt (by simp; done) | refine Blk.alloc ?_ _ | refine Blk.drew ?_ | refine Blk.drewN ?_ _ | refine Blk.other ?_ (by first | (simp; done) | (simp; omega)) _ | exact Blk.set2 (by assumption) (by simp; done) | exact Blk.set1 (by assumption) (by simp; done)))) (hb3 _ (bl_refl _))⟩
  refine absC (C := fun W => Below w.heap.size w W ∧ Blk W w.heap.size 127 (aON wd s) ∧ Blk W (w.heap.size + 1) 111 #[.int .i64 (a.x.lo), .int .i64 (a.x.hi), .int .i64 (a.y.lo), .int .i64 (a.y.hi), .int .i64 (a.z.lo), .int .i64 (a.z.hi)] ∧ Blk W (w.heap.size + 2) 60 (aMv m) ∧ Blk W (w.heap.size + 3) 111 z6) kk (fun wa hw => ?_)
  clear kk hb3
  obtain ⟨hb0, k0, k1, k2, k3⟩ := hw
  have hlt := k3.lt
  refine wp_loop_rounds 4 ?_

  rw [rounds_succ]
  go_wp2
  refine wp_tailC (C := fun W => Below w.heap.size w W ∧ Blk W w.heap.size 127 (aON wd s) ∧ Blk W (w.heap.size + 1) 111 #[.int .i64 (a.x.lo), .int .i64 (a.x.hi), .int .i64 (a.y.lo), .int .i64 (a.y.hi), .int .i64 (a.z.lo), .int .i64 (a.z.hi)] ∧ Blk W (w.heap.size + 2) 60 (aMv m) ∧ Blk W (w.heap.size + 3) 111 z6 ∧ Blk W wa.heap.size 23 #[.int .i64 m.speed.x.lo, .int .i64 m.speed.x.hi]) 23 (by kernel_rfl) (by kernel_rfl) ⟨by solve_by_elim (maxDepth := 60) only [bl_al, bl_drew, bl_drewN, bl_refl, bl_setA, bl_setB, *], by (with_reducible repeat' (first | assumption | exact Blk.newAt (by simp; done) | refine Blk.alloc ?_ _ | refine Blk.drew ?_ | refine Blk.drewN ?_ _ | refine Blk.other ?_ (by first | (simp; done) | (simp; omega)) _ | exact Blk.set2 (by assumption) (by simp; done) | exact Blk.set1 (by assumption) (by simp; done))), by (with_reducible repeat' (first | assumption | exact Blk.newAt (by simp; done) | refine Blk.alloc ?_ _ | refine Blk.drew ?_ | refine Blk.drewN ?_ _ | refine Blk.other ?_ (by first | (simp; done) | (simp; omega)) _ | exact Blk.set2 (by assumption) (by simp; done) | exact Blk.set1 (by assumption) (by simp; done))), by (with_reducible repeat' (first | assumption | exact Blk.newAt (by simp; done) | refine Blk.alloc ?_ _ | refine Blk.drew ?_ | refine Blk.drewN ?_ _ | refine Blk.other ?_ (by first | (simp; done) | (simp; omega)) _ | exact Blk.set2 (by assumption) (by simp; done) | exact Blk.set1 (by assumption) (by simp; done))), by (with_reducible repeat' (first | assumption | exact Blk.newAt (by simp; done) | refine Blk.alloc ?_ _ | refine Blk.drew ?_ | refine Blk.drewN ?_ _ | refine Blk.other ?_ (by first | (simp; done) | (simp; omega)) _ | exact Blk.set2 (by assumption) (by simp; done) | exact Blk.set1 (by assumption) (by simp; done))), by (with_reducible repeat' (first | assumption | exact Blk.newAt (by simp; done) | refine Blk.alloc ?_ _ | refine Blk.drew ?_ | refine Blk.drewN ?_ _ | refine Blk.other ?_ (by first | (simp; done) | (simp; omega)) _ | exact Blk.set2 (by assumption) (by simp; done) | exact Blk.set1 (by assumption) (by simp; done)))⟩ (fun wb hw => ?_)
  clear hb0 k0 k1 k2 k3
  obtain ⟨hb0, k0, k1, k2, k3, k9⟩ := hw
  have L1 := k1.cell
  have F1 := k1.frozen
  have L2 := k2.cell
  have L9 := k9.cell
  simp only [List.take_succ_cons, List.take_zero, List.drop_succ_cons, List.drop_zero]
  repeat still_step
  refine wpStill_nil ?_
  go_wp2
  refine absR (C := fun W => Below w.heap.size w W ∧ Blk W w.heap.size 127 (aON wd s) ∧ Blk W (w.heap.size + 1) 111 #[.int .i64 (a.x.lo + m.ticks * m.speed.x.lo), .int .i64 (a.x.hi + m.ticks * m.speed.x.hi), .int .i64 (a.y.lo), .int .i64 (a.y.hi), .int .i64 (a.z.lo), .int .i64 (a.z.hi)] ∧ Blk W (w.heap.size + 2) 60 (aMv m) ∧ Blk W (w.heap.size + 3) 111 z6) ⟨by solve_by_elim (maxDepth := 60) only [bl_al, bl_drew, bl_drewN, bl_refl, bl_setA, bl_setB, *], by (with_reducible repeat' (first | assumption | exact Blk.newAt (by simp; done) | refine Blk.alloc ?_ _ | refine Blk.drew ?_ | refine Blk.drewN ?_ _ | refine Blk.other ?_ (by first | (simp; done) | (simp; omega)) _ | exact Blk.set2 (by assumption) (by simp; done) | exact Blk.set1 (by assumption) (by simp; done))), by (with_reducible repeat' (first | assumption | exact Blk.newAt (by simp; done) | refine Blk.alloc ?_ _ | refine Blk.drew ?_ | refine Blk.drewN ?_ _ | refine Blk.other ?_ (by first | (simp; done) | (simp; omega)) _ | exact Blk.set2 (by assumption) (by simp; done) | exact Blk.set1 (by assumption) (by simp; done))), by (with_reducible repeat' (first | assumption | exact Blk.newAt (by simp; done) | refine Blk.alloc ?_ _ | refine Blk.drew ?_ | refine Blk.drewN ?_ _ | refine Blk.other ?_ (by first | (simp; done) | (simp; omega)) _ | exact Blk.set2 (by assumption) (by simp; done) | exact Blk.set1 (by assumption) (by simp; done))), by (with_reducible repeat' (first | assumption | exact Blk.newAt (by simp; done) | refine Blk.alloc ?_ _ | refine Blk.drew ?_ | refine Blk.drewN ?_ _ | refine Blk.other ?_ (by first | (simp; done) | (simp; omega)) _ | exact Blk.set2 (by assumption) (by simp; done) | exact Blk.set1 (by assumption) (by simp; done)))⟩ (fun wa hw => ?_)
  clear hb0 k0 k1 k2 k3 L1 F1 L2 L9 k9 hlt
  obtain ⟨hb0, k0, k1, k2, k3⟩ := hw
  have hlt := k3.lt

  rw [rounds_succ]
  go_wp2
  refine wp_tailC (C := fun W => Below w.heap.size w W ∧ Blk W w.heap.size 127 (aON wd s) ∧ Blk W (w.heap.size + 1) 111 #[.int .i64 (a.x.lo + m.ticks * m.speed.x.lo), .int .i64 (a.x.hi + m.ticks * m.speed.x.hi), .int .i64 (a.y.lo), .int .i64 (a.y.hi), .int .i64 (a.z.lo), .int .i64 (a.z.hi)] ∧ Blk W (w.heap.size + 2) 60 (aMv m) ∧ Blk W (w.heap.size + 3) 111 z6 ∧ Blk W wa.heap.size 23 #[.int .i64 m.speed.y.lo, .int .i64 m.speed.y.hi]) 23 (by kernel_rfl) (by kernel_rfl) ⟨by solve_by_elim (maxDepth := 60) only [bl_al, bl_drew, bl_drewN, bl_refl, bl_setA, bl_setB, *], by (with_reducible repeat' (first | assumption | exact Blk.newAt (by simp; done) | refine Blk.alloc ?_ _ | refine Blk.drew ?_ | refine Blk.drewN ?_ _ | refine Blk.other ?_ (by first | (simp; done) | (simp; omega)) _ | exact Blk.set2 (by assumption) (by simp; done) | exact Blk.set1 (by assumption) (by simp; done))), by (with_reducible repeat' (first | assumption | exact Blk.newAt (by simp; done) | refine Blk.alloc ?_ _ | refine Blk.drew ?_ | refine Blk.drewN ?_ _ | refine Blk.other ?_ (by first | (simp; done) | (simp; omega)) _ | exact Blk.set2 (by assumption) (by simp; done) | exact Blk.set1 (by assumption) (by simp; done))), by (with_reducible repeat' (first | assumption | exact Blk.newAt (by simp; done) | refine Blk.alloc ?_ _ | refine Blk.drew ?_ | refine Blk.drewN ?_ _ | refine Blk.other ?_ (by first | (simp; done) | (simp; omega)) _ | exact Blk.set2 (by assumption) (by simp; done) | exact Blk.set1 (by assumption) (by simp; done))), by (with_reducible repeat' (first | assumption | exact Blk.newAt (by simp; done) | refine Blk.alloc ?_ _ | refine Blk.drew ?_ | refine Blk.drewN ?_ _ | refine Blk.other ?_ (by first | (simp; done) | (simp; omega)) _ | exact Blk.set2 (by assumption) (by simp; done) | exact Blk.set1 (by assumption) (by simp; done))), by (with_reducible repeat' (first | assumption | exact Blk.newAt (by simp; done) | refine Blk.alloc ?_ _ | refine Blk.drew ?_ | refine Blk.drewN ?_ _ | refine Blk.other ?_ (by first | (simp; done) | (simp; omega)) _ | exact Blk.set2 (by assumption) (by simp; done) | exact Blk.set1 (by assumption) (by simp; done)))⟩ (fun wb hw => ?_)
  clear hb0 k0 k1 k2 k3
  obtain ⟨hb0, k0, k1, k2, k3, k9⟩ := hw
  have L1 := k1.cell
  have F1 := k1.frozen
  have L2 := k2.cell
  have L9 := k9.cell
  simp only [List.take_succ_cons, List.take_zero, List.drop_succ_cons, List.drop_zero]
  repeat still_step
  refine wpStill_nil ?_
  go_wp2
  refine absR (C := fun W => Below w.heap.size w W ∧ Blk W w.heap.size 127 (aON wd s) ∧ Blk W (w.heap.size + 1) 111 #[.int .i64 (a.x.lo + m.ticks * m.speed.x.lo), .int .i64 (a.x.hi + m.ticks * m.speed.x.hi), .int .i64 (a.y.lo + m.ticks * m.speed.y.lo), .int .i64 (a.y.hi + m.ticks * m.speed.y.hi), .int .i64 (a.z.lo), .int .i64 (a.z.hi)] ∧ Blk W (w.heap.size + 2) 60 (aMv m) ∧ Blk W (w.heap.size + 3) 111 z6) ⟨by solve_by_elim (maxDepth := 60) only [bl_al, bl_drew, bl_drewN, bl_refl, bl_setA, bl_setB, *], by (with_reducible repeat' (first | assumption | exact Blk.newAt (by simp; done) | refine Blk.alloc ?_ _ | refine Blk.drew ?_ | refine Blk.drewN ?_ _ | refine Blk.other ?_ (by first | (simp; done) | (simp; omega)) _ | exact Blk.set2 (by assumption) (by simp; done) | exact Blk.set1 (by assumption) (by simp; done))), by (with_reducible repeat' (first | assumption | exact Blk.newAt (by simp; done) | refine Blk.alloc ?_ _ | refine Blk.drew ?_ | refine Blk.drewN ?_ _ | refine Blk.other ?_ (by first | (simp; done) | (simp; omega)) _ | exact Blk.set2 (by assumption) (by simp; done) | exact Blk.set1 (by assumption) (by simp; done))), by (with_reducible repeat' (first | assumption | exact Blk.newAt (by simp; done) | refine Blk.alloc ?_ _ | refine Blk.drew ?_ | refine Blk.drewN ?_ _ | refine Blk.other ?_ (by first | (simp; done) | (simp; omega)) _ | exact Blk.set2 (by assumption) (by simp; done) | exact Blk.set1 (by assumption) (by simp; done))), by (with_reducible repeat' (first | assumption | exact Blk.newAt (by simp; done) | refine Blk.alloc ?_ _ | refine Blk.drew ?_ | refine Blk.drewN ?_ _ | refine Blk.other ?_ (by first | (simp; done) | (simp; omega)) _ | exact Blk.set2 (by assumption) (by simp; done) | exact Blk.set1 (by assumption) (by simp; done)))⟩ (fun wa hw => ?_)
  clear hb0 k0 k1 k2 k3 L1 F1 L2 L9 k9 hlt
  obtain ⟨hb0, k0, k1, k2, k3⟩ := hw
  have hlt := k3.lt

  rw [rounds_succ]
  go_wp2
  refine wp_tailC (C := fun W => Below w.heap.size w W ∧ Blk W w.heap.size 127 (aON wd s) ∧ Blk W (w.heap.size + 1) 111 #[.int .i64 (a.x.lo + m.ticks * m.speed.x.lo), .int .i64 (a.x.hi + m.ticks * m.speed.x.hi), .int .i64 (a.y.lo + m.ticks * m.speed.y.lo), .int .i64 (a.y.hi + m.ticks * m.speed.y.hi), .int .i64 (a.z.lo), .int .i64 (a.z.hi)] ∧ Blk W (w.heap.size + 2) 60 (aMv m) ∧ Blk W (w.heap.size + 3) 111 z6 ∧ Blk W wa.heap.size 23 #[.int .i64 m.speed.z.lo, .int .i64 m.speed.z.hi]) 23 (by kernel_rfl) (by kernel_rfl) ⟨by solve_by_elim (maxDepth := 60) only [bl_al, bl_drew, bl_drewN, bl_refl, bl_setA, bl_setB, *], by (with_reducible repeat' (first | assumption | exact Blk.newAt (by simp; done) | refine Blk.alloc ?_ _ | refine Blk.drew ?_ | refine Blk.drewN ?_ _ | refine Blk.other ?_ (by first | (simp; done) | (simp; omega)) _ | exact Blk.set2 (by assumption) (by simp; done) | exact Blk.set1 (by assumption) (by simp; done))), by (with_reducible repeat' (first | assumption | exact Blk.newAt (by simp; done) | refine Blk.alloc ?_ _ | refine Blk.drew ?_ | refine Blk.drewN ?_ _ | refine Blk.other ?_ (by first | (simp; done) | (simp; omega)) _ | exact Blk.set2 (by assumption) (by simp; done) | exact Blk.set1 (by assumption) (by simp; done))), by (with_reducible repeat' (first | assumption | exact Blk.newAt (by simp; done) | refine Blk.alloc ?_ _ | refine Blk.drew ?_ | refine Blk.drewN ?_ _ | refine Blk.other ?_ (by first | (simp; done) | (simp; omega)) _ | exact Blk.set2 (by assumption) (by simp; done) | exact Blk.set1 (by assumption) (by simp; done))), by (with_reducible repeat' (first | assumption | exact Blk.newAt (by simp; done) | refine Blk.alloc ?_ _ | refine Blk.drew ?_ | refine Blk.drewN ?_ _ | refine Blk.other ?_ (by first | (simp; done) | (simp; omega)) _ | exact Blk.set2 (by assumption) (by simp; done) | exact Blk.set1 (by assumption) (by simp; done))), by (with_reducible repeat' (first | assumption | exact Blk.newAt (by simp; done) | refine Blk.alloc ?_ _ | refine Blk.drew ?_ | refine Blk.drewN ?_ _ | refine Blk.other ?_ (by first | (simp; done) | (simp; omega)) _ | exact Blk.set2 (by assumption) (by simp; done) | exact Blk.set1 (by assumption) (by simp; done)))⟩ (fun wb hw => ?_)
  clear hb0 k0 k1 k2 k3
  obtain ⟨hb0, k0, k1, k2, k3, k9⟩ := hw
  have L1 := k1.cell
  have F1 := k1.frozen
  have L2 := k2.cell
  have L9 := k9.cell
  simp only [List.take_succ_cons, List.take_zero, List.drop_succ_cons, List.drop_zero]
  repeat still_step
  refine wpStill_nil ?_
  go_wp2
  refine absR (C := fun W => Below w.heap.size w W ∧ Blk W w.heap.size 127 (aON wd s) ∧ Blk W (w.heap.size + 1) 111 #[.int .i64 (a.x.lo + m.ticks * m.speed.x.lo), .int .i64 (a.x.hi + m.ticks * m.speed.x.hi), .int .i64 (a.y.lo + m.ticks * m.speed.y.lo), .int .i64 (a.y.hi + m.ticks * m.speed.y.hi), .int .i64 (a.z.lo + m.ticks * m.speed.z.lo), .int .i64 (a.z.hi + m.ticks * m.speed.z.hi)] ∧ Blk W (w.heap.size + 2) 60 (aMv m) ∧ Blk W (w.heap.size + 3) 111 z6) ⟨by solve_by_elim (maxDepth := 60) only [bl_al, bl_drew, bl_drewN, bl_refl, bl_setA, bl_setB, *], by (with_reducible repeat' (first | assumption | exact Blk.newAt (by simp; done) | refine Blk.alloc ?_ _ | refine Blk.drew ?_ | refine Blk.drewN ?_ _ | refine Blk.other ?_ (by first | (simp; done) | (simp; omega)) _ | exact Blk.set2 (by assumption) (by simp; done) | exact Blk.set1 (by assumption) (by simp; done))), by (with_reducible repeat' (first | assumption | exact Blk.newAt (by simp; done) | refine Blk.alloc ?_ _ | refine Blk.drew ?_ | refine Blk.drewN ?_ _ | refine Blk.other ?_ (by first | (simp; done) | (simp; omega)) _ | exact Blk.set2 (by assumption) (by simp; done) | exact Blk.set1 (by assumption) (by simp; done))), by (with_reducible repeat' (first | assumption | exact Blk.newAt (by simp; done) | refine Blk.alloc ?_ _ | refine Blk.drew ?_ | refine Blk.drewN ?_ _ | refine Blk.other ?_ (by first | (simp; done) | (simp; omega)) _ | exact Blk.set2 (by assumption) (by simp; done) | exact Blk.set1 (by assumption) (by simp; done))), by (with_reducible repeat' (first | assumption | exact Blk.newAt (by simp; done) | refine Blk.alloc ?_ _ | refine Blk.drew ?_ | refine Blk.drewN ?_ _ | refine Blk.other ?_ (by first | (simp; done) | (simp; omega)) _ | exact Blk.set2 (by assumption) (by simp; done) | exact Blk.set1 (by assumption) (by simp; done)))⟩ (fun wa hw => ?_)
  clear hb0 k0 k1 k2 k3 L1 F1 L2 L9 k9 hlt
  obtain ⟨hb0, k0, k1, k2, k3⟩ := hw
  have hlt := k3.lt

  have L0 := k0.later
  have L1 := k1.later
  have L3 := k3.later
  have F3 := k3.laterF
  rw [rounds_succ]
  go_wp2_with ((go_at_call 119; (with_reducible refine (c_meet ⟨⟨a.x.lo + m.ticks * m.speed.x.lo, a.x.hi + m.ticks * m.speed.x.hi⟩, ⟨a.y.lo + m.ticks * m.speed.y.lo, a.y.hi + m.ticks * m.speed.y.hi⟩, ⟨a.z.lo + m.ticks * m.speed.z.lo, a.z.hi + m.ticks * m.speed.z.hi⟩⟩ wd _).mono ?_); rintro e w3 ⟨rfl, hb3⟩; replace hb3 := bl_tt hb3))
  refine ret1 (Blk.set6 (k3.below (hb3 _ (bl_refl _)))) (C := fun W => Below w.heap.size w W) (bl_set6 (by omega) (hb3 _ hb0)) (fun wf kf hbf => ?_)
  have hr := kf.cell
  refine bodyPost_ret (v := .tuple #[vBx (carried wd a m), .bool (carried wd a m).ordered]) (by simp [results, Try.results88, go_sem, hr]; repeat' (first | rfl | apply And.intro)) rfl ⟨rfl, hbf⟩
end Go.Proofs.Ytephimmamkafoaa
