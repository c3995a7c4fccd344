/-
  Walks over the three sides of a box: its size, whether it holds another one.
-/
import Derived.Test.YtephimmamkafoaaNet
namespace Go.Proofs.Ytephimmamkafoaa
set_option linter.unusedSimpArgs false
set_option linter.unusedVariables false
open Go.RowKit Go.Shelf
attribute [local go_sem] bl_al bl_drew bl_drewN bl_refl
set_option maxRecDepth 20000
abbrev z6 : Array Value := #[.int .i64 0, .int .i64 0, .int .i64 0, .int .i64 0, .int .i64 0, .int .i64 0]
theorem index_b0 (a b c d e f : Int) (w : World) : (Instr.index 111 (.agg #[.int .i64 a, .int .i64 b, .int .i64 c, .int .i64 d, .int .i64 e, .int .i64 f]) (.int .i64 0)).run Try.prog w = .ok (.agg #[.int .i64 a, .int .i64 b]) w := by kernel_rfl
theorem index_b1 (a b c d e f : Int) (w : World) : (Instr.index 111 (.agg #[.int .i64 a, .int .i64 b, .int .i64 c, .int .i64 d, .int .i64 e, .int .i64 f]) (.int .i64 1)).run Try.prog w = .ok (.agg #[.int .i64 c, .int .i64 d]) w := by kernel_rfl
theorem index_b2 (a b c d e f : Int) (w : World) : (Instr.index 111 (.agg #[.int .i64 a, .int .i64 b, .int .i64 c, .int .i64 d, .int .i64 e, .int .i64 f]) (.int .i64 2)).run Try.prog w = .ok (.agg #[.int .i64 e, .int .i64 f]) w := by kernel_rfl
theorem index_p0 (a b c : Int) (w : World) : (Instr.index 119 (.agg #[.int .i64 a, .int .i64 b, .int .i64 c]) (.int .i64 0)).run Try.prog w = .ok (.int .i64 a) w := by kernel_rfl
theorem index_p1 (a b c : Int) (w : World) : (Instr.index 119 (.agg #[.int .i64 a, .int .i64 b, .int .i64 c]) (.int .i64 1)).run Try.prog w = .ok (.int .i64 b) w := by kernel_rfl
theorem index_p2 (a b c : Int) (w : World) : (Instr.index 119 (.agg #[.int .i64 a, .int .i64 b, .int .i64 c]) (.int .i64 2)).run Try.prog w = .ok (.int .i64 c) w := by kernel_rfl
attribute [local go_sem] index_b0 index_b1 index_b2 index_p0 index_p1 index_p2
theorem mul_bd {a b m n : Int} (h1 : 0 ≤ a) (h2 : a ≤ m) (h3 : 0 ≤ b) (h4 : b ≤ n) : 0 ≤ a * b ∧ a * b ≤ m * n :=
  ⟨Int.mul_nonneg h1 h3, Int.le_trans (Int.mul_le_mul_of_nonneg_right h2 h3) (Int.mul_le_mul_of_nonneg_left h4 (by omega))⟩
/-- A range that lies in the world. -/
def Rg.ok (r : Rg) : Prop := -10000 ≤ r.lo ∧ r.lo ≤ r.hi ∧ r.hi ≤ 10000
def Bx.ok (b : Bx) : Prop := b.x.ok ∧ b.y.ok ∧ b.z.ok
def Bx.size (a : Bx) : Int := (a.x.hi - a.x.lo + 1) * (a.y.hi - a.y.lo + 1) * (a.z.hi - a.z.lo + 1)
set_option maxHeartbeats 1000000 in
theorem c_size (a : Bx) (w : World) (ha : a.ok) : Calls Try.prog 115 #[vBx a] w (Ret (.int .i64 a.size) w) := by
  obtain ⟨⟨x1, x2, x3⟩, ⟨y1, y2, y3⟩, ⟨z1, z2, z3⟩⟩ := ha
  obtain ⟨p1, p2⟩ := mul_bd (a := a.x.hi - a.x.lo + 1) (b := a.y.hi - a.y.lo + 1) (m := 20001) (n := 20001) (by omega) (by omega) (by omega) (by omega)
  obtain ⟨q1, q2⟩ := mul_bd (a := (a.x.hi - a.x.lo + 1) * (a.y.hi - a.y.lo + 1)) (b := a.z.hi - a.z.lo + 1) (m := 400040001) (n := 20001) p1 p2 (by omega) (by omega)
  go_enter Try.func115, Try.ntmps115
  go_wp2
  refine wp_loop_rounds 4 ?_
  rw [rounds_succ]
  go_wp2
  rw [rounds_succ]
  go_wp2
  rw [rounds_succ]
  go_wp2
  rw [rounds_succ]
  go_wp2
  go_ret
  exact ⟨rfl, by solve_by_elim (maxDepth := 60) only [bl_al, bl_drew, bl_drewN, bl_refl, *]⟩
set_option maxHeartbeats 1000000 in
theorem c_search (a : Bx) (w : World) (ha : a.ok) : Calls Try.prog 83 #[vBx a] w (Ret (.int .i64 (unl (decide (a.size ≤ 20000)) 8)) w) := by
  go_enter Try.func83, Try.ntmps83
  go_wp2_with (first | (go_at_call 115; (with_reducible refine (c_size a _ ha).mono ?_); rintro e w3 ⟨rfl, hb3⟩; replace hb3 := bl_tt hb3) | (go_at_call 61; (with_reducible refine (c_unless _ _ _).mono ?_); rintro e w3 ⟨rfl, rfl⟩))
  go_ret
  exact ⟨rfl, by solve_by_elim (maxDepth := 60) only [bl_al, bl_drew, bl_drewN, bl_refl, *]⟩

set_option maxHeartbeats 2000000 in
theorem c_holds (a o : Bx) (w : World) : Calls Try.prog 78 #[vBx a, vBx o] w (Ret (.bool (a.holds o)) w) := by
  by_cases p0 : a.x.lo ≤ o.x.lo
  case neg =>
    have d0 : decide (o.x.lo < a.x.lo) = true := by simp; omega
    go_enter Try.func78, Try.ntmps78
    go_wp2
    refine wp_loop_rounds 4 ?_
    rw [rounds_succ]
    go_wp2
    go_quiet (fail)
    go_wp2
    go_ret
    exact ⟨by simp [Bx.holds]; omega, by solve_by_elim (maxDepth := 60) only [bl_al, bl_drew, bl_drewN, bl_refl, *]⟩
  have d0 : decide (o.x.lo < a.x.lo) = false := by simp; omega
  by_cases q0 : o.x.hi ≤ a.x.hi
  case neg =>
    have e0 : decide (a.x.hi < o.x.hi) = true := by simp; omega
    go_enter Try.func78, Try.ntmps78
    go_wp2
    refine wp_loop_rounds 4 ?_
    rw [rounds_succ]
    go_wp2
    go_quiet (fail)
    go_wp2
    go_ret
    exact ⟨by simp [Bx.holds]; omega, by solve_by_elim (maxDepth := 60) only [bl_al, bl_drew, bl_drewN, bl_refl, *]⟩
  have e0 : decide (a.x.hi < o.x.hi) = false := by simp; omega
  by_cases p1 : a.y.lo ≤ o.y.lo
  case neg =>
    have d1 : decide (o.y.lo < a.y.lo) = true := by simp; omega
    go_enter Try.func78, Try.ntmps78
    go_wp2
    refine wp_loop_rounds 4 ?_
    rw [rounds_succ]
    go_wp2
    go_quiet (fail)
    go_wp2
    rw [rounds_succ]
    go_wp2
    go_quiet (fail)
    go_wp2
    go_ret
    exact ⟨by simp [Bx.holds]; omega, by solve_by_elim (maxDepth := 60) only [bl_al, bl_drew, bl_drewN, bl_refl, *]⟩
  have d1 : decide (o.y.lo < a.y.lo) = false := by simp; omega
  by_cases q1 : o.y.hi ≤ a.y.hi
  case neg =>
    have e1 : decide (a.y.hi < o.y.hi) = true := by simp; omega
    go_enter Try.func78, Try.ntmps78
    go_wp2
    refine wp_loop_rounds 4 ?_
    rw [rounds_succ]
    go_wp2
    go_quiet (fail)
    go_wp2
    rw [rounds_succ]
    go_wp2
    go_quiet (fail)
    go_wp2
    go_ret
    exact ⟨by simp [Bx.holds]; omega, by solve_by_elim (maxDepth := 60) only [bl_al, bl_drew, bl_drewN, bl_refl, *]⟩
  have e1 : decide (a.y.hi < o.y.hi) = false := by simp; omega
  by_cases p2 : a.z.lo ≤ o.z.lo
  case neg =>
    have d2 : decide (o.z.lo < a.z.lo) = true := by simp; omega
    go_enter Try.func78, Try.ntmps78
    go_wp2
    refine wp_loop_rounds 4 ?_
    rw [rounds_succ]
    go_wp2
    go_quiet (fail)
    go_wp2
    rw [rounds_succ]
    go_wp2
    go_quiet (fail)
    go_wp2
    rw [rounds_succ]
    go_wp2
    go_quiet (fail)
    go_wp2
    go_ret
    exact ⟨by simp [Bx.holds]; omega, by solve_by_elim (maxDepth := 60) only [bl_al, bl_drew, bl_drewN, bl_refl, *]⟩
  have d2 : decide (o.z.lo < a.z.lo) = false := by simp; omega
  by_cases q2 : o.z.hi ≤ a.z.hi
  case neg =>
    have e2 : decide (a.z.hi < o.z.hi) = true := by simp; omega
    go_enter Try.func78, Try.ntmps78
    go_wp2
    refine wp_loop_rounds 4 ?_
    rw [rounds_succ]
    go_wp2
    go_quiet (fail)
    go_wp2
    rw [rounds_succ]
    go_wp2
    go_quiet (fail)
    go_wp2
    rw [rounds_succ]
    go_wp2
    go_quiet (fail)
    go_wp2
    go_ret
    exact ⟨by simp [Bx.holds]; omega, by solve_by_elim (maxDepth := 60) only [bl_al, bl_drew, bl_drewN, bl_refl, *]⟩
  have e2 : decide (a.z.hi < o.z.hi) = false := by simp; omega
  go_enter Try.func78, Try.ntmps78
  go_wp2
  refine wp_loop_rounds 4 ?_
  rw [rounds_succ]
  go_wp2
  go_quiet (fail)
  go_wp2
  rw [rounds_succ]
  go_wp2
  go_quiet (fail)
  go_wp2
  rw [rounds_succ]
  go_wp2
  go_quiet (fail)
  go_wp2
  rw [rounds_succ]
  go_wp2
  go_ret
  exact ⟨by simp [Bx.holds]; omega, by solve_by_elim (maxDepth := 60) only [bl_al, bl_drew, bl_drewN, bl_refl, *]⟩
end Go.Proofs.Ytephimmamkafoaa
