/-
  Walks: whether a position lies in a box, whether there is a beacon with an index.
-/
import Derived.Test.YtephimmamkafoaaOpen
import Derived.Test.YtephimmamkafoaaSides
namespace Go.Proofs.Ytephimmamkafoaa
set_option linter.unusedSimpArgs false
set_option linter.unusedVariables false
open Go.RowKit Go.Shelf
attribute [local go_sem] bl_al bl_drew bl_drewN bl_refl index_b0 index_b1 index_b2 index_p0 index_p1 index_p2
set_option maxRecDepth 20000
theorem quiet_same {P : Program} {f : FuncId} {args : Array Value} {w : World} {n : Nat} {v : Value} (h : ∀ W, Calls P f args W (Same v W)) : Calls P f args (w.drewN n) fun e w'' => e = .returned v ∧ ∃ m, w'' = w.drewN m :=
  (h _).mono fun _ _ ⟨he, hm⟩ => ⟨he, n, hm.symm⟩

set_option maxHeartbeats 2000000 in
theorem c_has (a : Bx) (p : Pl) (w : World) : Calls Try.prog 94 #[vBx a, vPl p] w (Ret (.bool (a.has p)) w) := by
  cases p0 : inR p.x a.x.lo a.x.hi
  case false =>
    go_enter Try.func94, Try.ntmps94
    go_wp2
    refine wp_loop_rounds 4 ?_
    rw [rounds_succ]
    go_wp2
    go_quiet ((go_at_call 74; exact quiet_same (fun W => c_within _ _ _ W)))
    go_wp2
    go_ret
    exact ⟨by simp [Bx.has, *], by solve_by_elim (maxDepth := 60) only [bl_al, bl_drew, bl_drewN, bl_refl, *]⟩
  cases p1 : inR p.y a.y.lo a.y.hi
  case false =>
    go_enter Try.func94, Try.ntmps94
    go_wp2
    refine wp_loop_rounds 4 ?_
    rw [rounds_succ]
    go_wp2
    go_quiet ((go_at_call 74; exact quiet_same (fun W => c_within _ _ _ W)))
    go_wp2
    rw [rounds_succ]
    go_wp2
    go_quiet ((go_at_call 74; exact quiet_same (fun W => c_within _ _ _ W)))
    go_wp2
    go_ret
    exact ⟨by simp [Bx.has, *], by solve_by_elim (maxDepth := 60) only [bl_al, bl_drew, bl_drewN, bl_refl, *]⟩
  cases p2 : inR p.z a.z.lo a.z.hi
  case false =>
    go_enter Try.func94, Try.ntmps94
    go_wp2
    refine wp_loop_rounds 4 ?_
    rw [rounds_succ]
    go_wp2
    go_quiet ((go_at_call 74; exact quiet_same (fun W => c_within _ _ _ W)))
    go_wp2
    rw [rounds_succ]
    go_wp2
    go_quiet ((go_at_call 74; exact quiet_same (fun W => c_within _ _ _ W)))
    go_wp2
    rw [rounds_succ]
    go_wp2
    go_quiet ((go_at_call 74; exact quiet_same (fun W => c_within _ _ _ W)))
    go_wp2
    go_ret
    exact ⟨by simp [Bx.has, *], by solve_by_elim (maxDepth := 60) only [bl_al, bl_drew, bl_drewN, bl_refl, *]⟩
  go_enter Try.func94, Try.ntmps94
  go_wp2
  refine wp_loop_rounds 4 ?_
  rw [rounds_succ]
  go_wp2
  go_quiet ((go_at_call 74; exact quiet_same (fun W => c_within _ _ _ W)))
  go_wp2
  rw [rounds_succ]
  go_wp2
  go_quiet ((go_at_call 74; exact quiet_same (fun W => c_within _ _ _ W)))
  go_wp2
  rw [rounds_succ]
  go_wp2
  go_quiet ((go_at_call 74; exact quiet_same (fun W => c_within _ _ _ W)))
  go_wp2
  rw [rounds_succ]
  go_wp2
  go_ret
  exact ⟨by simp [Bx.has, *], by solve_by_elim (maxDepth := 60) only [bl_al, bl_drew, bl_drewN, bl_refl, *]⟩

set_option maxHeartbeats 1000000 in
theorem c_isBeacon (b : Bx) (A : Option Addr) (n c : Nat) (i : Int) (w : World) (hn : n ≤ 1000) : Calls Try.prog 92 #[vON b (.slice A n c), .int .i64 i] w (Ret (.bool (inR i 0 ((n : Int) - 1))) w) := by
  go_enter Try.func92, Try.ntmps92
  go_wp2_with (go_at_call 74; (with_reducible refine (c_within _ _ _ _).mono ?_); rintro e w3 ⟨rfl, rfl⟩)
  go_ret
  exact ⟨rfl, by solve_by_elim (maxDepth := 60) only [bl_al, bl_drew, bl_drewN, bl_refl, *]⟩
end Go.Proofs.Ytephimmamkafoaa
