/-
  Walks: whether a box is sized, whether a string is a name, which nets and boxes are valid.
-/
import Derived.Test.YtephimmamkafoaaW1
namespace Go.Proofs.Ytephimmamkafoaa
set_option linter.unusedSimpArgs false
set_option linter.unusedVariables false
open Go.RowKit Go.Shelf
attribute [local go_sem] bl_al bl_drew bl_drewN bl_refl
set_option maxRecDepth 20000

set_option maxHeartbeats 400000 in
theorem c_szd1 (x : Rg) (l : Int) (B : Nat) (w : World) (h1 : -1000000 ≤ l) (h2 : l ≤ 1000000) (hB : w.cell? ⟨B, 0, none⟩ = some (.int .i64 l)) :
    Calls Try.prog 111 #[vRg x, .pointer (some ⟨B, 0, none⟩)] w (Ret (.bool (!szd x.lo l || !szd x.hi l)) w) := by
  have hB' := later hB
  have hlt := World.block_lt_of_cell? w _ hB
  clear hB
  have hn : B ≠ w.heap.size := Nat.ne_of_lt hlt
  cases hx : szd x.lo l
  all_goals
    go_enter Try.func111, Try.ntmps111
    go_wp2_with (go_at_call 71; (with_reducible refine (c_sized _ _ _ h1 h2).mono ?_); rintro e w3 ⟨rfl, rfl⟩)
    go_ret
    exact ⟨by simp, by solve_by_elim (maxDepth := 60) only [bl_al, bl_drew, bl_drewN, bl_refl, *]⟩

end Go.Proofs.Ytephimmamkafoaa
