/-
  Walk: how many bits of a small number are set.
-/
import Derived.Test.YtephimmamkafoaaAbs
import Derived.Laws.BitsAllLaws
namespace Go.Proofs.Ytephimmamkafoaa
set_option linter.unusedSimpArgs false
set_option linter.unusedVariables false
open Go.RowKit
attribute [local go_sem] bl_al bl_drew bl_drewN bl_refl
set_option maxRecDepth 20000
def popc (s : Nat) : Nat := (List.range 8).countP fun i => s.testBit i
theorem c_Ones64 : ∃ f : Nat → Int, (∀ (s : Nat) (w : World), Calls Try.prog 125 #[.int .u64 (s : Nat)] w (Same (.int .i64 (f s)) w)) ∧ ∀ s, s < 256 → f s = (popc s : Nat) := by
  apply Exists.intro
  apply And.intro
  · intro s w
    go_enter Try.func125, Try.ntmps125
    go_wp2
    go_ret
    exact ⟨rfl, rfl⟩
  · decide +kernel
theorem c_Ones (s : Nat) (w : World) (hs : s < 256) : Calls Try.prog 116 #[.int .u64 (s : Nat)] w (Same (.int .i64 (popc s : Nat)) w) := by
  obtain ⟨f, h1, h2⟩ := c_Ones64
  have hc := Lib.hid fun W : World => h1 s W
  have e := h2 s hs
  rw [e] at hc
  clear h1 h2 e hs
  go_enter Try.func116, Try.ntmps116
  go_wp2_with (go_at_call 125; (with_reducible refine (hc.out _).mono ?_); rintro e w3 ⟨rfl, rfl⟩)
  go_ret
  exact ⟨rfl, rfl⟩
end Go.Proofs.Ytephimmamkafoaa
