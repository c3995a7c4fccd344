/-
  The document's examples: what the specification answers at them.
-/
import Derived.Test.YtephimmamkafoaaWrongOf
import Derived.Test.YtephimmamkafoaaAns
import Derived.Test.YtephimmamkafoaaMoved
import Derived.Test.YtephimmamkafoaaDepth
namespace Go.Proofs.Ytephimmamkafoaa
set_option linter.unusedSimpArgs false
set_option linter.unusedVariables false
open Go.RowKit
def net0 : Nt := ⟨⟨⟨-10, 10⟩, ⟨-10, 10⟩, ⟨0, 20⟩⟩, [⟨⟨#[97]⟩, ⟨0, 0, 0⟩⟩, ⟨⟨#[98]⟩, ⟨6, 0, 0⟩⟩]⟩
def start0 : Bx := ⟨⟨0, 4⟩, ⟨0, 0⟩, ⟨3, 3⟩⟩
def move0 : Mv := ⟨2, ⟨⟨1, 3⟩, ⟨0, 1⟩, ⟨-1, 0⟩⟩⟩
def field0 : Bx := ⟨⟨0, 6⟩, ⟨0, 0⟩, ⟨0, 4⟩⟩
def reads0 : List Rd := [⟨0, 0, ⟨5, 5⟩⟩, ⟨0, 1, ⟨5, 5⟩⟩, ⟨1, 2, ⟨0, 1⟩⟩]
def asks0 : List Rd := [⟨0, 1, ⟨3, 7⟩⟩, ⟨0, 1, ⟨1, 3⟩⟩, ⟨1, 0, ⟨4, 9⟩⟩]
def ivN : Nat → Int → List Int
  | 0, _ => []
  | n + 1, lo => lo :: ivN n (lo + 1)
theorem iv_eq : ∀ (n : Nat) (lo hi : Int), (hi + 1 - lo).toNat = n → iv lo hi = ivN n lo
  | 0, lo, hi, h => by rw [iv_nil (by omega)]; rfl
  | n + 1, lo, hi, h => by rw [iv_cons (by omega), iv_eq n (lo + 1) hi (by omega)]; rfl
def ptsN (b : Bx) : List Pl := (ivN (b.x.hi + 1 - b.x.lo).toNat b.x.lo).flatMap fun x => (ivN (b.y.hi + 1 - b.y.lo).toNat b.y.lo).flatMap fun y => (ivN (b.z.hi + 1 - b.z.lo).toNat b.z.lo).map fun z => ⟨x, y, z⟩
theorem pts_eq (b : Bx) : b.pts = ptsN b := by
  unfold Bx.pts R1 R2 R3 ptsN
  rw [iv_eq _ b.x.lo b.x.hi rfl, iv_eq _ b.y.lo b.y.hi rfl, iv_eq _ b.z.lo b.z.hi rfl]
theorem ev_carried : movedS net0 start0 move0 (carried net0.world start0 move0) = (⟨⟨2, 10⟩, ⟨0, 2⟩, ⟨1, 3⟩⟩, 0) := by decide +kernel
theorem ev_depth : depthS ⟨10, 11⟩ ⟨1000, 1100⟩ = (⟨9, 11⟩, 0) := by decide +kernel
theorem ev_wrong : wrongS net0 field0 reads0 = ([0], ⟨1, 0, 0⟩, 0) := by
  unfold wrongS wrongBest
  rw [pts_eq]
  decide +kernel
theorem ev_voted : votedS net0 field0 ⟨reads0, 1⟩ = (⟨⟨1, 5⟩, ⟨0, 0⟩, ⟨0, 4⟩⟩, 3, 0) := by
  unfold votedS votesB
  rw [pts_eq]
  decide +kernel
theorem ev_ans : ansS net0 start0 asks0 = [2, 0, 1] ∧ wrongE net0 start0 asks0 = 0 := by decide +kernel
end Go.Proofs.Ytephimmamkafoaa
