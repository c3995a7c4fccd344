/-
  How the laws' arguments read, continued: a list of readings, with its capacity.
-/
import Derived.Test.YtephimmamkafoaaH4
namespace Go.Proofs.Ytephimmamkafoaa
set_option linter.unusedSimpArgs false
set_option linter.unusedVariables false
open Go.ChangeShapes Go.WideShapes Go.ChangeAt Go.RowKit Go.Deep
set_option maxRecDepth 20000
section
variable {H : Type} {enc : TypeId × Value → H} {w : World} {base : Nat} {spare : Nat → Bool} {held : Bool} {fuel : Nat} {cs : List Value} {y : DataW H × List MemPlace}
theorem rd_Rds2 (h : DataW.trod enc Try.prog w base spare held fuel 45 cs = some y) :
    ∃ (A : Option Addr) (c : Nat) (l : List Rd), cs = [.slice A l.length c] ∧ l.length ≤ c ∧ c ≤ maxLen ∧ Sl cRd 4 w A l := by
  obtain ⟨A, c, l, e1, h1, h2, g2, -⟩ := rd_slice (c := cRd) (ok := fun _ : Rd => True) Try.underlying45 cRd4 (by decide) (fun _ => rfl) (fun _ _ _ hz => (rd_Rd hz).imp fun _ e => ⟨e, trivial⟩) h
  exact ⟨A, c, l, e1, h1, h2, g2⟩
theorem rd_Re2 (h : DataW.trod enc Try.prog w base spare held fuel 77 cs = some y) :
    ∃ (l : List Rd) (p : Pl) (A : Option Addr) (c : Nat), cs = [.slice A l.length c, .int .i64 p.x, .int .i64 p.y, .int .i64 p.z] ∧ l.length ≤ c ∧ c ≤ maxLen ∧ Sl cRd 4 w A l := by
  obtain ⟨xs, n, -, -, hl, hlen, hf⟩ := DataW.trod_struct Try.underlying77 h
  rw [cRe4] at hl
  obtain ⟨c0, c1, c2, c3, rfl⟩ := len4 hl
  obtain ⟨x0, x1, rfl⟩ := len2 (show xs.length = 2 from hlen)
  have h0 := hf 0 _ rfl
  have h1 := hf 1 _ rfl
  simp [cPl3, cRds] at h0 h1
  obtain ⟨A, c, l, e0, a1, a2, g⟩ := rd_Rds2 h0
  obtain ⟨p, e1⟩ := rd_Pl h1
  simp at e0 e1
  exact ⟨l, p, A, c, by rw [e0, e1.1, e1.2.1, e1.2.2], a1, a2, g⟩
end
end Go.Proofs.Ytephimmamkafoaa
