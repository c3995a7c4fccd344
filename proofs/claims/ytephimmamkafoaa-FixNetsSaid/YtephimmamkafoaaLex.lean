/-
  The order of lists of numbers.
-/
import Derived.Test.YtephimmamkafoaaPlain
namespace Go.Proofs.Ytephimmamkafoaa
set_option linter.unusedSimpArgs false
set_option linter.unusedVariables false
def lexB : List Int → List Int → Bool
  | [], [] => false
  | [], _ :: _ => true
  | _ :: _, [] => false
  | x :: a, y :: b => if x = y then lexB a b else decide (x < y)
theorem lexB_drop {a b : List Int} {k : Nat} {x y : Int} (hx : a[k]? = some x) (hy : b[k]? = some y) : lexB (a.drop k) (b.drop k) = if x = y then lexB (a.drop (k + 1)) (b.drop (k + 1)) else decide (x < y) := by
  have h1 := (List.getElem?_eq_some_iff.1 hx).1
  have h2 := (List.getElem?_eq_some_iff.1 hy).1
  rw [List.drop_eq_getElem_cons h1, List.drop_eq_getElem_cons h2, (List.getElem?_eq_some_iff.1 hx).2, (List.getElem?_eq_some_iff.1 hy).2, lexB]
theorem lexB_end {a b : List Int} {k : Nat} (hk1 : k ≤ a.length) (hk2 : k ≤ b.length) (h : a.length ≤ k ∨ b.length ≤ k) : lexB (a.drop k) (b.drop k) = decide (a.length < b.length) := by
  by_cases h1 : a.length ≤ k
  · rw [List.drop_of_length_le h1]
    by_cases h2 : b.length ≤ k
    · rw [List.drop_of_length_le h2, lexB]
      simp; omega
    · rw [List.drop_eq_getElem_cons (by omega : k < b.length), lexB]
      simp; omega
  · have h2 : b.length ≤ k := by omega
    rw [List.drop_of_length_le h2, List.drop_eq_getElem_cons (by omega : k < a.length), lexB]
    simp; omega
end Go.Proofs.Ytephimmamkafoaa
