/-
  Plain laws of silence: the ranges ascend without neighbours; a longer timeout leaves no further tick silent.
-/
import Derived.Test.YtdlmkblmljhbfaaDoorPlain
namespace Go.Proofs.YtdlmkblmljhbfaaDoor
set_option linter.unusedSimpArgs false
set_option linter.unusedVariables false
theorem silOne_mem {f to hi : Int} {r : Rg} (h : r ∈ silOne f to hi) : r.lo = f ∧ r.hi = min to hi ∧ f ≤ min to hi := by
  unfold silOne at h
  split at h
  · have := List.mem_singleton.1 h
    subst this
    exact ⟨rfl, rfl, by assumption⟩
  · cases h
theorem silFrom_ge (hi t : Int) : ∀ (l : List Int) (f : Int) (r : Rg), r ∈ silFrom hi t l f → f ≤ r.lo
  | [], f, r, h => by
    have := silOne_mem h
    omega
  | n :: l, f, r, h => by
    unfold silFrom at h
    rcases List.mem_append.1 h with h | h
    · have := silOne_mem h
      omega
    · have := silFrom_ge hi t l _ r h
      omega
theorem silFrom_le (hi t : Int) : ∀ (l : List Int) (f : Int) (r : Rg), r ∈ silFrom hi t l f → r.lo ≤ r.hi
  | [], f, r, h => by
    have := silOne_mem h
    omega
  | n :: l, f, r, h => by
    unfold silFrom at h
    rcases List.mem_append.1 h with h | h
    · have := silOne_mem h
      omega
    · exact silFrom_le hi t l _ r h
theorem silFrom_apart (hi : Int) {t : Int} (ht : 0 ≤ t) : ∀ (l : List Int) (f : Int), (silFrom hi t l f).Pairwise fun a b => 2 ≤ b.lo - a.hi
  | [], f => by
    unfold silFrom silOne
    split <;> simp
  | n :: l, f => by
    unfold silFrom
    rw [List.pairwise_append]
    refine ⟨?_, silFrom_apart hi ht l _, fun a ha b hb => ?_⟩
    · unfold silOne
      split <;> simp
    · have := silOne_mem ha
      have := silFrom_ge hi t l _ b hb
      omega
theorem silFrom_len (hi t : Int) : ∀ (l : List Int) (f : Int), (silFrom hi t l f).length ≤ l.length + 1
  | [], f => by
    unfold silFrom silOne
    split <;> simp
  | n :: l, f => by
    unfold silFrom
    have := silFrom_len hi t l (max f (n + t + 1))
    have h1 : (silOne f (n - 1) hi).length ≤ 1 := by
      unfold silOne
      split <;> simp
    simp only [List.length_append, List.length_cons]
    omega
/-- A longer timeout. -/
theorem silFrom_sub (hi : Int) {t t' : Int} (h : t ≤ t') : ∀ (l : List Int) (f f' : Int), f ≤ f' → ∀ r' ∈ silFrom hi t' l f', ∃ r ∈ silFrom hi t l f, r.lo ≤ r'.lo ∧ r'.hi ≤ r.hi
  | [], f, f', hf, r', hr => by
    have := silOne_mem hr
    refine ⟨⟨f, min hi hi⟩, ?_, by dsimp only; omega, by dsimp only; omega⟩
    unfold silFrom silOne
    rw [if_pos (by omega)]
    simp
  | n :: l, f, f', hf, r', hr => by
    unfold silFrom at hr ⊢
    rcases List.mem_append.1 hr with hr | hr
    · have := silOne_mem hr
      refine ⟨⟨f, min (n - 1) hi⟩, List.mem_append_left _ ?_, by dsimp only; omega, by dsimp only; omega⟩
      unfold silOne
      rw [if_pos (by omega)]
      simp
    · obtain ⟨r, h1, h2⟩ := silFrom_sub hi h l (max f (n + t + 1)) (max f' (n + t' + 1)) (by omega) r' hr
      exact ⟨r, List.mem_append_right _ h1, h2⟩
theorem silS_le (l : List Int) (s : Rg) (t : Int) {i : Nat} {r : Rg} (h : (silS l s t)[i]? = some r) : r.lo ≤ r.hi := silFrom_le _ _ _ _ _ (List.mem_of_getElem? h)
theorem silS_apart (l : List Int) (s : Rg) {t : Int} (ht : 0 ≤ t) {i : Nat} {a b : Rg} (h1 : (silS l s t)[i]? = some a) (h2 : (silS l s t)[i + 1]? = some b) : 2 ≤ b.lo - a.hi := by
  have h := silFrom_apart s.hi ht l s.lo
  rw [List.pairwise_iff_getElem] at h
  have e1 := List.getElem?_eq_some_iff.1 h1
  have e2 := List.getElem?_eq_some_iff.1 h2
  have := h i (i + 1) e1.1 e2.1 (by omega)
  have f1 := e1.2
  have f2 := e2.2
  unfold silS at f1 f2
  rw [f1, f2] at this
  exact this
theorem silS_sub (l : List Int) (s : Rg) {t t' : Int} (h : t ≤ t') {r' : Rg} (hr : r' ∈ silS l s t') : ((silS l s t).any fun r => decide (r.lo ≤ r'.lo) && decide (r'.hi ≤ r.hi)) = true := by
  obtain ⟨r, h1, h2⟩ := silFrom_sub s.hi h l s.lo s.lo (Int.le_refl _) r' hr
  rw [List.any_eq_true]
  exact ⟨r, h1, by simpa using h2⟩
end Go.Proofs.YtdlmkblmljhbfaaDoor
