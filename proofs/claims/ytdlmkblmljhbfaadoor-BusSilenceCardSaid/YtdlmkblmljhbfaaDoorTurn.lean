/-
  A sender's queues and worst responses turned: one frame less, one message less, a worst response.
-/
import Derived.Test.YtdlmkblmljhbfaaDoorTick
namespace Go.Proofs.YtdlmkblmljhbfaaDoor
set_option linter.unusedSimpArgs false
set_option linter.unusedVariables false
open Go.RowKit Go.Shelf
set_option maxRecDepth 20000
theorem Qu.cons {w : World} {b i c : Nat} {A : Option Addr} {a k : Int} {r : List (Int × Int)} (h : Qu w b i A c ((a, k) :: r)) :
    ∃ g off cs, A = some ⟨g, off, none⟩ ∧ Blk w g tMg cs ∧ r.length + 1 ≤ c ∧ off + c * 3 ≤ cs.size ∧ cs[off]? = some (.int .i64 i) ∧ cs[off + 1]? = some (.int .i64 a) ∧ cs[off + 2]? = some (.int .i64 k) ∧
      (∀ k', Qu (w.setCell ⟨g, off + 2, none⟩ (.int .i64 k')) b i A c ((a, k') :: r)) ∧ ∀ o, (o = off + 3 ∨ (c = 1 ∧ o = off)) → Qu w b i (some ⟨g, o, none⟩) (c - 1) r := by
  rcases h with ⟨_, _, h⟩ | ⟨g, off, cs, rfl, h1, h2, h3, h4, h5⟩
  · cases h
  · simp only [List.length_cons] at h3
    refine ⟨g, off, cs, rfl, h2, h3, h4, by simpa [cMg] using h5 0 (.int .i64 i) rfl, h5 1 (.int .i64 a) rfl, h5 2 (.int .i64 k) rfl, fun k' => ?_, fun o ho => ?_⟩
    · refine .inr ⟨g, off, cs.setIfInBounds (off + 2) (.int .i64 k'), rfl, h1, h2.set _ _, by simpa using h3, by simpa using h4, fun j u hj => ?_⟩
      match j, hj with
      | 0, hj => simp [cMg] at hj; subst hj; rw [Array.getElem?_setIfInBounds_ne (by omega)]; exact h5 0 _ rfl
      | 1, hj => simp [cMg] at hj; subst hj; rw [Array.getElem?_setIfInBounds_ne (by omega)]; exact h5 1 _ rfl
      | 2, hj => simp [cMg] at hj; subst hj; exact Array.getElem?_setIfInBounds_self_of_lt (by omega)
      | j + 3, hj =>
        rw [Array.getElem?_setIfInBounds_ne (by omega)]
        refine h5 (j + 3) u ?_
        simpa [cMg] using hj
    · rcases ho with rfl | ⟨hc, rfl⟩
      · refine .inr ⟨g, off + 3, cs, rfl, h1, h2, by omega, by omega, fun j u hj => ?_⟩
        have := h5 (j + 3) u (by simpa [cMg] using hj)
        rw [show off + 3 + j = off + (j + 3) by omega]
        exact this
      · have hr : r = [] := List.eq_nil_of_length_eq_zero (by omega)
        subst hr
        exact .inr ⟨g, o, cs, rfl, h1, h2, by simp, by omega, fun j u hj => by simp at hj⟩
section
variable {b S Bw n : Nat} {vl vs : Value} {Q : QS} {s : Ss} {w : World}
theorem Snd.foot_ge (h : Snd b S Bw vl vs n Q s w) : ∀ x ∈ foot S Bw Q, b ≤ x ∧ x < w.heap.size := fun x hx => by
  simp only [foot, List.mem_cons, List.mem_flatMap, List.mem_range] at hx
  rcases hx with rfl | rfl | ⟨i, hi, hx⟩
  · exact ⟨h.bS, h.blk.lt⟩
  · exact ⟨h.bW, h.wor.lt⟩
  · exact (h.que i hi).ge x hx
theorem Snd.dec (h : Snd b S Bw vl vs n Q s w) {i : Nat} (hi : i < 6) {a k : Int} {r : List (Int × Int)} (hq : s.q i = (a, k) :: r) {g off : Nat} (hA : Q.A i = some ⟨g, off, none⟩) (k' : Int) :
    Snd b S Bw vl vs n Q ⟨upF s.q i ((a, k') :: r), s.wo⟩ (w.setCell ⟨g, off + 2, none⟩ (.int .i64 k')) ∧ BX (foot S Bw Q) w (w.setCell ⟨g, off + 2, none⟩ (.int .i64 k')) := by
  have hg : g ∈ blA (Q.A i) := by rw [hA]; simp [blA]
  have hx : BX [g] w (w.setCell ⟨g, off + 2, none⟩ (.int .i64 k')) := bx_set (.inl (by simp)) _ (bx_refl _ _)
  have hSg : S ≠ g := fun e => h.dS i hi (e ▸ hg)
  have hWg : Bw ≠ g := fun e => h.dW i hi (e ▸ hg)
  refine ⟨⟨?_, h.wor.keep (by simpa using hWg) hx, fun j hj => ?_, h.bS, h.bW, h.SW, h.dis, h.dS, h.dW⟩, bx_sub hx (fun x hx => by simp at hx; subst hx; exact foot_q hi hg)⟩
  · have e : vQ Q (upF s.q i ((a, k') :: r)) = vQ Q s.q := by
      funext j
      unfold vQ upF
      split
      · rename_i e; subst e; rw [hq]; rfl
      · rfl
    rw [e]
    exact h.blk.keep (by simpa using hSg) hx
  · by_cases hji : j = i
    · subst hji
      simp only [upF, if_true]
      have := h.que j hj
      rw [hq] at this
      obtain ⟨g', off', cs, e1, -, -, -, -, -, -, e2, -⟩ := this.cons
      rw [hA] at e1
      injection e1 with e1
      injection e1 with e1 e3 _
      subst e1 e3
      exact e2 k'
    · simp only [upF, if_neg hji]
      exact (h.que j hj).keep hx (fun x hx2 => by
        simp only [List.mem_singleton]
        rintro rfl
        exact h.dis j i hj hi hji _ hx2 hg)
theorem Snd.pop (h : Snd b S Bw vl vs n Q s w) {i : Nat} (hi : i < 6) {a k : Int} {r : List (Int × Int)} (hq : s.q i = (a, k) :: r) {g off : Nat} (hA : Q.A i = some ⟨g, off, none⟩) {o : Nat} (ho : o = off + 3 ∨ (Q.c i = 1 ∧ o = off)) :
    Snd b S Bw vl vs n ⟨upF Q.A i (some ⟨g, o, none⟩), upF Q.c i (Q.c i - 1)⟩ ⟨upF s.q i r, s.wo⟩ (w.setCell ⟨S, 2 + i, none⟩ (.slice (some ⟨g, o, none⟩) r.length (Q.c i - 1))) ∧
      BX (foot S Bw Q) w (w.setCell ⟨S, 2 + i, none⟩ (.slice (some ⟨g, o, none⟩) r.length (Q.c i - 1))) ∧ ∀ j, j < 6 → blA ((upF Q.A i (some ⟨g, o, none⟩)) j) = blA (Q.A j) := by
  have := h.que i hi
  rw [hq] at this
  obtain ⟨g', off', cs, e1, -, -, -, -, -, -, -, e2⟩ := this.cons
  rw [hA] at e1
  injection e1 with e1
  injection e1 with e1 e3 _
  subst e1 e3
  obtain ⟨h1, h2⟩ := h.put hi (w1 := w) (e2 o ho) (bx_refl _ _) (.inl (by rw [hA]; rfl)) rfl
  refine ⟨h1, bx_sub h2 (fun x hx => ?_), fun j hj => ?_⟩
  · rcases List.mem_cons.1 hx with rfl | hx
    · simp [foot]
    · exact foot_q hi hx
  · unfold upF
    split
    · rename_i e; rw [e, hA]; rfl
    · rfl
theorem Snd.worst (h : Snd b S Bw vl vs n Q s w) {i : Nat} (hi : i < n) (v : Int) :
    Snd b S Bw vl vs n Q ⟨s.q, upF s.wo i v⟩ (w.setCell ⟨Bw, i, none⟩ (.int .i64 v)) ∧ BX (foot S Bw Q) w (w.setCell ⟨Bw, i, none⟩ (.int .i64 v)) := by
  have hx : BX [Bw] w (w.setCell ⟨Bw, i, none⟩ (.int .i64 v)) := bx_set (.inl (by simp)) _ (bx_refl _ _)
  refine ⟨⟨h.blk.keep (by simpa using h.SW) hx, ?_, fun j hj => (h.que j hj).keep hx (fun x hx2 => ?_), h.bS, h.bW, h.SW, h.dis, h.dS, h.dW⟩, bx_sub hx (by simp [foot])⟩
  · have := h.wor.set i (.int .i64 v)
    have e : (((List.range n).map fun i => Value.int .i64 (s.wo i)).toArray).setIfInBounds i (.int .i64 v) = ((List.range n).map fun j => Value.int .i64 (upF s.wo i v j)).toArray := by
      apply Array.ext
      · simp
      · intro j h1 h2
        simp only [List.setIfInBounds_toArray, List.size_toArray, List.length_set, List.length_map, List.length_range] at h1
        simp [List.getElem_set, upF]
        split
        · rename_i e; subst e; simp
        · rename_i e; simp [Ne.symm e]
    rw [e] at this
    exact this
  · simp only [List.mem_singleton]
    rintro rfl
    exact h.dW j hj hx2
end
end Go.Proofs.YtdlmkblmljhbfaaDoor
