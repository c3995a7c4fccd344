/-
  The queues of a sender: messages at some place in a block of the call's own; one more of them.
-/
import Derived.Test.YtdlmkblmljhbfaaDoorCut
import Derived.Test.YtdlmkblmljhbfaaDoorSend
import Derived.Deep.AppendLies
import Derived.ArgAppend
namespace Go.Proofs.YtdlmkblmljhbfaaDoor
set_option linter.unusedSimpArgs false
set_option linter.unusedVariables false
open Go.RowKit Go.Shelf
set_option maxRecDepth 20000
def cMg (i : Nat) (x : Int × Int) : List Value := [.int .i64 i, .int .i64 x.1, .int .i64 x.2]
def blA : Option Addr → List Nat
  | none => []
  | some a => [a.block]
abbrev tMg : TypeId := 189
abbrev tMgs : TypeId := 144
def Qu (w : World) (b i : Nat) (A : Option Addr) (c : Nat) (L : List (Int × Int)) : Prop :=
  (A = none ∧ c = 0 ∧ L = []) ∨ ∃ g off cs, A = some ⟨g, off, none⟩ ∧ b ≤ g ∧ Blk w g tMg cs ∧ L.length ≤ c ∧ off + c * 3 ≤ cs.size ∧ ∀ j u, (L.flatMap (cMg i))[j]? = some u → cs[off + j]? = some u
theorem flat_len3 (i : Nat) (L : List (Int × Int)) : (L.flatMap (cMg i)).length = L.length * 3 := flat_len (cMg i) 3 (fun _ => rfl) L
theorem Qu.nil (w : World) (b i : Nat) : Qu w b i none 0 [] := .inl ⟨rfl, rfl, rfl⟩
theorem Qu.keep {w w' : World} {b i c : Nat} {A : Option Addr} {L : List (Int × Int)} {X : List Nat} (h : Qu w b i A c L) (hb : BX X w w') (hX : ∀ g ∈ blA A, g ∉ X) : Qu w' b i A c L := by
  rcases h with h | ⟨g, off, cs, rfl, h1, h2, h3, h4, h5⟩
  · exact .inl h
  · exact .inr ⟨g, off, cs, rfl, h1, h2.keep (hX g (by simp [blA])) hb, h3, h4, h5⟩
theorem Qu.below {w w' : World} {b i c : Nat} {A : Option Addr} {L : List (Int × Int)} (h : Qu w b i A c L) (hb : Below w.heap.size w w') : Qu w' b i A c L := h.keep (bx_bl [] hb) (by simp)
theorem Qu.ge {w : World} {b i c : Nat} {A : Option Addr} {L : List (Int × Int)} (h : Qu w b i A c L) : ∀ g ∈ blA A, b ≤ g ∧ g < w.heap.size := by
  rcases h with ⟨rfl, _⟩ | ⟨g, off, cs, rfl, h1, h2, _⟩
  · simp [blA]
  · intro g' hg'
    simp [blA] at hg'
    subst hg'
    exact ⟨h1, h2.lt⟩
theorem Qu.of {w : World} {b b' i c : Nat} {A : Option Addr} {L : List (Int × Int)} (h : w.ownsRow b' tMg 3 (.slice A L.length c) L.length (L.flatMap (cMg i))) (hb : b ≤ b') : Qu w b i A c L := by
  rcases h.2 with ⟨e, e0⟩ | ⟨g, cap, cur, e1, e2, e3, e4, e5, e6, e7⟩
  · injection e with e1 e2 e3
    subst e1 e3
    exact .inl ⟨rfl, rfl, List.eq_nil_of_length_eq_zero e0⟩
  · injection e1 with e1 _ e8
    subst e1 e8
    refine .inr ⟨g, 0, cur, rfl, by omega, e3, e4, by omega, fun j u hj => ?_⟩
    rw [Nat.zero_add]
    rw [← e7, List.getElem?_take] at hj
    split at hj
    · simpa using hj
    · cases hj
theorem infoMg : (Tryd.prog.info? tMg).map (fun i => (i.zero, i.size, i.bytes)) = some (some (.agg #[.int .i64 0, .int .i64 0, .int .i64 0]), 3, 24) := by kernel_rfl
theorem qu_append {w : World} {b i c : Nat} {A : Option Addr} {L : List (Int × Int)} (h : Qu w b i A c L) (hb : b ≤ w.heap.size) (t n : Int) {ag : Nat}
    (ka : Blk w ag tMg #[.int .i64 i, .int .i64 t, .int .i64 n]) (hL : L.length ≤ 1000) :
    ∃ A' c' w', (Builtin.append_ #[tMgs, tMgs] tMgs #[.slice A L.length c, .slice (some ⟨ag, 0, none⟩) 1 1]).run Tryd.prog w = .ok (.slice A' (L.length + 1) c') w' ∧ Qu w' b i A' c' (L ++ [(t, n)]) ∧ BX (blA A) w w' ∧
      (blA A' = blA A ∨ ∃ g, blA A' = [g] ∧ w.heap.size ≤ g) := by
  obtain ⟨i0, hi, hz0, hz1, hz2⟩ := info_parts infoMg
  have hnews : ∀ j u, (cMg i (t, n))[j]? = some u → w.cell? ((⟨ag, 0, none⟩ : Addr).add j) = some u := by
    intro j u hj
    have hadd : (⟨ag, 0, none⟩ : Addr).add j = ⟨ag, j, none⟩ := by unfold Addr.add; split <;> simp_all
    rw [hadd, ka.cell]
    simpa [cMg] using hj
  have h1 : ∀ u ∈ cMg i (t, n), u.oneCell' = true := by
    intro u hu
    simp [cMg] at hu
    rcases hu with rfl | rfl | rfl <;> rfl
  have hflat : (L ++ [(t, n)]).flatMap (cMg i) = L.flatMap (cMg i) ++ cMg i (t, n) := by simp
  have hlen : (L ++ [(t, n)]).length = L.length + 1 := by simp
  rcases h with ⟨rfl, rfl, rfl⟩ | ⟨g, off, cs, rfl, q1, q2, q3, q4, q5⟩
  · obtain ⟨g, cap, w', r1, r2, r3, r4, r5⟩ := run_append_lies (P := Tryd.prog) w tMgs tMgs b tMg i0 _ 3 24 Tryd.underlying144 hi hz0 hz1 hz2 rfl (by decide) (.slice none 0 0) 0 [] (World.ownsRow_nil w b tMg 3)
      ⟨ag, 0, none⟩ 1 1 (cMg i (t, n)) rfl hnews h1 (by decide) (by unfold maxLen; omega) (by decide) hb _ rfl
    refine ⟨_, _, w', by simpa using r1, ?_, ⟨r3.os, r3.tape, r3.output, r3.size, fun k hk _ => r3.block k hk (by simp [Value.ownBlock]), fun g hg => by simp [blA] at hg⟩, .inr ⟨g, rfl, ?_⟩⟩
    · exact Qu.of (by simpa [hflat] using r2) (Nat.le_refl _)
    · rcases r4 with r4 | r4
      · simp [Value.ownBlock] at r4
      · omega
  · by_cases hroom : L.length + 1 ≤ c
    · have hcell : ∀ j, j < 3 → (w.cell? ⟨g, off + L.length * 3 + j, none⟩).isSome = true := fun j hj => by
        rw [q2.cell]
        have : off + L.length * 3 + j < cs.size := by omega
        simp [this]
      have hr := run_append_room_cells (P := Tryd.prog) w tMgs tMgs tMg i0 Tryd.underlying144 hi g off L.length c ⟨ag, 0, none⟩ 1 1 (cMg i (t, n)) (by rw [hz1]; rfl) hnews h1 hroom
        (fun j hj => by rw [hz1]; exact hcell j hj) (fun j hj => q2.frozen _)
      rw [hz1] at hr
      refine ⟨_, _, _, hr, .inr ⟨g, off, ((cs.setIfInBounds (off + L.length * 3) (.int .i64 i)).setIfInBounds (off + L.length * 3 + 1) (.int .i64 t)).setIfInBounds (off + L.length * 3 + 1 + 1) (.int .i64 n), rfl, q1, ?_, by omega, by simpa using q4, ?_⟩, ?_, .inl rfl⟩
      · exact ((q2.set _ _).set _ _).set _ _
      · intro j u hj
        rw [hflat] at hj
        by_cases hlt : j < L.length * 3
        · rw [List.getElem?_append_left (by rw [flat_len3]; exact hlt)] at hj
          rw [Array.getElem?_setIfInBounds_ne (by omega), Array.getElem?_setIfInBounds_ne (by omega), Array.getElem?_setIfInBounds_ne (by omega)]
          exact q5 j u hj
        · rw [List.getElem?_append_right (by rw [flat_len3]; omega), flat_len3] at hj
          obtain ⟨k, rfl⟩ : ∃ k, j = L.length * 3 + k := ⟨j - L.length * 3, by omega⟩
          rw [Nat.add_sub_cancel_left] at hj
          have hk : k < 3 := (List.getElem?_eq_some_iff.1 hj).1
          have hs : off + L.length * 3 + k < cs.size := by omega
          match k, hk, hj with
          | 0, _, hj => simp [cMg] at hj; subst hj; rw [Array.getElem?_setIfInBounds_ne (by omega), Array.getElem?_setIfInBounds_ne (by omega)]; rw [← Nat.add_assoc, Nat.add_zero, Array.getElem?_setIfInBounds_self_of_lt (by omega)]
          | 1, _, hj => simp [cMg] at hj; subst hj; rw [Array.getElem?_setIfInBounds_ne (by omega)]; rw [← Nat.add_assoc, Array.getElem?_setIfInBounds_self_of_lt (by simp; omega)]
          | 2, _, hj => simp [cMg] at hj; subst hj; rw [← Nat.add_assoc]; exact Array.getElem?_setIfInBounds_self_of_lt (by simp; omega)
      · exact bx_set (.inl (by simp [blA])) _ (bx_set (.inl (by simp [blA])) _ (bx_set (.inl (by simp [blA])) _ (bx_refl _ _)))
    · obtain ⟨v', w', r1, r2, r3⟩ := run_append_arg_grows (P := Tryd.prog) w tMgs tMgs tMg i0 _ 3 24 Tryd.underlying144 hi hz0 hz1 hz2 rfl (by decide) ⟨g, off, none⟩ L.length c (L.flatMap (cMg i)) (flat_len3 i L)
        (fun j u hj => by
          have hadd : (⟨g, off, none⟩ : Addr).add j = ⟨g, off + j, none⟩ := by unfold Addr.add; split <;> simp_all
          rw [hadd, q2.cell]
          exact q5 j u hj) ⟨ag, 0, none⟩ 1 1 (cMg i (t, n)) rfl hnews (by omega) (by unfold maxLen; omega) (by omega)
      obtain ⟨g2, cap, rfl, e2, e3⟩ := r2.form (by omega)
      refine ⟨_, _, w', r1, Qu.of (by simpa [hflat] using r2) hb, bx_bl _ ⟨r3.os, r3.tape, r3.output, r3.size, fun k hk => r3.block k hk (by simp)⟩, .inr ⟨g2, rfl, e2⟩⟩
end Go.Proofs.YtdlmkblmljhbfaaDoor
