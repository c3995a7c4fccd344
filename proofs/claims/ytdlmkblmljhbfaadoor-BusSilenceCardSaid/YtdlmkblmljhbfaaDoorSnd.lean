/-
  Walks: a sender's tick: what is sent.
-/
import Derived.Test.YtdlmkblmljhbfaaDoorQue
namespace Go.Proofs.YtdlmkblmljhbfaaDoor
set_option linter.unusedSimpArgs false
set_option linter.unusedVariables false
open Go.RowKit Go.Shelf
attribute [local go_sem] bl_al bl_drew bl_drewN bl_refl bx_al bx_drew bx_drewN bx_refl
set_option maxRecDepth 20000
theorem bx_sub {X Y : List Nat} {w W : World} (h : BX X w W) (hs : ∀ g ∈ X, g ∈ Y) : BX Y w W :=
  ⟨h.os, h.tape, h.output, h.size, fun i hi hY => h.block i hi fun hX => hY (hs i hX), fun g hg t cs hk => by
    by_cases hX : g ∈ X
    · exact h.shape g hX t cs hk
    · exact ⟨cs, hk.keep hX h, rfl⟩⟩
theorem wp_qu {o : Oper} {a : Act} {K : Act → World → Prop} {Q : Exit → Act → World → Prop} {w : World} {b i c : Nat} {A : Option Addr} {L : List (Int × Int)} {t n : Int} {ag : Nat} (s x : Operand)
    (ho : o.op = .call { callee := .builtin .append, args := #[s, x], argTypes := #[tMgs, tMgs] }) (hty : o.type = tMgs) (hs : a.eval s = .slice A L.length c) (hx : a.eval x = .slice (some ⟨ag, 0, none⟩) 1 1)
    (h : Qu w b i A c L) (hb : b ≤ w.heap.size) (ka : Blk w ag tMg #[.int .i64 i, .int .i64 t, .int .i64 n]) (hL : L.length ≤ 1000)
    (H : ∀ A' c' w', Qu w' b i A' c' (L ++ [(t, n)]) → BX (blA A) w w' → (blA A' = blA A ∨ ∃ g, blA A' = [g] ∧ w.heap.size ≤ g) → K (a.put o.dst (.slice A' (L.length + 1) c')) w') : o.wp Tryd.prog a w K Q := by
  obtain ⟨A', c', w', hr, h2, h3, h4⟩ := qu_append h hb t n ka hL
  unfold Oper.wp execOp
  simp only [ho, hty, resolve, invoke, builtin, Sem.run_bind, Sem.run_pure, Result.andThen_ok, List.map_toArray, List.map_cons, List.map_nil, hs, hx, hr]
  exact H _ _ _ h2 h3 h4
/-- Where the queues lie. -/
structure QS where
  A : Nat → Option Addr
  c : Nat → Nat
def vQ (Q : QS) (q : Nat → List (Int × Int)) (i : Nat) : Value := .slice (Q.A i) (q i).length (Q.c i)
abbrev tSnd : TypeId := 147
def cSnd (vl vs : Value) (q : Nat → Value) (vw : Value) : Array Value := #[vl, vs, q 0, q 1, q 2, q 3, q 4, q 5, vw]
theorem cSnd_at (vl vs vw : Value) (q : Nat → Value) (i : Nat) (hi : i < 6) : (cSnd vl vs q vw)[2 + i]? = some (q i) := by
  match i, hi with
  | 0, _ => rfl
  | 1, _ => rfl
  | 2, _ => rfl
  | 3, _ => rfl
  | 4, _ => rfl
  | 5, _ => rfl
theorem cSnd_set (vl vs vw v : Value) (q : Nat → Value) (i : Nat) (hi : i < 6) : (cSnd vl vs q vw).setIfInBounds (2 + i) v = cSnd vl vs (upF q i v) vw := by
  match i, hi with
  | 0, _ => rfl
  | 1, _ => rfl
  | 2, _ => rfl
  | 3, _ => rfl
  | 4, _ => rfl
  | 5, _ => rfl
/-- A sender lies in the world: its block, its queues, its worst responses. -/
structure Snd (b S Bw : Nat) (vl vs : Value) (n : Nat) (Q : QS) (s : Ss) (w : World) : Prop where
  blk : Blk w S tSnd (cSnd vl vs (vQ Q s.q) (.slice (some ⟨Bw, 0, none⟩) n n))
  wor : Blk w Bw 3 ((List.range n).map fun i => Value.int .i64 (s.wo i)).toArray
  que : ∀ i, i < 6 → Qu w b i (Q.A i) (Q.c i) (s.q i)
  bS : b ≤ S
  bW : b ≤ Bw
  SW : S ≠ Bw
  dis : ∀ i j, i < 6 → j < 6 → i ≠ j → ∀ g ∈ blA (Q.A i), g ∉ blA (Q.A j)
  dS : ∀ i, i < 6 → S ∉ blA (Q.A i)
  dW : ∀ i, i < 6 → Bw ∉ blA (Q.A i)
theorem Snd.below {b S Bw n : Nat} {vl vs : Value} {Q : QS} {s : Ss} {w w' : World} (h : Snd b S Bw vl vs n Q s w) (hb : Below w.heap.size w w') : Snd b S Bw vl vs n Q s w' :=
  ⟨h.blk.below hb, h.wor.below hb, fun i hi => (h.que i hi).below hb, h.bS, h.bW, h.SW, h.dis, h.dS, h.dW⟩
/-- The blocks of a sender that change. -/
def foot (S Bw : Nat) (Q : QS) : List Nat := S :: Bw :: (List.range 6).flatMap fun i => blA (Q.A i)
theorem foot_q {S Bw : Nat} {Q : QS} {i g : Nat} (hi : i < 6) (h : g ∈ blA (Q.A i)) : g ∈ foot S Bw Q := by
  simp only [foot, List.mem_cons, List.mem_flatMap, List.mem_range]
  exact .inr (.inr ⟨i, hi, h⟩)
/-- A queue that took one message more, and the sender's block that names it. -/
theorem Snd.put {b S Bw n : Nat} {vl vs : Value} {Q : QS} {s : Ss} {w w1 w2 : World} (h : Snd b S Bw vl vs n Q s w) {i : Nat} (hi : i < 6) {A' : Option Addr} {c' : Nat} {L : List (Int × Int)}
    (hq : Qu w1 b i A' c' L) (hb1 : BX (blA (Q.A i)) w w1) (hA : blA A' = blA (Q.A i) ∨ ∃ g, blA A' = [g] ∧ w.heap.size ≤ g) (hw2 : w2 = w1.setCell ⟨S, 2 + i, none⟩ (.slice A' L.length c')) :
    Snd b S Bw vl vs n ⟨upF Q.A i A', upF Q.c i c'⟩ ⟨upF s.q i L, s.wo⟩ w2 ∧ BX (S :: blA (Q.A i)) w w2 := by
  subst hw2
  have hSl := h.blk.lt
  have hWl := h.wor.lt
  have hnew : ∀ g ∈ blA A', g ∈ blA (Q.A i) ∨ w.heap.size ≤ g := fun g hg => by
    rcases hA with e | ⟨g', e, hg'⟩
    · rw [e] at hg; exact .inl hg
    · rw [e] at hg; simp at hg; subst hg; exact .inr hg'
  have hx : BX [S] w1 (w1.setCell ⟨S, 2 + i, none⟩ (.slice A' L.length c')) := bx_set (.inl (by simp)) _ (bx_refl _ _)
  have kS := h.blk.keep (h.dS i hi) hb1
  have hSA' : S ∉ blA A' := fun hm => by
    rcases hnew S hm with hm | hm
    · exact h.dS i hi hm
    · omega
  have hWA' : Bw ∉ blA A' := fun hm => by
    rcases hnew Bw hm with hm | hm
    · exact h.dW i hi hm
    · omega
  refine ⟨⟨?_, (h.wor.keep (h.dW i hi) hb1).keep (by simpa using fun e => h.SW e.symm) hx, fun j hj => ?_, h.bS, h.bW, h.SW, fun j k hj hk hjk g hg => ?_, fun j hj => ?_, fun j hj => ?_⟩, ?_⟩
  · have := kS.set (2 + i) (.slice A' L.length c')
    rw [cSnd_set _ _ _ _ _ i hi] at this
    have e : upF (vQ Q s.q) i (.slice A' L.length c') = vQ ⟨upF Q.A i A', upF Q.c i c'⟩ (upF s.q i L) := by
      funext j
      unfold upF vQ
      split <;> simp_all
    rw [e] at this
    exact this
  · by_cases hji : j = i
    · subst hji
      simp only [upF, if_true]
      exact hq.keep hx (fun g hg => by simp only [List.mem_singleton]; exact fun e => hSA' (e ▸ hg))
    · simp only [upF, if_neg hji]
      exact ((h.que j hj).keep hb1 (fun g hg => h.dis j i hj hi hji g hg)).keep hx (fun g hg => by simp only [List.mem_singleton]; exact fun e => h.dS j hj (e ▸ hg))
  · simp only [upF] at hg ⊢
    have hlt := fun m (hm : m < 6) g hg => ((h.que m hm).ge g hg).2
    by_cases e1 : j = i
    · subst e1
      rw [if_pos rfl] at hg
      rw [if_neg (Ne.symm hjk)]
      intro hm
      rcases hnew g hg with h' | h'
      · exact h.dis _ _ hj hk hjk g h' hm
      · have := hlt k hk g hm; omega
    · rw [if_neg e1] at hg
      by_cases e2 : k = i
      · subst e2
        rw [if_pos rfl]
        intro hm
        rcases hnew g hm with h' | h'
        · exact h.dis _ _ hj hk hjk g hg h'
        · have := hlt j hj g hg; omega
      · rw [if_neg e2]
        exact h.dis j k hj hk hjk g hg
  · simp only [upF]
    split
    · exact hSA'
    · exact h.dS j hj
  · simp only [upF]
    split
    · exact hWA'
    · exact h.dW j hj
  · exact (bx_sub hb1 (fun g hg => by simp [hg])).trans (bx_sub hx (by simp))
end Go.Proofs.YtdlmkblmljhbfaaDoor
