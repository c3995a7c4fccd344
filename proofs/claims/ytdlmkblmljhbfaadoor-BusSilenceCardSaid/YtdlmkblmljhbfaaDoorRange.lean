/-
  A loop over a bound method that is an iterator: its body, walked once, goes on; a round may turn the caller's own blocks X alone.
-/
import Derived.Test.YtdlmkblmljhbfaaDoorIn
import Derived.RangeFuncNested
import Derived.RangeFuncLeaves
namespace Go.Proofs.YtdlmkblmljhbfaaDoor
set_option linter.unusedSimpArgs false
set_option linter.unusedVariables false
open Go.RowKit
/-- Since A all cells lie as they lay, and whatever lay below D. -/
structure CK (D : Nat) (A B : World) : Prop where
  os : B.os = A.os
  tape : B.tape = A.tape
  output : B.output = A.output
  size : A.heap.size ≤ B.heap.size
  keep : ∀ k o, A.heap[k]? = some o → (k < D ∨ o.isCells = true) → B.heap[k]? = some o
theorem CK.of_below {D : Nat} {A B : World} (h : Below A.heap.size A B) : CK D A B :=
  ⟨h.os, h.tape, h.output, h.size, fun k _ hk _ => (h.block k (Array.getElem?_eq_some_iff.1 hk).1).trans hk⟩
theorem CK.put {D r : Nat} {A : World} {o : Obj} (o' : Obj) (h : A.heap[r]? = some o) (hc : o.isCells = false) (hr : D ≤ r) : CK D A (A.putObj r o') :=
  ⟨rfl, rfl, rfl, by simp, fun k u hk hu => by
    by_cases e : k = r
    · subst e
      rw [h] at hk; cases hk
      rcases hu with hu | hu
      · omega
      · rw [hc] at hu; cases hu
    · exact (World.putObj_heap_other e).trans hk⟩
theorem CK.blk {D g : Nat} {A B : World} {t : TypeId} {cs : Array Value} (h : CK D A B) (hk : Blk A g t cs) : Blk B g t cs := h.keep g _ hk (.inr rfl)
theorem CK.belowOf {D : Nat} {w A B : World} (hD : w.heap.size ≤ D) (h : CK D A B) (hb : Below w.heap.size w A) : Below w.heap.size w B :=
  ⟨h.os.trans hb.os, h.tape.trans hb.tape, h.output.trans hb.output, Nat.le_trans hb.size h.size, fun k hk => by
    have hk' : k < A.heap.size := Nat.lt_of_lt_of_le hk hb.size
    have := h.keep k A.heap[k] (Array.getElem?_eq_getElem hk') (.inl (by omega))
    rw [this, ← Array.getElem?_eq_getElem hk', hb.block k hk]⟩
theorem BX.trans {X : List Nat} {a b c : World} (h : BX X a b) (k : BX X b c) : BX X a c :=
  ⟨k.os.trans h.os, k.tape.trans h.tape, k.output.trans h.output, Nat.le_trans h.size k.size, fun i hi hX => (k.block i (Nat.lt_of_lt_of_le hi h.size) hX).trans (h.block i hi hX),
   fun g hg t cs hk => by obtain ⟨c1, h1, h2⟩ := h.shape g hg t cs hk; obtain ⟨c2, h3, h4⟩ := k.shape g hg t c1 h1; exact ⟨c2, h3, h4.trans h2⟩⟩
theorem BX.wider {X : List Nat} {a b : World} (r : Nat) (h : BX X a b) : BX (r :: X) a b :=
  ⟨h.os, h.tape, h.output, h.size, fun i hi hX => h.block i hi (fun e => hX (List.mem_cons_of_mem _ e)), fun g hg t cs hk => by
    by_cases e : g ∈ X
    · exact h.shape g e t cs hk
    · exact ⟨cs, (h.block g (Array.getElem?_eq_some_iff.1 hk).1 e).trans hk, rfl⟩⟩
theorem BX.drop {X : List Nat} {a b : World} {r : Nat} (h : BX (r :: X) a b) (e : b.heap[r]? = a.heap[r]?) : BX X a b :=
  ⟨h.os, h.tape, h.output, h.size, fun i hi hX => by
    by_cases e' : i = r
    · rw [e', e]
    · exact h.block i hi (by simp [e', hX]), fun g hg => h.shape g (List.mem_cons_of_mem _ hg)⟩
theorem bx_loop {X : List Nat} {A : World} {r : Nat} {q : Loop} (q' : Loop) (h : A.heap[r]? = some (.loop q)) : BX (r :: X) A (A.putObj r (.loop q')) :=
  ⟨rfl, rfl, rfl, by simp, fun i _ hX => World.putObj_heap_other (fun e => hX (by simp [e])), fun g _ t cs hk => by
    refine ⟨cs, ?_, rfl⟩
    have : g ≠ r := fun e => by subst e; unfold Blk at hk; rw [h] at hk; cases hk
    exact (World.putObj_heap_other this).trans hk⟩
def Goes {α : Type} (X : List Nat) (I : List α → World → Prop) (xs : List α) (W : World) : Exit → Act → World → Prop
  | .normal, _, W' => BX X W W' ∧ I xs W'
  | _, _, _ => False
/-- What an iterator promises: it yields the members of xs, in their order. -/
def Iter (P : Program) {α : Type} (m : Nat) (gf : Nat) (rb : Array Value) (encs : α → Array Value) (xs : List α) : Prop :=
  ∀ (l : Nat) (X : List Nat) (J : List α → World → Prop) (W : World), (∀ x ∈ X, x < W.heap.size) → (∀ s A B, J s A → Below A.heap.size A B → J s B) →
    (∀ pre x W1, J pre W1 → pre ++ [x] <+: xs → YieldAt Fence.wide (m - 1) P l (encs x) W1 fun e W' => e = .returned (.bool true) ∧ J (pre ++ [x]) W' ∧ BX X W1 W') →
    J [] W → CallsIn Fence.wide m P gf (rb ++ #[.func (.yield l) #[] #[]]) W fun e W' => (∃ v, e = .returned v) ∧ J xs W'
theorem wp_range {P : Program} {α : Type} {g : Operand} {ps : Array Tmp} {assign body : Code} {Q : Exit → Act → World → Prop} {a : Act} {w : World} {gf : Nat} {rb : Array Value}
    (hg : a.eval g = .func (.func gf) rb #[]) (eg : ∀ args w, (callFunc gf args).run P w = .ok (.enter gf args) w) {encs : α → Array Value} {xs : List α}
    (hseq : Iter P 5 gf rb encs xs) (hps : ∀ x, (encs x).size = ps.size) (X : List Nat) (hX : ∀ x ∈ X, x < w.heap.size)
    (I : List α → World → Prop) (hI : ∀ s A B, I s A → CK w.heap.size A B → I s B)
    (h0 : I [] w)
    (hround : ∀ l pre x W, I pre W → pre ++ [x] <+: xs → assign.wpIn (Fence.wide.inRound l) 4 P
      (Exit.then (fun a1 W1 => BX X W W1 ∧ ∀ W2, CK w.heap.size W1 W2 → body.wpIn (Fence.wide.inRound l) 4 P (Goes X I (pre ++ [x]) W2) a1 W2) (fun _ _ _ => False))
      { tmps := (ps.zip (encs x)).foldl (fun t (p, v) => t.setIfInBounds p v) a.tmps, defers := [] } W)
    (hdone : ∀ W, I xs W → W.heap[w.heap.size]? = some (.deferred (some [])) → Q .normal { a with defers := { target := .collected w.heap.size, args := #[] } :: a.defers } W) :
    (Code.rangeFunc g ps assign body).wp P Q a w := by
  refine (wpIn_wide (n := 6)).1 (wpIn_rangeFunc ?_)
  intro fn _
  rw [Fence.wide_round]
  obtain ⟨rec, hrec⟩ : ∃ rec : LoopState → Loop, rec = fun st => { state := st, pending := none, fn, tmps := a.tmps, params := ps, assign, body, defers := w.heap.size } := ⟨_, rfl⟩
  have hst : ∀ s, (rec s).state = s := fun s => by rw [hrec]
  have hpd : ∀ s, (rec s).pending = none := fun s => by rw [hrec]
  have hsp : ∀ s, (rec s).params = ps := fun s => by rw [hrec]
  have hup : ∀ s s' , { rec s with state := s' } = rec s' := fun s s' => by rw [hrec]
  have hen : ∀ s s', ({ rec s with state := s', pending := none } : Loop) = rec s' := fun s s' => by rw [hrec]
  have hrun := run_enterLoop_outer (P := P) (w := w) fn a.tmps ps assign body
  obtain ⟨W1, hW1⟩ : ∃ W1, (w.alloc (.deferred (some []))).alloc (.loop (rec .ready)) = W1 := ⟨_, rfl⟩
  have hb1 : Below w.heap.size w W1 := by
    rw [← hW1]; exact ((Below.refl _ w).alloc (Nat.le_refl _) _).alloc (by simp) _
  have hs1 : W1.heap.size = w.heap.size + 2 := by rw [← hW1]; simp
  have hL1 : W1.heap[w.heap.size + 1]? = some (.loop (rec .ready)) := by
    rw [← hW1]; have := World.alloc_heap_new (w.alloc (.deferred (some []))) (.loop (rec .ready)); rwa [World.size_alloc] at this
  have hK1 : W1.heap[w.heap.size]? = some (.deferred (some [])) := by
    rw [← hW1]; exact (Below.heap_alloc _ _ _ (by simp)).trans (World.alloc_heap_new w _)
  have hI1 : I [] W1 := hI _ _ _ h0 ⟨hb1.os, hb1.tape, hb1.output, hb1.size, fun k o hk _ => (hb1.block k (Array.getElem?_eq_some_iff.1 hk).1).trans hk⟩
  have hDX : ∀ i, w.heap.size ≤ i → i ∉ X := fun i hi hx => by have := hX i hx; omega
  refine ⟨w.heap.size + 1, [{ target := .collected w.heap.size, args := #[] }], W1, { target := .fn (.func gf) #[], args := rb ++ #[.func (.yield (w.heap.size + 1)) #[] #[]] }, W1, gf,
    rb ++ #[.func (.yield (w.heap.size + 1)) #[] #[]], W1, ?_, ?_, fun _ _ => trivial, ?_, fun h => (by simp [Fence.wide] at h), ?_⟩
  · rw [hrun, ← hW1, hrec]
  · simp only [resolve, hg]
    simp [go_sem]
  · simp [invoke, go_sem, eg]
  refine (hseq (w.heap.size + 1) X (fun pre W => I pre W ∧ W.heap[w.heap.size + 1]? = some (.loop (rec .ready)) ∧ W.heap[w.heap.size]? = some (.deferred (some [])))
    W1 (fun x hx => by have := hX x hx; omega) (fun s A B hs hb => ⟨hI s A B hs.1 (.of_below hb), (hb.block _ (Array.getElem?_eq_some_iff.1 hs.2.1).1).trans hs.2.1, (hb.block _ (Array.getElem?_eq_some_iff.1 hs.2.2).1).trans hs.2.2⟩) ?_ ⟨hI1, hL1, hK1⟩).mono ?_
  · rintro pre x W ⟨hi, hl, hk⟩ hpre
    have hy := run_yield (P := P) (args := encs x) hl (by rw [hsp]; exact hps x)
    rw [hrec] at hy
    refine ⟨fn, _, assign, body, hy, roundIn_of_wpIn trivial (wpIn_mono (hround _ pre x W hi hpre) ?_)⟩
    intro e a1 W2 hp
    cases e with
    | normal =>
      obtain ⟨hbx, hbody⟩ := hp
      have hl2 := (hbx.block (w.heap.size + 1) (Array.getElem?_eq_some_iff.1 hl).1 (hDX _ (by omega))).trans hl
      have hk2 := (hbx.block w.heap.size (Array.getElem?_eq_some_iff.1 hk).1 (hDX _ (by omega))).trans hk
      have hr := run_beginRound (P := P) hl2 (hst _)
      rw [hup] at hr
      have hlt2 := (Array.getElem?_eq_some_iff.1 hl2).1
      have hl3 := World.putObj_heap_same (w := W2) (o := .loop (rec .busy)) hlt2
      have hk3 := (World.putObj_heap_other (w := W2) (o := .loop (rec .busy)) (show w.heap.size ≠ w.heap.size + 1 by omega)).trans hk2
      refine ⟨_, hr, wpIn_mono (hbody _ (.put _ hl2 rfl (by omega))) ?_⟩
      intro e a3 W3 hp
      cases e with
      | normal =>
        obtain ⟨hb3, hi3⟩ := hp
        have hl4 := (hb3.block _ (Array.getElem?_eq_some_iff.1 hl3).1 (hDX _ (by omega))).trans hl3
        have hk4 := (hb3.block _ (Array.getElem?_eq_some_iff.1 hk3).1 (hDX _ (by omega))).trans hk3
        have he := run_endRound (P := P) none hl4
        simp only [Option.isNone_none, if_true] at he
        rw [hen] at he
        have hl5 := World.putObj_heap_same (w := W3) (o := .loop (rec .ready)) (Array.getElem?_eq_some_iff.1 hl4).1
        refine ⟨_, _, he, rfl, ⟨hI _ _ _ hi3 (.put _ hl4 rfl (by omega)), hl5, (World.putObj_heap_other (by omega)).trans hk4⟩, ?_⟩
        refine BX.drop (r := w.heap.size + 1) ?_ (hl5.trans hl.symm)
        exact (((hbx.wider _).trans (bx_loop _ hl2)).trans (hb3.wider _)).trans (bx_loop _ hl4)
      | _ => exact (hp : False).elim
    | _ => exact (hp : False).elim
  · rintro e W2 ⟨⟨v, rfl⟩, hi, hl, hk⟩
    have he := run_endLoop (P := P) hl (by rw [hst]; simp)
    rw [hpd] at he
    exact ⟨none, _, he, hdone _ (hI _ _ _ hi (.put _ hl rfl (by omega))) ((World.putObj_heap_other (by omega)).trans hk)⟩
/-- A function whose body holds a range over a function. -/
theorem calls_marks {P : Program} {f : FuncId} {fn : Func} {c : Code} {args : Array Value} {w : World} {R : Ending → World → Prop} (hf : P.funcs[f]? = some fn) (hb : fn.body = some c)
    (h : c.wp P (bodyPostM Fence.wide 6 P fn R) { tmps := args ++ Array.replicate (fn.ntmps - args.size) undef, defers := [] } w) : Calls P f args w R :=
  callsIn_wide.1 (callsIn_of_wp_marks (n := 6) hf hb trivial (wpIn_wide.2 h))
end Go.Proofs.YtdlmkblmljhbfaaDoor
