/-
  A loop over a closure that is an iterator, whose rounds may turn the caller's own blocks X, and rows of a type of their own (an append in place to a row that an earlier round made).
  Plain: which frames are accepted, and the numbers that were lost before them.
  The map of the last numbers, as the fold over what was accepted.
  Walks: the remainder of bytes that is asked; the message of a frame.
  'append' onto a slice of the call's own: its block is the one it had, or a new one.
  Walks: the error of a message, of bytes, the remainder, a frame and its message, by the reference.
  Walks: a frame, and the message of a frame, by the reference.
  Walks: the reference's remainder of a division, and whether a list has a number.
  Walks: the reference's accepted frames, and the numbers that were lost.
  Walk: the reference's names.
  Walks: streams by the reference: few, copied, valid.
  Plain: what a net says, without where it lies.
  'append' onto a slice of the call's own, as the end of a region that draws its order: what it turns is the slice's own block.
-/
import Derived.Test.YtdlmkblmljhbfaaDoorU1
import Derived.Test.YtdlmkblmljhbfaaDoorU2
import Derived.Test.YtdlmkblmljhbfaaDoorU5
import Derived.Test.YtdlmkblmljhbfaaDoorU6
import Derived.Test.YtdlmkblmljhbfaaDoorU4
namespace Go.Proofs.YtdlmkblmljhbfaaDoor
set_option linter.unusedSimpArgs false
set_option linter.unusedVariables false
open Go.RowKit
/-- An object that is no map. -/
def noMap : Obj → Bool
  | .map _ _ => false
  | _ => true
/-- Since A whatever is no map lies as it lay, and whatever lay below D. -/
structure MK (D : Nat) (A B : World) : Prop where
  os : B.os = A.os
  tape : B.tape = A.tape
  output : B.output = A.output
  size : A.heap.size ≤ B.heap.size
  keep : ∀ k o, A.heap[k]? = some o → (k < D ∨ noMap o = true) → B.heap[k]? = some o
theorem MK.refl (D : Nat) (A : World) : MK D A A := ⟨rfl, rfl, rfl, Nat.le_refl _, fun _ _ h _ => h⟩
theorem MK.trans {D : Nat} {A B C : World} (h : MK D A B) (k : MK D B C) : MK D A C :=
  ⟨k.os.trans h.os, k.tape.trans h.tape, k.output.trans h.output, Nat.le_trans h.size k.size, fun i o hi hu => k.keep i o (h.keep i o hi hu) hu⟩
theorem MK.of_below {D : Nat} {A B : World} (h : Below A.heap.size A B) : MK D A B :=
  ⟨h.os, h.tape, h.output, h.size, fun k _ hk _ => (h.block k (Array.getElem?_eq_some_iff.1 hk).1).trans hk⟩
theorem MK.ck {D : Nat} {A B : World} (h : MK D A B) : CK D A B :=
  ⟨h.os, h.tape, h.output, h.size, fun k o hk hu => h.keep k o hk (by
    rcases hu with hu | hu
    · exact .inl hu
    · right
      cases o <;> first | rfl | cases hu)⟩
/-- Since A a round turned nothing but the blocks X, and rows of e at D and above. -/
structure RX (D : Nat) (e : TypeId) (X : List Nat) (A B : World) : Prop where
  os : B.os = A.os
  tape : B.tape = A.tape
  output : B.output = A.output
  size : A.heap.size ≤ B.heap.size
  keep : ∀ k o, A.heap[k]? = some o → k ∉ X → (k < D ∨ ∀ cs, o ≠ .cells cs e (0, 0)) → B.heap[k]? = some o
theorem RX.refl (D : Nat) (e : TypeId) (X : List Nat) (A : World) : RX D e X A A := ⟨rfl, rfl, rfl, Nat.le_refl _, fun _ _ h _ _ => h⟩
theorem RX.trans {D : Nat} {e : TypeId} {X : List Nat} {A B C : World} (h : RX D e X A B) (k : RX D e X B C) : RX D e X A C :=
  ⟨k.os.trans h.os, k.tape.trans h.tape, k.output.trans h.output, Nat.le_trans h.size k.size, fun i o hi hX hu => k.keep i o (h.keep i o hi hX hu) hX hu⟩
theorem RX.of_below {D : Nat} {e : TypeId} {X : List Nat} {A B : World} (h : Below A.heap.size A B) : RX D e X A B :=
  ⟨h.os, h.tape, h.output, h.size, fun k _ hk _ _ => (h.block k (Array.getElem?_eq_some_iff.1 hk).1).trans hk⟩
theorem RX.of_bx {D : Nat} {e : TypeId} {X : List Nat} {A B : World} (h : BX X A B) : RX D e X A B :=
  ⟨h.os, h.tape, h.output, h.size, fun k _ hk hX _ => (h.block k (Array.getElem?_eq_some_iff.1 hk).1 hX).trans hk⟩
theorem RX.wider {D : Nat} {e : TypeId} {X : List Nat} {A B : World} (r : Nat) (h : RX D e X A B) : RX D e (r :: X) A B :=
  ⟨h.os, h.tape, h.output, h.size, fun k o hk hX hu => h.keep k o hk (fun m => hX (List.mem_cons_of_mem _ m)) hu⟩
theorem RX.drop {D : Nat} {e : TypeId} {X : List Nat} {A B : World} {r : Nat} (h : RX D e (r :: X) A B) (he : B.heap[r]? = A.heap[r]?) : RX D e X A B :=
  ⟨h.os, h.tape, h.output, h.size, fun k o hk hX hu => by
    by_cases e' : k = r
    · rw [e', he, ← e', hk]
    · exact h.keep k o hk (by simp [e', hX]) hu⟩
theorem rx_loop {D : Nat} {e : TypeId} {X : List Nat} {A : World} {r : Nat} (o' : Obj) : RX D e (r :: X) A (A.putObj r o') :=
  ⟨rfl, rfl, rfl, by simp, fun k o hk hX _ => (World.putObj_heap_other (fun e => hX (by simp [e]))).trans hk⟩
theorem RX.noRow {D : Nat} {e : TypeId} {X : List Nat} {A B : World} {k : Nat} {o : Obj} (h : RX D e X A B) (hk : A.heap[k]? = some o) (hX : k ∉ X) (ho : ∀ cs, o ≠ .cells cs e (0, 0)) : B.heap[k]? = some o := h.keep k o hk hX (.inr ho)
/-- A round turned X, and one row of e. -/
theorem RX.of_row {D g : Nat} {e : TypeId} {X : List Nat} {A B : World} {cs : Array Value} (h : BX (g :: X) A B) (hg : A.heap[g]? = some (.cells cs e (0, 0))) (hD : D ≤ g) : RX D e X A B :=
  ⟨h.os, h.tape, h.output, h.size, fun k o hk hX hu => by
    refine (h.block k (Array.getElem?_eq_some_iff.1 hk).1 fun m => ?_).trans hk
    rcases List.mem_cons.1 m with rfl | m
    · rw [hg] at hk
      injection hk with hk
      rcases hu with hu | hu
      · omega
      · exact hu cs hk.symm
    · exact hX m⟩
def GoesR {α : Type} (D : Nat) (e : TypeId) (X : List Nat) (I : List α → World → Prop) (xs : List α) (W : World) : Exit → Act → World → Prop
  | .normal, _, W' => RX D e X W W' ∧ I xs W'
  | _, _, _ => False
/-- What an iterator promises that lies ready in closure gf: it yields xs in their order, each by values that stand for it. -/
def Yields (P : Program) {α : Type} (D : Nat) (e : TypeId) (X : List Nat) (gf : Nat) (lb : Array Value) (Enc : α → Array Value → World → Prop) (xs : List α) (W0 : World) : Prop :=
  ∀ (l : Nat) (J : List α → World → Prop) (W : World), Below D W0 W → (∀ s A B, J s A → MK D A B → J s B) →
    (∀ pre x args W1, J pre W1 → pre ++ [x] <+: xs → Enc x args W1 → YieldAt Fence.wide 4 P l args W1 fun ε W' => ε = .returned (.bool true) ∧ J (pre ++ [x]) W' ∧ RX D e X W1 W') →
    J [] W → CallsIn Fence.wide 5 P gf (#[.func (.yield l) #[] #[]] ++ lb) W fun ε W' => (∃ v, ε = .returned v) ∧ J xs W'
theorem wp_range3 {P : Program} {α : Type} {g : Operand} {ps : Array Tmp} {assign body : Code} {Q : Exit → Act → World → Prop} {a : Act} {w : World} {gf : Nat} {lb : Array Value}
    (hg : a.eval g = .func (.func gf) #[] lb) (eg : ∀ args w, (callFunc gf args).run P w = .ok (.enter gf args) w) {Enc : α → Array Value → World → Prop} {xs : List α} (e : TypeId) (X : List Nat)
    (hseq : Yields P w.heap.size e X gf lb Enc xs w)
    (hps : ∀ x args W, Enc x args W → args.size = ps.size) (hX : ∀ x ∈ X, x < w.heap.size)
    (I : List α → World → Prop) (hI : ∀ s A B, I s A → CK w.heap.size A B → I s B)
    (h0 : I [] w)
    (hround : ∀ l pre x args W, I pre W → pre ++ [x] <+: xs → Enc x args W → assign.wpIn (Fence.wide.inRound l) 4 P
      (Exit.then (fun a1 W1 => RX w.heap.size e X W W1 ∧ ∀ W2, CK w.heap.size W1 W2 → body.wpIn (Fence.wide.inRound l) 4 P (GoesR w.heap.size e X I (pre ++ [x]) W2) a1 W2) (fun _ _ _ => False))
      { tmps := (ps.zip args).foldl (fun t (p, v) => t.setIfInBounds p v) a.tmps, defers := [] } W)
    (hdone : ∀ W, I xs W → W.heap[w.heap.size]? = some (.deferred (some [])) → Q .normal { a with defers := { target := .collected w.heap.size, args := #[] } :: a.defers } W) :
    (Code.rangeFunc g ps assign body).wp P Q a w := by
  refine (wpIn_wide (n := 6)).1 (wpIn_rangeFunc ?_)
  intro fn _
  rw [Fence.wide_round]
  obtain ⟨rec, hrec⟩ : ∃ rec : LoopState → Loop, rec = fun st => { state := st, pending := none, fn, tmps := a.tmps, params := ps, assign, body, defers := w.heap.size } := ⟨_, rfl⟩
  have hst : ∀ s, (rec s).state = s := fun s => by rw [hrec]
  have hpd : ∀ s, (rec s).pending = none := fun s => by rw [hrec]
  have hsp : ∀ s, (rec s).params = ps := fun s => by rw [hrec]
  have hup : ∀ s s' , { rec s with state := s' } = rec s' := fun s s' => by rw [hrec]
  have hen : ∀ s s', ({ rec s with state := s', pending := none } : Loop) = rec s' := fun s s' => by rw [hrec]
  have hrun := run_enterLoop_outer (P := P) (w := w) fn a.tmps ps assign body
  obtain ⟨W1, hW1⟩ : ∃ W1, (w.alloc (.deferred (some []))).alloc (.loop (rec .ready)) = W1 := ⟨_, rfl⟩
  have hb1 : Below w.heap.size w W1 := by
    rw [← hW1]; exact ((Below.refl _ w).alloc (Nat.le_refl _) _).alloc (by simp) _
  have hs1 : W1.heap.size = w.heap.size + 2 := by rw [← hW1]; simp
  have hL1 : W1.heap[w.heap.size + 1]? = some (.loop (rec .ready)) := by
    rw [← hW1]; have := World.alloc_heap_new (w.alloc (.deferred (some []))) (.loop (rec .ready)); rwa [World.size_alloc] at this
  have hK1 : W1.heap[w.heap.size]? = some (.deferred (some [])) := by
    rw [← hW1]; exact (Below.heap_alloc _ _ _ (by simp)).trans (World.alloc_heap_new w _)
  have hI1 : I [] W1 := hI _ _ _ h0 ⟨hb1.os, hb1.tape, hb1.output, hb1.size, fun k o hk _ => (hb1.block k (Array.getElem?_eq_some_iff.1 hk).1).trans hk⟩
  have hDX : ∀ i, w.heap.size ≤ i → i ∉ X := fun i hi hx => by have := hX i hx; omega
  refine ⟨w.heap.size + 1, [{ target := .collected w.heap.size, args := #[] }], W1, { target := .fn (.func gf) lb, args := #[.func (.yield (w.heap.size + 1)) #[] #[]] }, W1, gf,
    #[.func (.yield (w.heap.size + 1)) #[] #[]] ++ lb, W1, ?_, ?_, fun _ _ => trivial, ?_, fun h => (by simp [Fence.wide] at h), ?_⟩
  · rw [hrun, ← hW1, hrec]
  · simp only [resolve, hg]
    simp [go_sem]
  · simp [invoke, go_sem, eg]
  refine (hseq (w.heap.size + 1) (fun pre W => I pre W ∧ W.heap[w.heap.size + 1]? = some (.loop (rec .ready)) ∧ W.heap[w.heap.size]? = some (.deferred (some [])))
    W1 hb1 ?_ ?_ ⟨hI1, hL1, hK1⟩).mono ?_
  · rintro s A B ⟨hi, hl, hk⟩ hm
    exact ⟨hI _ _ _ hi hm.ck, hm.keep _ _ hl (.inr rfl), hm.keep _ _ hk (.inr rfl)⟩
  · rintro pre x args W ⟨hi, hl, hk⟩ hpre henc
    have hy := run_yield (P := P) (args := args) hl (by rw [hsp]; exact hps x args W henc)
    rw [hrec] at hy
    refine ⟨fn, _, assign, body, hy, roundIn_of_wpIn trivial (wpIn_mono (hround _ pre x args W hi hpre henc) ?_)⟩
    intro ε a1 W2 hp
    cases ε with
    | normal =>
      obtain ⟨hbx, hbody⟩ := hp
      have hl2 := hbx.noRow hl (hDX _ (by omega)) (fun _ h => by cases h)
      have hk2 := hbx.noRow hk (hDX _ (by omega)) (fun _ h => by cases h)
      have hr := run_beginRound (P := P) hl2 (hst _)
      rw [hup] at hr
      have hlt2 := (Array.getElem?_eq_some_iff.1 hl2).1
      have hl3 := World.putObj_heap_same (w := W2) (o := .loop (rec .busy)) hlt2
      have hk3 := (World.putObj_heap_other (w := W2) (o := .loop (rec .busy)) (show w.heap.size ≠ w.heap.size + 1 by omega)).trans hk2
      refine ⟨_, hr, wpIn_mono (hbody _ (.put _ hl2 rfl (by omega))) ?_⟩
      intro ε a3 W3 hp
      cases ε with
      | normal =>
        obtain ⟨hb3, hi3⟩ := hp
        have hl4 := hb3.noRow hl3 (hDX _ (by omega)) (fun _ h => by cases h)
        have hk4 := hb3.noRow hk3 (hDX _ (by omega)) (fun _ h => by cases h)
        have he := run_endRound (P := P) none hl4
        simp only [Option.isNone_none, if_true] at he
        rw [hen] at he
        have hl5 := World.putObj_heap_same (w := W3) (o := .loop (rec .ready)) (Array.getElem?_eq_some_iff.1 hl4).1
        refine ⟨_, _, he, rfl, ⟨hI _ _ _ hi3 (.put _ hl4 rfl (by omega)), hl5, (World.putObj_heap_other (by omega)).trans hk4⟩, ?_⟩
        refine RX.drop (r := w.heap.size + 1) ?_ (hl5.trans hl.symm)
        exact (((hbx.wider _).trans (rx_loop _)).trans (hb3.wider _)).trans (rx_loop _)
      | _ => exact (hp : False).elim
    | _ => exact (hp : False).elim
  · rintro ε W2 ⟨⟨v, rfl⟩, hi, hl, hk⟩
    have he := run_endLoop (P := P) hl (by rw [hst]; simp)
    rw [hpd] at he
    exact ⟨none, _, he, hdone _ (hI _ _ _ hi (.put _ hl rfl (by omega))) ((World.putObj_heap_other (by omega)).trans hk)⟩
end Go.Proofs.YtdlmkblmljhbfaaDoor
namespace Go.Proofs.YtdlmkblmljhbfaaDoor
set_option linter.unusedSimpArgs false
set_option linter.unusedVariables false
/-- An accepted frame: its index, its message, and the numbers that were lost before it. -/
structure Rc where
  at_ : Nat
  m : Ms
  lost : List Int
/-- The last accepted number of a source, or -1. -/
def lastN (out : List Rc) (src : Int) : Int := out.foldl (fun a r => if r.m.src = src then r.m.num else a) (-1)
def newN (a b : Int) : Int := (a - b + 256) % 256
def lostL (b : Int) : Nat → List Int
  | 0 => []
  | k + 1 => lostL b k ++ [(b + ((k : Int) + 1)) % 256]
def accNew (k : Nat) (m : Ms) (out : List Rc) : List Rc :=
  if lastN out m.src < 0 then [⟨k, m, []⟩]
  else if inR (newN m.num (lastN out m.src)) 1 127 then [⟨k, m, lostL (lastN out m.src) ((newN m.num (lastN out m.src)).toNat - 1)⟩] else []
def accAt (f : Fr) (k : Nat) (out : List Rc) : List Rc := if (decS f).2 = 0 then out ++ accNew k (decS f).1 out else out
def acK (l : List Fr) : Nat → List Rc
  | 0 => []
  | k + 1 => match l[k]? with
    | some f => accAt f k (acK l k)
    | none => acK l k
def acS (l : List Fr) : List Rc := acK l l.length
theorem acK_next {l : List Fr} {k : Nat} {f : Fr} (h : l[k]? = some f) : acK l (k + 1) = accAt f k (acK l k) := by rw [acK, h]
theorem lastN_nil (s : Int) : lastN [] s = -1 := rfl
theorem lastN_app (out : List Rc) (r : Rc) (s : Int) : lastN (out ++ [r]) s = if r.m.src = s then r.m.num else lastN out s := by simp [lastN, List.foldl_append]
/-- What an accepted frame's message says of itself. -/
structure RcOk (r : Rc) : Prop where
  src : 0 ≤ r.m.src ∧ r.m.src ≤ 15
  num : 0 ≤ r.m.num ∧ r.m.num ≤ 255
theorem msE_ok {m : Ms} (h : msE m = 0) : (0 ≤ m.src ∧ m.src ≤ 15) ∧ 0 ≤ m.num ∧ m.num ≤ 255 := by
  obtain ⟨h1, -⟩ := (fst_cons _ _).1 h
  have h2 := (unl_zero (by decide)).1 h1
  rw [Bool.and_eq_true, Bool.and_eq_true] at h2
  exact ⟨inR_iff.1 h2.1.1, inR_iff.1 h2.2⟩
theorem dec_ok {f : Fr} (h : (decS f).2 = 0) : msE (decS f).1 = 0 := by
  unfold decS at h ⊢
  split at h
  · rename_i h0
    rw [if_pos h0]
    split at h
    · rename_i h1
      rw [if_pos h1]
      exact ((fst_cons _ _).1 ((fst_cons _ _).1 h1).2).1
    · rename_i h1
      exact absurd h h1
  · rename_i h0
    exact absurd h h0
theorem accNew_ok {k : Nat} {m : Ms} {out : List Rc} (hm : msE m = 0) : ∀ r ∈ accNew k m out, RcOk r ∧ r.at_ = k ∧ r.m = m := fun r hr => by
  obtain ⟨h1, h2⟩ := msE_ok hm
  unfold accNew at hr
  split at hr
  · have := List.mem_singleton.1 hr
    subst this
    exact ⟨⟨h1, h2⟩, rfl, rfl⟩
  · split at hr
    · have := List.mem_singleton.1 hr
      subst this
      exact ⟨⟨h1, h2⟩, rfl, rfl⟩
    · simp at hr
theorem acK_ok (l : List Fr) : ∀ k, ∀ r ∈ acK l k, RcOk r ∧ r.at_ < k ∧ ∃ f, l[r.at_]? = some f ∧ (decS f).2 = 0 ∧ (decS f).1 = r.m
  | 0, r, h => by simp [acK] at h
  | k + 1, r, h => by
    rw [acK] at h
    cases hf : l[k]? with
    | none =>
      rw [hf] at h
      have := acK_ok l k r h
      exact ⟨this.1, by omega, this.2.2⟩
    | some f =>
      rw [hf] at h
      simp only [accAt] at h
      split at h
      · rename_i h0
        rcases List.mem_append.1 h with h | h
        · have := acK_ok l k r h
          exact ⟨this.1, by omega, this.2.2⟩
        · obtain ⟨h1, h2, h3⟩ := accNew_ok (dec_ok h0) r h
          exact ⟨h1, by omega, f, by rw [h2]; exact hf, h0, h3.symm⟩
      · have := acK_ok l k r h
        exact ⟨this.1, by omega, this.2.2⟩
theorem acK_len (l : List Fr) : ∀ k, (acK l k).length ≤ k
  | 0 => Nat.le_refl 0
  | k + 1 => by
    have ih := acK_len l k
    rw [acK]
    cases hf : l[k]? with
    | none => simp only; omega
    | some f =>
      simp only [accAt]
      split
      · rw [List.length_append]
        have : (accNew k (decS f).1 (acK l k)).length ≤ 1 := by
          unfold accNew
          split
          · simp
          · split <;> simp
        omega
      · omega
/-- The accepted indexes, and the lost numbers of a source. -/
def accI (l : List Fr) : List Int := (acS l).map fun r => (r.at_ : Int)
def lostS (l : List Fr) (src : Int) : List Int := (acS l).flatMap fun r => if r.m.src = src then r.lost else []
end Go.Proofs.YtdlmkblmljhbfaaDoor
namespace Go.Proofs.YtdlmkblmljhbfaaDoor
set_option linter.unusedSimpArgs false
set_option linter.unusedVariables false
open Go.RowKit Go.Shelf Go.MapKept Go.ChangeMaps Go.WideMaps
set_option maxRecDepth 20000
theorem lawI : Maps.Keyed Tryd.prog 3 := Maps.int_keyed Tryd.underlying3
def numD (out : List Rc) : DataW Unit := out.foldl (fun D r => D.put (.int .i64 r.m.src) (.lit (.int .i64 r.m.num))) (.map [])
theorem numD_snoc (out : List Rc) (r : Rc) : numD (out ++ [r]) = (numD out).put (.int .i64 r.m.src) (.lit (.int .i64 r.m.num)) := by simp [numD, List.foldl_append]
theorem numD_map (out : List Rc) : Maps.IsMap (numD out) := by
  unfold numD
  generalize hD : (DataW.map [] : DataW Unit) = D
  have h : Maps.IsMap D := hD ▸ Maps.isMap_empty
  clear hD
  induction out generalizing D with
  | nil => exact h
  | cons r out ih => exact ih _ (h.put _ _)
theorem isKeyI (s : Int) : WideAt.IsKeyLit (.int .i64 s) := trivial
theorem numD_says (out : List Rc) (hok : ∀ r ∈ out, RcOk r) (s : Int) :
    (Maps.has (numD out) (.int .i64 s) = decide (0 ≤ lastN out s)) ∧ ((numD out).atKey (.int .i64 s) (.lit (.int .i64 0)) = .lit (.int .i64 (if 0 ≤ lastN out s then lastN out s else 0))) := by
  rw [← List.reverse_reverse out] at hok ⊢
  generalize out.reverse = o at hok
  induction o with
  | nil => exact ⟨rfl, rfl⟩
  | cons r o ih =>
    have ih := ih (fun x hx => hok x (by simp at hx ⊢; exact .inl hx))
    rw [List.reverse_cons, numD_snoc, lastN_app]
    by_cases e : r.m.src = s
    · subst e
      rw [if_pos rfl]
      have hr := (hok r (by simp)).num
      exact ⟨by rw [Maps.has_put_same (numD_map _) (isKeyI _)]; exact (decide_eq_true hr.1).symm, by rw [if_pos hr.1]; exact Maps.atKey_put_same (numD_map _) (isKeyI _) _ _⟩
    · rw [if_neg e]
      have hne : Lit.int .i64 s ≠ Lit.int .i64 r.m.src := fun h => by injection h with _ h; exact e h.symm
      rw [Maps.has_put_other hne, Maps.atKey_put_other hne]
      exact ih
theorem wp_lookI {P : Program} {ops : Array Oper} {rest : List Oper} {o : Oper} {a : Act} {Q : Exit → Act → World → Prop} (w : World) (hg : o.guard = none) (m x : Operand) (t : TypeId) (hop : o.op = Op.lookup t m x true)
    (k e : TypeId) (q : IntKind) (K : Maps.Keyed P k) (ht : P.underlying t = some (.map k e)) (he : P.underlying e = some (.int q)) (hz : (zeroValue e).run P w = .ok (.int q 0) w) (b n : Nat) (D : DataW Unit)
    (hm : a.eval m = .map (some b)) (hown : w.ownsMap P k (plainElem P e) b n D) (key : Value) (kl : Lit) (hx : a.eval x = key) (hkey : keyOf P k key = some kl) (v0 : Int) (b0 : Bool)
    (hv0 : D.atKey kl (.lit (.int q 0)) = .lit (.int q v0)) (hb0 : Maps.has D kl = b0)
    (hK : wpList P ops Q rest (a.put o.dst (.tuple #[.int q v0, .bool b0])) w) : wpList P ops Q (o :: rest) a w :=
  wpList_lookup_own_ok_int w hg m x t hop k e q K ht he hz b n D hm hown key kl hx hkey (fun c h _ => by
    rw [hv0] at h
    injection h with h
    injection h with _ h
    subst h
    rw [hb0]
    exact hK)
end Go.Proofs.YtdlmkblmljhbfaaDoor
namespace Go.Proofs.YtdlmkblmljhbfaaDoor
set_option linter.unusedSimpArgs false
set_option linter.unusedVariables false
open Go.RowKit Go.Shelf
attribute [local go_sem] bl_al bl_drew bl_drewN bl_refl bx_al bx_drew bx_drewN bx_refl
set_option maxRecDepth 20000
/-- The remainder that is asked: it, and an error. -/
def remS (l : List Int) : Int × Int := if remE l = 0 then (((remI l : Nat) : Int), 0) else (0, remE l)
set_option maxHeartbeats 4000000 in
theorem c_RemainderOf (l : List Int) (A : Option Addr) (c : Nat) (w : World) (hl : l.length ≤ 1000000) (hr : Sl cI 1 w A l) : Calls Tryd.prog 23 #[.slice A l.length c] w (Ret (.tuple #[.int .i64 (remS l).1, .int .i64 (remS l).2]) w) := by
  have hcb := Lib.hid fun W (hb : Below w.heap.size w W) => c_bytesErr l A c W hl (hr.below hb)
  have hcr := Lib.hid fun (hb : ∀ n ∈ l, 0 ≤ n ∧ n ≤ 255) W (hw : Below w.heap.size w W) => c_remainder l A c W hl hb (hr.below hw)
  have hE : Hid (remE l = fstE [unl (decide ((l.length : Int) ≤ 60)) 8, bytesE l]) := rfl
  have h1 : Hid (remE l ≠ 0 → remS l = (0, remE l)) := fun h => by rw [remS, if_neg h]
  have h2 : Hid (remE l = 0 → remS l = (((remI l : Nat) : Int), 0)) := fun h => by rw [remS, if_pos h]
  have hby : Hid (remE l = 0 → ∀ n ∈ l, 0 ≤ n ∧ n ≤ 255) := fun h => bytes_ok ((fst_cons _ _).1 ((fst_cons _ _).1 h).2).1
  clear hr
  generalize remE l = E at *
  generalize l.length = n at *
  go_enter Tryd.func23, Tryd.ntmps23
  go_upto_region 2 with (first | (go_at_call 78; (with_reducible refine (c_unless _ _ _).mono ?_); rintro e w3 ⟨rfl, rfl⟩) | (go_at_call 82; (with_reducible refine (hcb.out _ (by (with_reducible (repeat' (first | assumption | apply jA | apply jB | apply jC | apply jD | apply jE | apply jF | apply hb3 | omega | (simp; done) | (simp; omega) | (dsimp only; omega)))))).mono ?_); rintro e w3 ⟨rfl, hb3⟩; replace hb3 := bl_tt hb3) | (go_at_call 77; (with_reducible refine (c_first2 (by (with_reducible (repeat' (first | assumption | (apply jL; first | (simp; done) | rfl) | apply jM | apply jN | apply jO | apply jP | apply jQ | apply jR | apply jS | apply jT (hb := hb3 _ (jA _)) | omega | (simp; done) | (simp; omega) | (dsimp only; omega)))))).mono ?_); rintro e w3 ⟨rfl, rfl⟩))
  rw [← hE.out]
  clear hcb
  by_cases h0 : E = 0
  · have h0' : (E != 0) = false := by simp [h0]
    have hs := Lib.hid (h2.out h0)
    have hbd := Lib.hid (hby.out h0)
    replace h0 := Lib.hid h0
    go_wp2_with (go_at_call 83; (with_reducible refine (hcr.out hbd.out _ (by (with_reducible (repeat' (first | assumption | apply jA | apply jB | apply jC | apply jD | apply jE | apply jF | apply hb3 | omega | (simp; done) | (simp; omega) | (dsimp only; omega)))))).mono ?_); rintro e w4 ⟨rfl, rfl⟩)
    go_ret2
    exact ⟨by rw [hs.out] <;> rfl, by (with_reducible (repeat' (first | assumption | apply jA | apply jB | apply jC | apply jD | apply jE | apply jF | apply hb3 | omega | (simp; done) | (simp; omega) | (dsimp only; omega))))⟩
  · have h0' : (E != 0) = true := by simp [h0]
    have hs := Lib.hid (h1.out h0)
    replace h0 := Lib.hid h0
    go_wp2
    go_ret2
    exact ⟨by rw [hs.out] <;> rfl, by (with_reducible (repeat' (first | assumption | apply jA | apply jB | apply jC | apply jD | apply jE | apply jF | apply hb3 | omega | (simp; done) | (simp; omega) | (dsimp only; omega))))⟩
/-- The message of a frame, by the reference's order of errors. -/
theorem decS_bytes {f : Fr} (h : bytesE f.l ≠ 0) : decS f = (ms0, bytesE f.l) := by rw [decS, if_neg h]
theorem decS_bad {f : Fr} (h : bytesE f.l = 0) (h2 : fstE [unl (decide (f.a7 = (remI f.head : Int))) 19, msE f.ms] ≠ 0) : decS f = (ms0, fstE [unl (decide (f.a7 = (remI f.head : Int))) 19, msE f.ms]) := by rw [decS, if_pos h, if_neg h2]
theorem decS_ok {f : Fr} (h : bytesE f.l = 0) (h2 : fstE [unl (decide (f.a7 = (remI f.head : Int))) 19, msE f.ms] = 0) : decS f = (f.ms, 0) := by rw [decS, if_pos h, if_pos h2]
theorem head_bd {f : Fr} (h : bytesE f.l = 0) : ∀ n ∈ f.head, 0 ≤ n ∧ n ≤ 255 := fun n hn => bytes_ok h n (by
  simp only [Fr.head, Fr.l, List.mem_cons, List.not_mem_nil, or_false] at hn ⊢
  omega)
set_option maxHeartbeats 8000000 in
theorem c_Decoded (f : Fr) (w : World) : Calls Tryd.prog 25 #[vFr f] w (Ret (.tuple #[vMs (decS f).1, .int .i64 (decS f).2]) w) := by
  have hb1 := Lib.hid fun h => decS_bytes (f := f) h
  have hb2 := Lib.hid fun h h2 => decS_bad (f := f) h h2
  have hb3' := Lib.hid fun h h2 => decS_ok (f := f) h h2
  have hhd := Lib.hid fun h => head_bd (f := f) h
  obtain ⟨a0, a1, a2, a3, a4, a5, a6, a7⟩ := f
  dsimp only [Fr.l, Fr.head, Fr.ms] at hb1 hb2 hb3' hhd
  go_enter Tryd.func25, Tryd.ntmps25
  go_upto_region 1 with fail
  first
  | apply absB2 (w0 := w) (g0 := w.heap.size) (g1 := w.heap.size + 1)
  | apply absTB2 (w0 := w) (g0 := w.heap.size) (g1 := w.heap.size + 1)
  | apply absIB2 (w0 := w) (g0 := w.heap.size) (g1 := w.heap.size + 1)
  iterate 3 (focus ((with_reducible (repeat' (first | assumption | apply jA | apply jB | apply jC | apply jD | apply jE | apply jF | apply hb3 | apply jG | apply jH | apply jI | apply jJ | apply jK | apply hb3x | (apply jL; first | (simp; done) | rfl) | apply jM | apply jN | apply jO | apply jP | apply jQ | apply jR | apply jS | apply jT (hb := hb3 _ (jA _)) | omega | (simp; done) | (simp; omega) | (dsimp only; omega)))); done))
  intro wa hb0' k0' k1'
  (try simp only [List.setIfInBounds_toArray, List.set_cons_zero, List.set_cons_succ] at k0' k1')
  try clear hb3
  try clear hb0
  try clear k0
  try clear k1
  have hb0 := hb0'; clear hb0'
  have k0 := k0'; clear k0'
  have k1 := k1'; clear k1'
  have hcb : Hid (Calls Tryd.prog 82 #[.slice (some ⟨w.heap.size, 0, none⟩) 8 8] wa (Ret (.int .i64 (bytesE [a0, a1, a2, a3, a4, a5, a6, a7])) wa)) := c_bytesErr [a0, a1, a2, a3, a4, a5, a6, a7] (some ⟨w.heap.size, 0, none⟩) 8 wa (by simp) (k0.sub (l := [a0, a1, a2, a3, a4, a5, a6, a7]) (fun k x hx => by match k, hx with | 0, hx | 1, hx | 2, hx | 3, hx | 4, hx | 5, hx | 6, hx | 7, hx => simpa using hx))
  go_wp2_with fail
  refine hcb.out.mono ?_
  rintro e wb ⟨rfl, hb3⟩
  replace hb0 := bl_tr hb0 hb3
  replace k0 := k0.below hb3
  replace k1 := k1.below hb3
  clear hb3 hcb
  generalize hBE : bytesE [a0, a1, a2, a3, a4, a5, a6, a7] = B at *
  clear hBE
  by_cases h0 : B = 0
  rotate_left
  · have h0' : (B != 0) = true := by simp [h0]
    have hs := Lib.hid (hb1.out h0)
    replace h0 := Lib.hid h0
    clear hb1 hb2 hb3' hhd
    have L1 := k1.cell
    have F1 := k1.frozen
    go_wp2
    first
    | apply absPB2 (w0 := w) (g0 := w.heap.size) (g1 := w.heap.size + 1)
    | apply absPMB2 (w0 := w) (g0 := w.heap.size) (g1 := w.heap.size + 1)
    iterate 3 (focus ((with_reducible (repeat' (first | assumption | apply jA | apply jB | apply jC | apply jD | apply jE | apply jF | apply hb3 | apply jG | apply jH | apply jI | apply jJ | apply jK | apply hb3x | (apply jL; first | (simp; done) | rfl) | apply jM | apply jN | apply jO | apply jP | apply jQ | apply jR | apply jS | apply jT (hb := hb3 _ (jA _)) | omega | (simp; done) | (simp; omega) | (dsimp only; omega)))); done))
    intro wz hb0' k0' k1'
    (try simp only [List.setIfInBounds_toArray, List.set_cons_zero, List.set_cons_succ] at k0' k1')
    try clear hb3
    try clear hb0
    try clear k0
    try clear k1
    have hb0 := hb0'; clear hb0'
    have k0 := k0'; clear k0'
    have k1 := k1'; clear k1'
    have hr := k1.cell
    exact bodyPost_ret (v := .tuple #[vMs ms0, .int .i64 B]) (by simp [results, Tryd.results25, go_sem, hr, ms0]) rfl ⟨by rw [hs.out] <;> rfl, hb0⟩
  have h0' : (B != 0) = false := by simp [h0]
  replace hb2 := Lib.hid (hb2.out h0)
  replace hb3' := Lib.hid (hb3'.out h0)
  replace hhd := Lib.hid (hhd.out h0)
  clear hb1
  replace h0 := Lib.hid h0
  have L0 := k0.cell
  have hat : ∀ W : World, (Instr.arrayAt 37 (.slice (some ⟨w.heap.size, 3, none⟩) 4 5)).run Tryd.prog W = .ok (.pointer (some ⟨w.heap.size, 3, none⟩)) W := fun W => by simp [Instr.arrayAt, run_underlying (Tryd.underlying37)]
  have hq0 := hb0.size
  have hq4 := k0.lt
  have hq5 := k1.lt
  go_upto_region 5 with fail
  first
  | apply absB3 (w0 := w) (g0 := w.heap.size) (g1 := w.heap.size + 1) (g2 := wb.heap.size)
  | apply absTB3 (w0 := w) (g0 := w.heap.size) (g1 := w.heap.size + 1) (g2 := wb.heap.size)
  | apply absIB3 (w0 := w) (g0 := w.heap.size) (g1 := w.heap.size + 1) (g2 := wb.heap.size)
  iterate 4 (focus ((with_reducible (repeat' (first | assumption | apply jA | apply jB | apply jC | apply jD | apply jE | apply jF | apply hb3 | apply jG | apply jH | apply jI | apply jJ | apply jK | apply hb3x | (apply jL; first | (simp; done) | rfl) | apply jM | apply jN | apply jO | apply jP | apply jQ | apply jR | apply jS | apply jT (hb := hb3 _ (jA _)) | omega | (simp; done) | (simp; omega) | (dsimp only; omega)))); done))
  intro wc hb0' k0' k1' k2'
  (try simp only [List.setIfInBounds_toArray, List.set_cons_zero, List.set_cons_succ] at k0' k1' k2')
  try clear hb3
  try clear hb0
  try clear k0
  try clear k1
  try clear k2
  have hb0 := hb0'; clear hb0'
  have k0 := k0'; clear k0'
  have k1 := k1'; clear k1'
  have k2 := k2'; clear k2'
  clear L0
  have L0 := k0.cell
  have L2 := k2.cell
  have F2 := k2.frozen
  have hq1 := hb0.size
  have hq2 := k1.lt
  have hq3 := k2.lt
  go_upto_region 6 with fail
  first
  | apply absB3 (w0 := w) (g0 := w.heap.size) (g1 := w.heap.size + 1) (g2 := wb.heap.size)
  | apply absTB3 (w0 := w) (g0 := w.heap.size) (g1 := w.heap.size + 1) (g2 := wb.heap.size)
  | apply absIB3 (w0 := w) (g0 := w.heap.size) (g1 := w.heap.size + 1) (g2 := wb.heap.size)
  iterate 4 (focus ((with_reducible (repeat' (first | assumption | apply jA | apply jB | apply jC | apply jD | apply jE | apply jF | apply hb3 | apply jG | apply jH | apply jI | apply jJ | apply jK | apply hb3x | (apply jL; first | (simp; done) | rfl) | apply jM | apply jN | apply jO | apply jP | apply jQ | apply jR | apply jS | apply jT (hb := hb3 _ (jA _)) | omega | (simp; done) | (simp; omega) | (dsimp only; omega)))); done))
  intro wd hb0' k0' k1' k2'
  (try simp only [List.setIfInBounds_toArray, List.set_cons_zero, List.set_cons_succ] at k0' k1' k2')
  try clear hb3
  try clear hb0
  try clear k0
  try clear k1
  try clear k2
  have hb0 := hb0'; clear hb0'
  have k0 := k0'; clear k0'
  have k1 := k1'; clear k1'
  have k2 := k2'; clear k2'
  have Lk0 := k0.later
  have Fk0 := k0.laterF
  have Qk0 := k0.lt
  have Lk1 := k1.later
  have Fk1 := k1.laterF
  have Qk1 := k1.lt
  have Lk2 := k2.later
  have Fk2 := k2.laterF
  have Qk2 := k2.lt
  clear L0 L2 F2
  have hrm : Hid (∀ W : World, Below wd.heap.size wd W → Calls Tryd.prog 83 #[.slice (some ⟨w.heap.size, 0, none⟩) 7 8] W (Same (.int .i64 (remI [a0, a1, a2, a3, a4, a5, a6] : Nat)) W)) := fun W hb =>
    c_remainder [a0, a1, a2, a3, a4, a5, a6] (some ⟨w.heap.size, 0, none⟩) 8 W (by simp) hhd.out ((k0.sub (l := [a0, a1, a2, a3, a4, a5, a6]) (fun k x hx => by match k, hx with | 0, hx | 1, hx | 2, hx | 3, hx | 4, hx | 5, hx | 6, hx => simpa using hx)).below hb)
  have hcm := Lib.hid fun W : World => c_CheckMessage ⟨a0, a1, a2, a3, a4, a5, a6⟩ W
  refine wp_any (w0 := wd) ⟨[], [], [some 24, some 25, some 26, some 27, some 28, some 29, some 30, some 31, some 32, some 33, some 6], [[], [0], [], [2], [0, 1, 2, 3], [0, 1, 2, 3, 4], [], [0, 1, 2, 3, 4, 5, 6], [0, 1, 2, 3, 4, 5, 6, 7], [0, 1, 2, 3, 4, 5, 6, 7, 8], [0, 1, 2, 3, 4, 5, 6, 7, 8, 9]], [[], [0], [], [2], [1, 3], [4], [], [6], [5, 7], [8], [8, 9]]⟩ (fun _ => []) (by kernel_rfl) (by kernel_rfl) (by (with_reducible (repeat' (first | assumption | apply jA | apply jB | apply jC | apply jD | apply jE | apply jF | apply hb3 | omega | (simp; done) | (simp; omega) | (dsimp only; omega))))) (fun u => by simp only [putD, Act.put, List.setIfInBounds_toArray, List.set_cons_zero, List.set_cons_succ, Nat.zero_add, Nat.reduceAdd]; rfl) ?_
  apply RGW.on (i := 0) rfl
  · (simp only [gA, gB, gC] <;> rfl)
  · intro γ u W hcur hd
    clear hd
    (try dsimp only)
    refine ⟨rfl, ?_⟩
    go_simp <;> (try go_bits) <;> with_reducible rfl
  · exact fun _ _ _ => rfl
  · rfl
  dsimp only [nA, cA]
  apply RGW.on (i := 1) rfl
  · (simp only [gA, gB, gC] <;> rfl)
  · intro γ u W hcur hd
    obtain ⟨⟨h0, -, -⟩, -⟩ := hd
    dsimp only at h0
    (try simp only [h0])
    refine ⟨rfl, ?_⟩
    go_simp <;> (try go_bits) <;> with_reducible rfl
  · exact fun _ _ _ => rfl
  · rfl
  dsimp only [nA, cA]
  apply RGW.on (i := 2) rfl
  · (simp only [gA, gB, gC] <;> rfl)
  · intro γ u W hcur hd
    clear hd
    (try dsimp only)
    refine ⟨rfl, ?_⟩
    go_simp <;> (try go_bits) <;> with_reducible rfl
  · exact fun _ _ _ => rfl
  · rfl
  dsimp only [nA, cA]
  apply RGW.call (i := 3) rfl
  · (simp only [gA, gB, gC] <;> rfl)
  · intro γ u W hcur hd
    obtain ⟨⟨h2, -, -⟩, -⟩ := hd
    dsimp only at h2
    (try simp only [h2])
    refine ⟨rfl, fun K hK => ?_⟩
    go_simp
    first
    | (go_at_call 83; (with_reducible refine (hrm.out _ (by (with_reducible (repeat' (first | assumption | apply jA | apply jB | apply jC | apply jD | apply jE | apply jF | apply hb3 | omega | (simp; done) | (simp; omega) | (dsimp only; omega)))))).mono ?_); rintro e w3 ⟨rfl, rfl⟩)
    | (go_at_call 78; (with_reducible refine (c_unless _ _ _).mono ?_); rintro e w3 ⟨rfl, rfl⟩)
    | (go_at_call 22; (with_reducible refine (hcm.out _).mono ?_); rintro e w3 ⟨rfl, hb3⟩; replace hb3 := bl_tt hb3)
    | (go_at_call 77; (with_reducible refine (c_first2 (by (with_reducible (repeat' (first | assumption | (apply jL; first | (simp; done) | rfl) | apply jM | apply jN | apply jO | apply jP | apply jQ | apply jR | apply jS | apply jT (hb := hb3 _ (jA _)) | omega | (simp; done) | (simp; omega) | (dsimp only; omega)))))).mono ?_); rintro e w3 ⟨rfl, rfl⟩)
    (try dsimp only)
    exact hK.out _ _ rfl (by (with_reducible (repeat' (first | assumption | apply jA | apply jB | apply jC | apply jD | apply jE | apply jF | apply hb3 | omega | (simp; done) | (simp; omega) | (dsimp only; omega)))))
  · exact fun _ _ _ => rfl
  · rfl
  dsimp only [nA, cA]
  apply RGW.on (i := 4) rfl
  · (simp only [gA, gB, gC] <;> rfl)
  · intro γ u W hcur hd
    obtain ⟨⟨h1, -, -⟩, ⟨h3, -, -⟩, -⟩ := hd
    dsimp only at h1 h3
    (try simp only [h1, h3])
    refine ⟨rfl, ?_⟩
    go_simp <;> (try go_bits) <;> with_reducible rfl
  · exact fun _ _ _ => rfl
  · rfl
  dsimp only [nA, cA]
  apply RGW.call (i := 5) rfl
  · (simp only [gA, gB, gC] <;> rfl)
  · intro γ u W hcur hd
    obtain ⟨⟨h4, -, -⟩, -⟩ := hd
    dsimp only at h4
    (try simp only [h4])
    refine ⟨rfl, fun K hK => ?_⟩
    go_simp
    first
    | (go_at_call 83; (with_reducible refine (hrm.out _ (by (with_reducible (repeat' (first | assumption | apply jA | apply jB | apply jC | apply jD | apply jE | apply jF | apply hb3 | omega | (simp; done) | (simp; omega) | (dsimp only; omega)))))).mono ?_); rintro e w3 ⟨rfl, rfl⟩)
    | (go_at_call 78; (with_reducible refine (c_unless _ _ _).mono ?_); rintro e w3 ⟨rfl, rfl⟩)
    | (go_at_call 22; (with_reducible refine (hcm.out _).mono ?_); rintro e w3 ⟨rfl, hb3⟩; replace hb3 := bl_tt hb3)
    | (go_at_call 77; (with_reducible refine (c_first2 (by (with_reducible (repeat' (first | assumption | (apply jL; first | (simp; done) | rfl) | apply jM | apply jN | apply jO | apply jP | apply jQ | apply jR | apply jS | apply jT (hb := hb3 _ (jA _)) | omega | (simp; done) | (simp; omega) | (dsimp only; omega)))))).mono ?_); rintro e w3 ⟨rfl, rfl⟩)
    (try dsimp only)
    exact hK.out _ _ rfl (by (with_reducible (repeat' (first | assumption | apply jA | apply jB | apply jC | apply jD | apply jE | apply jF | apply hb3 | omega | (simp; done) | (simp; omega) | (dsimp only; omega)))))
  · exact fun _ _ _ => rfl
  · rfl
  dsimp only [nA, cA]
  apply RGW.on (i := 6) rfl
  · (simp only [gA, gB, gC] <;> rfl)
  · intro γ u W hcur hd
    clear hd
    (try dsimp only)
    refine ⟨rfl, ?_⟩
    go_simp <;> (try go_bits) <;> with_reducible rfl
  · exact fun _ _ _ => rfl
  · rfl
  dsimp only [nA, cA]
  apply RGW.call (i := 7) rfl
  · (simp only [gA, gB, gC] <;> rfl)
  · intro γ u W hcur hd
    obtain ⟨⟨h6, -, -⟩, -⟩ := hd
    dsimp only at h6
    (try simp only [h6])
    refine ⟨rfl, fun K hK => ?_⟩
    go_simp
    first
    | (go_at_call 83; (with_reducible refine (hrm.out _ (by (with_reducible (repeat' (first | assumption | apply jA | apply jB | apply jC | apply jD | apply jE | apply jF | apply hb3 | omega | (simp; done) | (simp; omega) | (dsimp only; omega)))))).mono ?_); rintro e w3 ⟨rfl, rfl⟩)
    | (go_at_call 78; (with_reducible refine (c_unless _ _ _).mono ?_); rintro e w3 ⟨rfl, rfl⟩)
    | (go_at_call 22; (with_reducible refine (hcm.out _).mono ?_); rintro e w3 ⟨rfl, hb3⟩; replace hb3 := bl_tt hb3)
    | (go_at_call 77; (with_reducible refine (c_first2 (by (with_reducible (repeat' (first | assumption | (apply jL; first | (simp; done) | rfl) | apply jM | apply jN | apply jO | apply jP | apply jQ | apply jR | apply jS | apply jT (hb := hb3 _ (jA _)) | omega | (simp; done) | (simp; omega) | (dsimp only; omega)))))).mono ?_); rintro e w3 ⟨rfl, rfl⟩)
    (try dsimp only)
    exact hK.out _ _ rfl (by (with_reducible (repeat' (first | assumption | apply jA | apply jB | apply jC | apply jD | apply jE | apply jF | apply hb3 | omega | (simp; done) | (simp; omega) | (dsimp only; omega)))))
  · exact fun _ _ _ => rfl
  · rfl
  dsimp only [nA, cA]
  apply RGW.bslice (i := 8) rfl
  · (simp only [gA, gB, gC] <;> rfl)
  · intro γ u W hcur hd
    obtain ⟨⟨h5, -, -⟩, ⟨h7, -, -⟩, -⟩ := hd
    dsimp only at h5 h7
    (try simp only [h5, h7])
    refine ⟨rfl, fun K hK => ?_⟩
    go_simp
    exact hK.out _ _ rfl rfl
  · exact fun _ _ _ => rfl
  · rfl
  · rfl
  dsimp only [nA, cA]
  apply RGW.call (i := 9) rfl
  · (simp only [gA, gB, gC] <;> rfl)
  · intro γ u W hcur hd
    obtain ⟨⟨h8, r8, -⟩, -⟩ := hd
    dsimp only at h8 r8
    have L8 := r8.cell
    (try simp only [h8])
    refine ⟨rfl, fun K hK => ?_⟩
    go_simp
    first
    | (go_at_call 83; (with_reducible refine (hrm.out _ (by (with_reducible (repeat' (first | assumption | apply jA | apply jB | apply jC | apply jD | apply jE | apply jF | apply hb3 | omega | (simp; done) | (simp; omega) | (dsimp only; omega)))))).mono ?_); rintro e w3 ⟨rfl, rfl⟩)
    | (go_at_call 78; (with_reducible refine (c_unless _ _ _).mono ?_); rintro e w3 ⟨rfl, rfl⟩)
    | (go_at_call 22; (with_reducible refine (hcm.out _).mono ?_); rintro e w3 ⟨rfl, hb3⟩; replace hb3 := bl_tt hb3)
    | (go_at_call 77; (with_reducible refine (c_first2 (by (with_reducible (repeat' (first | assumption | (apply jL; first | (simp; done) | rfl) | apply jM | apply jN | apply jO | apply jP | apply jQ | apply jR | apply jS | apply jT (hb := hb3 _ (jA _)) | omega | (simp; done) | (simp; omega) | (dsimp only; omega)))))).mono ?_); rintro e w3 ⟨rfl, rfl⟩)
    (try dsimp only)
    exact hK.out _ _ rfl (by (with_reducible (repeat' (first | assumption | apply jA | apply jB | apply jC | apply jD | apply jE | apply jF | apply hb3 | omega | (simp; done) | (simp; omega) | (dsimp only; omega)))))
  · first
    | exact fun _ _ _ => rfl
    | intro γ γ' hg
      try dsimp only
      have e8 := hg 8 (by decide)
      simp only [e8]
  · rfl
  dsimp only [nA, cA]
  apply RGW.on (i := 10) rfl
  · (simp only [gA, gB, gC] <;> rfl)
  · intro γ u W hcur hd
    obtain ⟨⟨h8, r8, -⟩, ⟨h9, -, -⟩, -⟩ := hd
    dsimp only at h8 h9 r8
    have L8 := r8.cell
    (try simp only [h8, h9])
    refine ⟨rfl, ?_⟩
    go_simp <;> (try go_bits) <;> with_reducible rfl
  · first
    | exact fun _ _ _ => rfl
    | intro γ γ' hg
      try dsimp only
      have e8 := hg 8 (by decide)
      simp only [e8]
  · rfl
  dsimp only [nA, cA]
  refine RGW.fin (fun γ u we hwe hd hdis => ?_)
  obtain ⟨⟨h0, -, -⟩, ⟨h1, -, -⟩, ⟨h2, -, -⟩, ⟨h3, -, -⟩, ⟨h4, -, -⟩, ⟨h5, -, -⟩, ⟨h6, -, -⟩, ⟨h7, -, -⟩, ⟨h8, r8, b8⟩, ⟨h9, -, -⟩, ⟨h10, -, -⟩, -⟩ := hd
  dsimp only at h0 h1 h2 h3 h4 h5 h6 h7 h8 h9 h10 r8 b8
  clear hdis
  simp only [h0, h1, h2, h3, h4, h5, h6, h7, h8, h9, h10]
  clear h10 h9 h8 h7 h6 h5 h4 h3 h2 h1 h0
  replace b8 := b8 _ (List.mem_singleton.2 rfl)
  generalize hγ8 : (γ 8).n = g8 at *
  clear hγ8
  clear u
  simp only [List.map_nil]
  refine PlanW.done ?_
  have hb3 := bl_tt hwe
  have hbe := hb3 _ hb0
  replace k1 := k1.below hwe
  replace k2 := k2.below hwe
  clear Lk0 Lk1 Lk2 Fk0 Fk1 Fk2 k0 hb0 hb3 hrm hcm hwe
  replace hb2 : Hid (fstE [unl (a7 == ((remI [a0, a1, a2, a3, a4, a5, a6] : Nat) : Int)) 19, msE ⟨a0, a1, a2, a3, a4, a5, a6⟩] ≠ 0 → decS ⟨a0, a1, a2, a3, a4, a5, a6, a7⟩ = (ms0, fstE [unl (a7 == ((remI [a0, a1, a2, a3, a4, a5, a6] : Nat) : Int)) 19, msE ⟨a0, a1, a2, a3, a4, a5, a6⟩])) := hb2
  replace hb3' : Hid (fstE [unl (a7 == ((remI [a0, a1, a2, a3, a4, a5, a6] : Nat) : Int)) 19, msE ⟨a0, a1, a2, a3, a4, a5, a6⟩] = 0 → decS ⟨a0, a1, a2, a3, a4, a5, a6, a7⟩ = (⟨a0, a1, a2, a3, a4, a5, a6⟩, 0)) := hb3'
  obtain ⟨E, hE⟩ : ∃ E, fstE [unl (a7 == ((remI [a0, a1, a2, a3, a4, a5, a6] : Nat) : Int)) 19, msE ⟨a0, a1, a2, a3, a4, a5, a6⟩] = E := ⟨_, rfl⟩
  rw [hE] at hb2 hb3' ⊢
  clear hE h0' hhd
  have hb0 := hbe
  have L1 := k1.cell
  have F1 := k1.frozen
  by_cases hE0 : E = 0
  · have hE' : (E != 0) = false := by simp [hE0]
    have hs := Lib.hid (hb3'.out hE0)
    replace hE0 := Lib.hid hE0
    have L2 := k2.cell
    clear hb2 hb3'
    go_wp2
    first
    | apply absPB1 (w0 := w) (g0 := w.heap.size + 1)
    | apply absPMB1 (w0 := w) (g0 := w.heap.size + 1)
    iterate 2 (focus ((with_reducible (repeat' (first | assumption | apply jA | apply jB | apply jC | apply jD | apply jE | apply jF | apply hb3 | apply jG | apply jH | apply jI | apply jJ | apply jK | apply hb3x | (apply jL; first | (simp; done) | rfl) | apply jM | apply jN | apply jO | apply jP | apply jQ | apply jR | apply jS | apply jT (hb := hb3 _ (jA _)) | omega | (simp; done) | (simp; omega) | (dsimp only; omega)))); done))
    intro wz hb0' k1'
    (try simp only [List.setIfInBounds_toArray, List.set_cons_zero, List.set_cons_succ] at k1')
    try clear hb3
    try clear hb0
    try clear k1
    have hb0 := hb0'; clear hb0'
    have k1 := k1'; clear k1'
    have hr := k1.cell
    exact bodyPost_ret (v := .tuple #[vMs ⟨a0, a1, a2, a3, a4, a5, a6⟩, .int .i64 0]) (by simp [results, Tryd.results25, go_sem, hr]) rfl ⟨by rw [hs.out] <;> rfl, hb0⟩
  · have hE' : (E != 0) = true := by simp [hE0]
    have hs := Lib.hid (hb2.out hE0)
    replace hE0 := Lib.hid hE0
    clear hb2 hb3'
    go_wp2
    first
    | apply absPB1 (w0 := w) (g0 := w.heap.size + 1)
    | apply absPMB1 (w0 := w) (g0 := w.heap.size + 1)
    iterate 2 (focus ((with_reducible (repeat' (first | assumption | apply jA | apply jB | apply jC | apply jD | apply jE | apply jF | apply hb3 | apply jG | apply jH | apply jI | apply jJ | apply jK | apply hb3x | (apply jL; first | (simp; done) | rfl) | apply jM | apply jN | apply jO | apply jP | apply jQ | apply jR | apply jS | apply jT (hb := hb3 _ (jA _)) | omega | (simp; done) | (simp; omega) | (dsimp only; omega)))); done))
    intro wz hb0' k1'
    (try simp only [List.setIfInBounds_toArray, List.set_cons_zero, List.set_cons_succ] at k1')
    try clear hb3
    try clear hb0
    try clear k1
    have hb0 := hb0'; clear hb0'
    have k1 := k1'; clear k1'
    have hr := k1.cell
    exact bodyPost_ret (v := .tuple #[vMs ms0, .int .i64 E]) (by simp [results, Tryd.results25, go_sem, hr, ms0]) rfl ⟨by rw [hs.out] <;> rfl, hb0⟩
end Go.Proofs.YtdlmkblmljhbfaaDoor
namespace Go.Proofs.YtdlmkblmljhbfaaDoor
set_option linter.unusedSimpArgs false
set_option linter.unusedVariables false
open Go.RowKit
set_option maxRecDepth 20000
/-- The blocks of two slices of the call's own are not one. -/
def Dis (u v : Value) : Prop := ∀ k, u.ownBlock = some k → v.ownBlock ≠ some k
theorem Dis.symm {u v : Value} (h : Dis u v) : Dis v u := fun k hk hu => h k hu hk
theorem dis_nil (v : Value) : Dis (.slice none 0 0) v := fun k hk => by simp [Value.ownBlock] at hk
section
variable {P : Program} {w : World}
theorem run_append_own2 (base : Nat) (t ty e : TypeId) (i : TypeInfo) (z : Value) (size bytes : Nat) (ht : P.underlying t = some (.slice e)) (hi : P.info? e = some i) (hz : i.zero = some z)
    (hsize : i.size = size) (hby : i.bytes = bytes) (hzs : z.cells.size = size) (hsz : 0 < size)
    (v : Value) (n : Nat) (xs : List Value) (hown : w.ownsRow base e size v n xs)
    (a : Addr) (m c : Nat) (news : List Value) (hl : news.length = m * size) (hnews : ∀ j u, news[j]? = some u → w.cell? (a.add j) = some u) (h1 : ∀ u ∈ news, u.oneCell' = true)
    (h63 : n + m ≤ maxLen) (hbytes : (n + m) * bytes ≤ 140737488355328) (hbase : base ≤ w.heap.size) :
    ∃ v' w', (Builtin.append_ #[t, t] ty #[v, .slice (some a) m c]).run P w = .ok v' w' ∧ w'.ownsRow base e size v' (n + m) (xs ++ news) ∧ w.grownBy w' v.ownBlock ∧
      ∀ k, v'.ownBlock = some k → v.ownBlock = some k ∨ w.heap.size ≤ k := by
  obtain ⟨v', w', hr, h2, h3, h4⟩ := run_append_own (P := P) w base t ty e i z size bytes ht hi hz hsize hby hzs hsz v n xs hown a m c news hl hnews h1 h63 hbytes hbase
  refine ⟨v', w', hr, h2, h3, ?_⟩
  rcases hown.2 with ⟨rfl, rfl⟩ | ⟨g, cap, cur, rfl, hbg, hg, hnc, hcm, hcs, htake⟩
  · have hx : xs = [] := List.eq_nil_of_length_eq_zero (by simpa using hown.1)
    subst hx
    obtain ⟨v2, w2, hr2, h5, -, -⟩ := run_append_own (P := P) w w.heap.size t ty e i z size bytes ht hi hz hsize hby hzs hsz _ 0 [] (World.ownsRow_nil _ _ _ _) a m c news hl hnews h1 h63 hbytes (Nat.le_refl _)
    rw [hr] at hr2
    injection hr2 with e1 e2
    subst e1 e2
    exact fun k hk => .inr (own_ge h5 k hk)
  · subst hsize
    by_cases hroom : n + m ≤ cap
    · have hfit : n * i.size + news.length ≤ cur.size := by rw [hl, hcs, ← Nat.add_mul]; exact Nat.mul_le_mul_right _ hroom
      have hr2 := run_append_room (P := P) w t ty e i ht hi g n cap cur hg a m c news hl hnews h1 hroom hfit
      rw [hr] at hr2
      injection hr2 with e1 e2
      subst e1
      exact fun k hk => .inl (by simpa [Value.ownBlock] using hk)
    · have holds : ∀ j u, xs[j]? = some u → w.cell? ((⟨g, 0, none⟩ : Addr).add j) = some u := hown.cells (g := g) rfl
      have hsmall : n + m ≤ 9223372036854775807 := by simp only [maxLen] at h63; omega
      subst hby
      have hr2 := run_append_grow (P := P) w t ty e i z ht hi hz ⟨g, 0, none⟩ n cap xs hown.1 holds a m c news hl hnews (by omega) (by omega) (growslice_fits (by omega) hbytes)
      rw [hr] at hr2
      injection hr2 with e1 e2
      subst e1
      exact fun k hk => .inr (by simp [Value.ownBlock] at hk; omega)
theorem wpList_append_own2 {ops : Array Oper} {rest : List Oper} {o : Oper} {a : Act} {Q : Exit → Act → World → Prop} (hgd : o.guard = none) (s x : Operand) (t : TypeId)
    (ho : o.op = .call { callee := .builtin .append, args := #[s, x], argTypes := #[t, t] })
    (base : Nat) (e : TypeId) (i : TypeInfo) (z : Value) (size bytes : Nat) (ht : P.underlying t = some (.slice e)) (hi : P.info? e = some i) (hz : i.zero = some z)
    (hsize : i.size = size) (hby : i.bytes = bytes) (hzs : z.cells.size = size) (hsz : 0 < size)
    (v : Value) (n : Nat) (xs : List Value) (hs : a.eval s = v) (hown : w.ownsRow base e size v n xs)
    (ad : Addr) (m c : Nat) (news : List Value) (hx : a.eval x = .slice (some ad) m c) (hl : news.length = m * size) (hnews : ∀ j u, news[j]? = some u → w.cell? (ad.add j) = some u) (h1 : ∀ u ∈ news, u.oneCell' = true)
    (h63 : n + m ≤ maxLen) (hbytes : (n + m) * bytes ≤ 140737488355328) (hbase : base ≤ w.heap.size)
    (h : ∀ v' w', w'.ownsRow base e size v' (n + m) (xs ++ news) → w.grownBy w' v.ownBlock → (∀ k, v'.ownBlock = some k → v.ownBlock = some k ∨ w.heap.size ≤ k) → wpList P ops Q rest (a.put o.dst v') w') : wpList P ops Q (o :: rest) a w := by
  refine wpList_plain hgd fun _ hK => ?_
  obtain ⟨v', w', hr, h2, h3, h4⟩ := run_append_own2 (P := P) base t o.type e i z size bytes ht hi hz hsize hby hzs hsz v n xs hown ad m c news hl hnews h1 h63 hbytes hbase
  unfold Oper.wp execOp
  simp only [ho, resolve, invoke, builtin, Sem.run_bind, Sem.run_pure, Result.andThen_ok, List.map_toArray, List.map_cons, List.map_nil, hs, hx, hr]
  exact hK _ _ (h v' w' h2 h3 h4)
end
/-- Three slices of integers of the call's own, in blocks of their own. -/
structure Row3 (D : Nat) (u v x : Value) (A B C : List Int) (w : World) : Prop where
  a : w.ownsRow D 3 1 u A.length (A.map (.int .i64))
  b : w.ownsRow D 3 1 v B.length (B.map (.int .i64))
  c : w.ownsRow D 3 1 x C.length (C.map (.int .i64))
  ab : Dis u v
  ac : Dis u x
  bc : Dis v x
  ge : D ≤ w.heap.size
theorem kept2 {D n m : Nat} {u v : Value} {xs ys : List Value} {e : TypeId} {size : Nat} {w w' : World} (h : w.ownsRow D e size v m ys) (hg : w.grownBy w' u.ownBlock) (hd : Dis u v) : w'.ownsRow D e size v m ys :=
  h.kept hg (by
    cases hv : v.ownBlock with
    | none => exact .inl rfl
    | some k =>
      refine .inr fun e => ?_
      exact hd k e.symm hv)
theorem dis_new {D n : Nat} {u u' v : Value} {ys : List Value} {e : TypeId} {size : Nat} {w : World} (h : w.ownsRow D e size v n ys) (hd : Dis u v) (hu : ∀ k, u'.ownBlock = some k → u.ownBlock = some k ∨ w.heap.size ≤ k) : Dis u' v := fun k hk hv => by
  rcases hu k hk with h1 | h1
  · exact hd k h1 hv
  · have := (h.lt k hv).2
    omega
theorem Row3.nil {D : Nat} {w : World} (h : D ≤ w.heap.size) : Row3 D (.slice none 0 0) (.slice none 0 0) (.slice none 0 0) [] [] [] w :=
  ⟨World.ownsRow_nil _ _ _ _, World.ownsRow_nil _ _ _ _, World.ownsRow_nil _ _ _ _, dis_nil _, dis_nil _, dis_nil _, h⟩
theorem Row3.below {D : Nat} {u v x : Value} {A B C : List Int} {w w' : World} (h : Row3 D u v x A B C w) (hb : Below w.heap.size w w') : Row3 D u v x A B C w' :=
  ⟨own_below h.a hb, own_below h.b hb, own_below h.c hb, h.ab, h.ac, h.bc, Nat.le_trans h.ge hb.size⟩
theorem Row3.appA {D : Nat} {u u' v x : Value} {A B C : List Int} {y : Int} {w w' : World} (h : Row3 D u v x A B C w) (ho : w'.ownsRow D 3 1 u' (A.length + 1) (A.map (.int .i64) ++ [.int .i64 y])) (hg : w.grownBy w' u.ownBlock)
    (hu : ∀ k, u'.ownBlock = some k → u.ownBlock = some k ∨ w.heap.size ≤ k) : Row3 D u' v x (A ++ [y]) B C w' :=
  ⟨by simpa using ho, kept2 (n := 0) (xs := []) h.b hg h.ab, kept2 (n := 0) (xs := []) h.c hg h.ac, dis_new h.b h.ab hu, dis_new h.c h.ac hu, h.bc, Nat.le_trans h.ge hg.size⟩
theorem Row3.rot {D : Nat} {u v x : Value} {A B C : List Int} {w : World} (h : Row3 D u v x A B C w) : Row3 D v x u B C A w := ⟨h.b, h.c, h.a, h.bc, h.ab.symm, h.ac.symm, h.ge⟩
end Go.Proofs.YtdlmkblmljhbfaaDoor
namespace Go.Proofs.YtdlmkblmljhbfaaDoor
set_option linter.unusedSimpArgs false
set_option linter.unusedVariables false
open Go.RowKit Go.Shelf
attribute [local go_sem] bl_al bl_drew bl_drewN bl_refl bx_al bx_drew bx_drewN bx_refl
set_option maxRecDepth 20000
theorem r_IsByte (n : Int) (w : World) : Calls Tryd.prog 84 #[.int .i64 n] w (Same (.bool (byteB n)) w) := by
  go_enter Tryd.func84, Tryd.ntmps84
  go_wp2_with (go_at_call 21; (with_reducible refine (r_Within _ _ _ _).mono ?_); rintro e w3 ⟨rfl, rfl⟩)
  go_ret
  exact ⟨rfl, rfl⟩
theorem bytesE_cons (x : Int) (l : List Int) : bytesE (x :: l) = if byteB x then bytesE l else 2 := by
  have h : ∀ (l : List Int) (k j : Nat), (eachS (fun _ n => unl (byteB n) 2) l k).2 = (eachS (fun _ n => unl (byteB n) 2) l j).2 := by
    intro l
    induction l with
    | nil => intro k j; rfl
    | cons y l ih =>
      intro k j
      unfold eachS
      cases byteB y <;> simp [unl]
      exact ih _ _
  unfold bytesE
  rw [eachS]
  cases byteB x <;> simp [unl]
  exact h l _ _
theorem bytesE_nil : bytesE [] = 0 := rfl
/-- The error of a message, test by test. -/
theorem msE_eq (m : Ms) : msE m = if inR m.src 0 15 && inR m.kind 0 3 && byteB m.num then bytesE [m.d0, m.d1, m.d2, m.d3] else 2 := by
  unfold msE fstE unl
  cases inR m.src 0 15 && inR m.kind 0 3 && byteB m.num <;> simp [fstE]
  intro h
  exact h.symm
set_option maxHeartbeats 8000000 in
theorem r_MessageErr (m : Ms) (w : World) : Calls Tryd.prog 26 #[vMs m] w (Ret (.int .i64 (msE m)) w) := by
  have he := msE_eq m
  rw [bytesE_cons, bytesE_cons, bytesE_cons, bytesE_cons, bytesE_nil] at he
  obtain ⟨s, n, kd, a, b, c, d⟩ := m
  dsimp only at he
  obtain ⟨bs, hs⟩ : ∃ b', inR s 0 15 = b' := ⟨_, rfl⟩
  have cs := Lib.hid fun W : World => hs ▸ r_Within s 0 15 W
  rw [hs] at he
  clear hs
  obtain ⟨bk, hk⟩ : ∃ b', inR kd 0 3 = b' := ⟨_, rfl⟩
  have ck := Lib.hid fun W : World => hk ▸ r_Within kd 0 3 W
  rw [hk] at he
  clear hk
  obtain ⟨bn, hn⟩ : ∃ b', byteB n = b' := ⟨_, rfl⟩
  have cn := Lib.hid fun W : World => hn ▸ r_IsByte n W
  rw [hn] at he
  clear hn
  obtain ⟨ba, ha⟩ : ∃ b', byteB a = b' := ⟨_, rfl⟩
  have ca := Lib.hid fun W : World => ha ▸ r_IsByte a W
  rw [ha] at he
  clear ha
  obtain ⟨bb, hb⟩ : ∃ b', byteB b = b' := ⟨_, rfl⟩
  have cb := Lib.hid fun W : World => hb ▸ r_IsByte b W
  rw [hb] at he
  clear hb
  obtain ⟨bc, hc⟩ : ∃ b', byteB c = b' := ⟨_, rfl⟩
  have cc := Lib.hid fun W : World => hc ▸ r_IsByte c W
  rw [hc] at he
  clear hc
  obtain ⟨bd, hd⟩ : ∃ b', byteB d = b' := ⟨_, rfl⟩
  have cd := Lib.hid fun W : World => hd ▸ r_IsByte d W
  rw [hd] at he
  clear hd
  go_enter Tryd.func26, Tryd.ntmps26
  go_upto_region 1 with fail
  first
  | apply absB1 (w0 := w) (g0 := w.heap.size)
  | apply absTB1 (w0 := w) (g0 := w.heap.size)
  | apply absIB1 (w0 := w) (g0 := w.heap.size)
  iterate 2 (focus ((with_reducible (repeat' (first | assumption | apply jA | apply jB | apply jC | apply jD | apply jE | apply jF | apply hb3 | apply jG | apply jH | apply jI | apply jJ | apply jK | apply hb3x | (apply jL; first | (simp; done) | rfl) | apply jM | apply jN | apply jO | apply jP | apply jQ | apply jR | apply jS | apply jT (hb := hb3 _ (jA _)) | omega | (simp; done) | (simp; omega) | (dsimp only; omega)))); done))
  intro wa hb0' k0'
  (try simp only [List.setIfInBounds_toArray, List.set_cons_zero, List.set_cons_succ] at k0')
  try clear hb3
  try clear hb0
  try clear k0
  have hb0 := hb0'; clear hb0'
  have k0 := k0'; clear k0'
  have L0 := k0.cell
  cases bs
  · go_wp2_with (go_at_call 21; (first | (with_reducible refine (cs.out _).mono ?_) | (with_reducible refine (ck.out _).mono ?_)); rintro e w3 ⟨rfl, rfl⟩)
    go_ret
    exact ⟨by rw [he] <;> rfl, hb0⟩
  cases bk
  · go_wp2_with (go_at_call 21; (first | (with_reducible refine (cs.out _).mono ?_) | (with_reducible refine (ck.out _).mono ?_)); rintro e w3 ⟨rfl, rfl⟩)
    go_ret
    exact ⟨by rw [he] <;> rfl, hb0⟩
  cases bn
  · go_wp2_with (first | (go_at_call 21; (first | (with_reducible refine (cs.out _).mono ?_) | (with_reducible refine (ck.out _).mono ?_)); rintro e w3 ⟨rfl, rfl⟩) | (go_at_call 84; (with_reducible refine (cn.out _).mono ?_); rintro e w3 ⟨rfl, rfl⟩))
    go_ret
    exact ⟨by rw [he] <;> rfl, hb0⟩
  go_upto_region 3 with (first | (go_at_call 21; (first | (with_reducible refine (cs.out _).mono ?_) | (with_reducible refine (ck.out _).mono ?_)); rintro e w3 ⟨rfl, rfl⟩) | (go_at_call 84; (with_reducible refine (cn.out _).mono ?_); rintro e w3 ⟨rfl, rfl⟩))
  clear cs ck cn
  go_wp2
  refine wp_loop_rounds 5 ?_
  rw [rounds_succ]
  cases ba
  · go_wp2_with (go_at_call 84; (first | (with_reducible refine (ca.out _).mono ?_) | (with_reducible refine (cb.out _).mono ?_) | (with_reducible refine (cc.out _).mono ?_) | (with_reducible refine (cd.out _).mono ?_)); rintro e w3 ⟨rfl, rfl⟩)
    go_ret
    exact ⟨by rw [he] <;> rfl, hb0⟩
  go_wp2_with (go_at_call 84; (first | (with_reducible refine (ca.out _).mono ?_) | (with_reducible refine (cb.out _).mono ?_) | (with_reducible refine (cc.out _).mono ?_) | (with_reducible refine (cd.out _).mono ?_)); rintro e w3 ⟨rfl, rfl⟩)
  rw [rounds_succ]
  cases bb
  · go_wp2_with (go_at_call 84; (first | (with_reducible refine (ca.out _).mono ?_) | (with_reducible refine (cb.out _).mono ?_) | (with_reducible refine (cc.out _).mono ?_) | (with_reducible refine (cd.out _).mono ?_)); rintro e w3 ⟨rfl, rfl⟩)
    go_ret
    exact ⟨by rw [he] <;> rfl, hb0⟩
  go_wp2_with (go_at_call 84; (first | (with_reducible refine (ca.out _).mono ?_) | (with_reducible refine (cb.out _).mono ?_) | (with_reducible refine (cc.out _).mono ?_) | (with_reducible refine (cd.out _).mono ?_)); rintro e w3 ⟨rfl, rfl⟩)
  rw [rounds_succ]
  cases bc
  · go_wp2_with (go_at_call 84; (first | (with_reducible refine (ca.out _).mono ?_) | (with_reducible refine (cb.out _).mono ?_) | (with_reducible refine (cc.out _).mono ?_) | (with_reducible refine (cd.out _).mono ?_)); rintro e w3 ⟨rfl, rfl⟩)
    go_ret
    exact ⟨by rw [he] <;> rfl, hb0⟩
  go_wp2_with (go_at_call 84; (first | (with_reducible refine (ca.out _).mono ?_) | (with_reducible refine (cb.out _).mono ?_) | (with_reducible refine (cc.out _).mono ?_) | (with_reducible refine (cd.out _).mono ?_)); rintro e w3 ⟨rfl, rfl⟩)
  rw [rounds_succ]
  cases bd
  · go_wp2_with (go_at_call 84; (first | (with_reducible refine (ca.out _).mono ?_) | (with_reducible refine (cb.out _).mono ?_) | (with_reducible refine (cc.out _).mono ?_) | (with_reducible refine (cd.out _).mono ?_)); rintro e w3 ⟨rfl, rfl⟩)
    go_ret
    exact ⟨by rw [he] <;> rfl, hb0⟩
  go_wp2_with (go_at_call 84; (first | (with_reducible refine (ca.out _).mono ?_) | (with_reducible refine (cb.out _).mono ?_) | (with_reducible refine (cc.out _).mono ?_) | (with_reducible refine (cd.out _).mono ?_)); rintro e w3 ⟨rfl, rfl⟩)
  rw [rounds_succ]
  go_wp2
  go_ret
  exact ⟨by rw [he] <;> rfl, hb0⟩
theorem bytesE_drop {l : List Int} {k : Nat} {x : Int} (hx : l[k]? = some x) : bytesE (l.drop k) = if byteB x then bytesE (l.drop (k + 1)) else 2 := by
  have hk := (List.getElem?_eq_some_iff.1 hx).1
  rw [List.drop_eq_getElem_cons hk, (List.getElem?_eq_some_iff.1 hx).2, bytesE_cons]
set_option maxHeartbeats 4000000 in
theorem r_BytesErr (l : List Int) (A : Option Addr) (c : Nat) (w : World) (hl : l.length ≤ 1000) (hr : Sl cI 1 w A l) : Calls Tryd.prog 29 #[.slice A l.length c] w (Ret (.int .i64 (remE l)) w) := by
  have Hr := Lib.hid hr
  clear hr
  have h1 : Hid (¬ (l.length : Int) ≤ 60 → remE l = 8) := fun h => by simp [remE, fstE, unl, h]
  have h2 : Hid ((l.length : Int) ≤ 60 → remE l = bytesE l) := fun h => by
    simp [remE, fstE, unl, h]
    intro h0
    exact h0.symm
  have hd := Lib.hid fun k x (hx : l[k]? = some x) => bytesE_drop hx
  have he : Hid (bytesE (l.drop l.length) = 0) := Lib.hid (by rw [List.drop_length]; rfl)
  obtain ⟨n, Hn⟩ : ∃ n, Hid (l.length = n) := ⟨_, rfl⟩
  rw [Hn.out] at hl h1 h2 he ⊢
  by_cases h60 : (n : Int) ≤ 60
  rotate_left
  · rw [h1.out h60]
    have h60' : (60 : Int) < n := by omega
    go_enter Tryd.func29, Tryd.ntmps29
    go_wp2
    go_ret
    exact ⟨rfl, by (with_reducible (repeat' (first | assumption | apply jA | apply jB | apply jC | apply jD | apply jE | apply jF | apply hb3 | omega | (simp; done) | (simp; omega) | (dsimp only; omega))))⟩
  rw [h2.out h60]
  have h60' : ¬ (60 : Int) < n := by omega
  clear h1 h2
  obtain ⟨g, hg⟩ : ∃ g : Nat → Int, ∀ k, bytesE (l.drop k) = g k := ⟨_, fun _ => rfl⟩
  have hg0 : bytesE l = g 0 := hg 0
  rw [hg0]
  simp only [hg] at hd he
  clear hg hg0
  go_enter Tryd.func29, Tryd.ntmps29
  go_wp2
  go_loop [3] (fun i => ∃ k : Nat, k ≤ n ∧ i = .int .i64 k ∧ g 0 = g k) (fun i => n - (intOf i).toNat)
  case atStart => exact ⟨0, Nat.zero_le _, rfl, rfl⟩
  case round =>
    obtain ⟨k, hk, rfl, hi⟩ := hrel
    replace hi := Lib.hid hi
    by_cases hlt : k < n
    · have hx : l[k]? = some (l[k]'(by rw [Hn.out]; exact hlt)) := List.getElem?_eq_getElem _
      generalize l[k]'(by rw [Hn.out]; exact hlt) = x at hx
      have hs := Lib.hid (hd.out k x hx)
      obtain ⟨b, off, rfl, hc⟩ := Hr.out k x hx
      have c0 : w.cell? ⟨b, off + k, none⟩ = some (.int .i64 x) := by simpa using hc 0 _ rfl
      clear hc hx
      cases hT : byteB x
      · rw [hT] at hs
        go_wp2_with (go_at_call 84; (with_reducible refine (hT ▸ r_IsByte x _).mono ?_); rintro e w3 ⟨rfl, rfl⟩)
        go_ret
        exact ⟨by rw [hi.out, hs.out] <;> rfl, by (with_reducible (repeat' (first | assumption | apply jA | apply jB | apply jC | apply jD | apply jE | apply jF | apply hb3 | omega | (simp; done) | (simp; omega) | (dsimp only; omega))))⟩
      · rw [hT] at hs
        go_wp2_with (go_at_call 84; (with_reducible refine (hT ▸ r_IsByte x _).mono ?_); rintro e w3 ⟨rfl, rfl⟩)
        go_round
        case rel => exact ⟨k + 1, by omega, by go_num, by rw [hi.out, hs.out] <;> rfl⟩
        case measure => simp [intOf]; omega
    · have e : k = n := by omega
      go_wp2
      go_ret
      exact ⟨by rw [hi.out, e, he.out] <;> rfl, by (with_reducible (repeat' (first | assumption | apply jA | apply jB | apply jC | apply jD | apply jE | apply jF | apply hb3 | omega | (simp; done) | (simp; omega) | (dsimp only; omega))))⟩
theorem crc_hi2 {s : Nat} (hs : s < 256) (h : 256 ≤ 2 * s) : bits .xor .i64 (2 * (s : Int)) 263 = ((crc1 s : Nat) : Int) := by
  rw [Int.mul_comm]
  exact crc_hi hs h
theorem crc_lo2 {s : Nat} (h : ¬ 256 ≤ 2 * s) : 2 * (s : Int) = ((crc1 s : Nat) : Int) := by
  rw [Int.mul_comm]
  exact crc_lo h
set_option maxHeartbeats 2000000 in
theorem r_Remainder (l : List Int) (A : Option Addr) (c : Nat) (w : World) (hl : l.length ≤ 1000000) (hb : ∀ n ∈ l, 0 ≤ n ∧ n ≤ 255) (hr : Sl cI 1 w A l) : Calls Tryd.prog 30 #[.slice A l.length c] w (Same (.int .i64 (remI l : Nat)) w) := by
  have Hr := Lib.hid hr
  clear hr
  have hlast : Hid (remN ((l.map Int.toNat).take l.length) 0 = remI l) := by rw [List.take_of_length_le (by simp)]; exact Lib.hid rfl
  have hstep : Hid (∀ k x, l[k]? = some x → remN ((l.map Int.toNat).take (k + 1)) 0 = crcK 8 (remN ((l.map Int.toNat).take k) 0 ^^^ x.toNat)) := fun k x hx => by
    rw [List.take_add_one, List.getElem?_map, hx]
    exact remN_snoc _ _ _
  have hlt : Hid (∀ k, remN ((l.map Int.toNat).take k) 0 < 256) := fun k => remN_lt _ (by decide) fun n hn => by
    obtain ⟨m, hm, rfl⟩ := List.mem_map.1 (List.mem_of_mem_take hn)
    have := hb m hm
    omega
  have hbd := Lib.hid fun k x (hx : l[k]? = some x) => hb x (List.mem_of_getElem? hx)
  have h0 : Hid (remN ((l.map Int.toNat).take 0) 0 = 0) := rfl
  generalize (fun k => remN ((l.map Int.toNat).take k) 0) = R at *
  obtain ⟨R, hR⟩ : ∃ R : Nat → Nat, ∀ k, remN ((l.map Int.toNat).take k) 0 = R k := ⟨_, fun _ => rfl⟩
  simp only [hR] at hlast hstep hlt h0
  clear hR hb
  obtain ⟨n, Hn⟩ : ∃ n, Hid (l.length = n) := ⟨_, rfl⟩
  rw [Hn.out] at hl hlast ⊢
  go_enter Tryd.func30, Tryd.ntmps30
  go_wp2
  go_loop [3, 4] (fun r i => ∃ k : Nat, k ≤ n ∧ i = .int .i64 k ∧ r = .int .i64 (R k : Nat)) (fun _ i => n - (intOf i).toNat)
  case atStart => exact ⟨0, Nat.zero_le _, rfl, by rw [h0.out]; rfl⟩
  case round =>
    obtain ⟨k, hk, rfl, rfl⟩ := hrel
    by_cases hltn : k < n
    · have hx : l[k]? = some (l[k]'(by rw [Hn.out]; exact hltn)) := List.getElem?_eq_getElem _
      generalize l[k]'(by rw [Hn.out]; exact hltn) = x at hx
      obtain ⟨b, off, rfl, hc⟩ := Hr.out k x hx
      have c0 : w.cell? ⟨b, off + k, none⟩ = some (.int .i64 x) := by simpa using hc 0 _ rfl
      clear hc
      have hbx := hbd.out k x hx
      obtain ⟨m, rfl⟩ : ∃ m : Nat, x = m := ⟨x.toNat, by omega⟩
      have hRk := hlt.out k
      have hxor := i64_xor (R k) m (by omega) (by omega)
      have hs := hstep.out k m hx
      have hb8 := xor_byte hRk (show m < 256 by omega)
      rw [Int.toNat_natCast] at hs
      replace hs := Lib.hid hs
      generalize hy : R k ^^^ m = y at *
      replace hxor := Lib.hid hxor
      clear hy hx
      go_wp2_with (simp only [hxor.out])
      go_loop [3, 5] (fun r i => ∃ j : Nat, j ≤ 8 ∧ i = .int .i64 j ∧ r = .int .i64 (crcK j y : Nat)) (fun _ i => 8 - (intOf i).toNat)
      case atStart => exact ⟨0, by omega, rfl, rfl⟩
      case round =>
        obtain ⟨j, hj, rfl, rfl⟩ := hrel
        by_cases hj8 : j < 8
        · have hs1 := crcK_lt j hb8
          have hsc := Lib.hid (crcK_succ j y)
          generalize hg : crcK j y = s at *
          replace hg := Lib.hid hg
          by_cases h2 : 256 ≤ 2 * s
          · have e := Lib.hid (crc_hi2 hs1 h2)
            go_wp2_with (simp only [e.out])
            go_round
            case rel => exact ⟨j + 1, by omega, by go_num, by rw [hsc.out]⟩
            case measure => simp [intOf]; omega
          · have e := Lib.hid (crc_lo2 h2)
            go_wp2
            go_round
            case rel => exact ⟨j + 1, by omega, by go_num, by rw [hsc.out, ← e.out]⟩
            case measure => simp [intOf]; omega
        · have : j = 8 := by omega
          subst this
          go_wp2
          go_round
          case rel => exact ⟨k + 1, by omega, by go_num, by rw [hs.out]⟩
          case measure => simp [intOf]; omega
    · go_wp2
      go_ret
      have : k = n := by omega
      exact ⟨by rw [this, hlast.out] <;> rfl, rfl⟩
end Go.Proofs.YtdlmkblmljhbfaaDoor
namespace Go.Proofs.YtdlmkblmljhbfaaDoor
set_option linter.unusedSimpArgs false
set_option linter.unusedVariables false
open Go.RowKit Go.Shelf
attribute [local go_sem] bl_al bl_drew bl_drewN bl_refl bx_al bx_drew bx_drewN bx_refl
set_option maxRecDepth 20000
set_option maxHeartbeats 8000000 in
theorem r_Frame (m : Ms) (w : World) (hm : msE m = 0) : Calls Tryd.prog 27 #[vMs m] w (Ret (vFr (frameOf m)) w) := by
  have hb := Lib.hid (ms_ok hm)
  have hfr : Hid (frameOf m = ⟨m.src, m.num, m.kind, m.d0, m.d1, m.d2, m.d3, remI [m.src, m.num, m.kind, m.d0, m.d1, m.d2, m.d3]⟩) := rfl
  clear hm
  obtain ⟨s, n, kd, a, b, c, d⟩ := m
  dsimp only at hb hfr
  go_enter Tryd.func27, Tryd.ntmps27
  go_upto_region 1 with fail
  first
  | apply absB2 (w0 := w) (g0 := w.heap.size) (g1 := w.heap.size + 1)
  | apply absTB2 (w0 := w) (g0 := w.heap.size) (g1 := w.heap.size + 1)
  | apply absIB2 (w0 := w) (g0 := w.heap.size) (g1 := w.heap.size + 1)
  iterate 3 (focus ((with_reducible (repeat' (first | assumption | apply jA | apply jB | apply jC | apply jD | apply jE | apply jF | apply hb3 | apply jG | apply jH | apply jI | apply jJ | apply jK | apply hb3x | (apply jL; first | (simp; done) | rfl) | apply jM | apply jN | apply jO | apply jP | apply jQ | apply jR | apply jS | apply jT (hb := hb3 _ (jA _)) | omega | (simp; done) | (simp; omega) | (dsimp only; omega)))); done))
  intro wa hb0' k0' k1'
  (try simp only [List.setIfInBounds_toArray, List.set_cons_zero, List.set_cons_succ] at k0' k1')
  try clear hb3
  try clear hb0
  try clear k0
  try clear k1
  have hb0 := hb0'; clear hb0'
  have k0 := k0'; clear k0'
  have k1 := k1'; clear k1'
  have L0 := k0.cell
  have hq1 := k1.lt
  go_upto_region 2 with fail
  first
  | apply absB3 (w0 := w) (g0 := w.heap.size) (g1 := w.heap.size + 1) (g2 := wa.heap.size)
  | apply absTB3 (w0 := w) (g0 := w.heap.size) (g1 := w.heap.size + 1) (g2 := wa.heap.size)
  | apply absIB3 (w0 := w) (g0 := w.heap.size) (g1 := w.heap.size + 1) (g2 := wa.heap.size)
  iterate 4 (focus ((with_reducible (repeat' (first | assumption | apply jA | apply jB | apply jC | apply jD | apply jE | apply jF | apply hb3 | apply jG | apply jH | apply jI | apply jJ | apply jK | apply hb3x | (apply jL; first | (simp; done) | rfl) | apply jM | apply jN | apply jO | apply jP | apply jQ | apply jR | apply jS | apply jT (hb := hb3 _ (jA _)) | omega | (simp; done) | (simp; omega) | (dsimp only; omega)))); done))
  intro wb hb0' k0' k1' k2'
  (try simp only [List.setIfInBounds_toArray, List.set_cons_zero, List.set_cons_succ] at k0' k1' k2')
  try clear hb3
  try clear hb0
  try clear k0
  try clear k1
  try clear k2
  have hb0 := hb0'; clear hb0'
  have k0 := k0'; clear k0'
  have k1 := k1'; clear k1'
  have k2 := k2'; clear k2'
  clear L0
  go_wp2
  refine wp_loop_rounds 5 ?_
  rw [rounds_succ]
  have L0 := k0.cell
  have F2 := k2.frozen
  have L2 := k2.cell
  go_wp2
  first
  | apply absRB3 (w0 := w) (g0 := w.heap.size) (g1 := w.heap.size + 1) (g2 := wa.heap.size)
  | apply absJB3 (w0 := w) (g0 := w.heap.size) (g1 := w.heap.size + 1) (g2 := wa.heap.size)
  iterate 4 (focus ((with_reducible (repeat' (first | assumption | apply jA | apply jB | apply jC | apply jD | apply jE | apply jF | apply hb3 | apply jG | apply jH | apply jI | apply jJ | apply jK | apply hb3x | (apply jL; first | (simp; done) | rfl) | apply jM | apply jN | apply jO | apply jP | apply jQ | apply jR | apply jS | apply jT (hb := hb3 _ (jA _)) | omega | (simp; done) | (simp; omega) | (dsimp only; omega)))); done))
  intro wc hb0' k0' k1' k2'
  (try simp only [List.setIfInBounds_toArray, List.set_cons_zero, List.set_cons_succ] at k0' k1' k2')
  try clear hb3
  try clear hb0
  try clear k0
  try clear k1
  try clear k2
  have hb0 := hb0'; clear hb0'
  have k0 := k0'; clear k0'
  have k1 := k1'; clear k1'
  have k2 := k2'; clear k2'
  rw [rounds_succ]
  clear L0 F2 L2
  have L0 := k0.cell
  have F2 := k2.frozen
  have L2 := k2.cell
  go_wp2
  first
  | apply absRB3 (w0 := w) (g0 := w.heap.size) (g1 := w.heap.size + 1) (g2 := wa.heap.size)
  | apply absJB3 (w0 := w) (g0 := w.heap.size) (g1 := w.heap.size + 1) (g2 := wa.heap.size)
  iterate 4 (focus ((with_reducible (repeat' (first | assumption | apply jA | apply jB | apply jC | apply jD | apply jE | apply jF | apply hb3 | apply jG | apply jH | apply jI | apply jJ | apply jK | apply hb3x | (apply jL; first | (simp; done) | rfl) | apply jM | apply jN | apply jO | apply jP | apply jQ | apply jR | apply jS | apply jT (hb := hb3 _ (jA _)) | omega | (simp; done) | (simp; omega) | (dsimp only; omega)))); done))
  intro wd hb0' k0' k1' k2'
  (try simp only [List.setIfInBounds_toArray, List.set_cons_zero, List.set_cons_succ] at k0' k1' k2')
  try clear hb3
  try clear hb0
  try clear k0
  try clear k1
  try clear k2
  have hb0 := hb0'; clear hb0'
  have k0 := k0'; clear k0'
  have k1 := k1'; clear k1'
  have k2 := k2'; clear k2'
  rw [rounds_succ]
  clear L0 F2 L2
  have L0 := k0.cell
  have F2 := k2.frozen
  have L2 := k2.cell
  go_wp2
  first
  | apply absRB3 (w0 := w) (g0 := w.heap.size) (g1 := w.heap.size + 1) (g2 := wa.heap.size)
  | apply absJB3 (w0 := w) (g0 := w.heap.size) (g1 := w.heap.size + 1) (g2 := wa.heap.size)
  iterate 4 (focus ((with_reducible (repeat' (first | assumption | apply jA | apply jB | apply jC | apply jD | apply jE | apply jF | apply hb3 | apply jG | apply jH | apply jI | apply jJ | apply jK | apply hb3x | (apply jL; first | (simp; done) | rfl) | apply jM | apply jN | apply jO | apply jP | apply jQ | apply jR | apply jS | apply jT (hb := hb3 _ (jA _)) | omega | (simp; done) | (simp; omega) | (dsimp only; omega)))); done))
  intro we hb0' k0' k1' k2'
  (try simp only [List.setIfInBounds_toArray, List.set_cons_zero, List.set_cons_succ] at k0' k1' k2')
  try clear hb3
  try clear hb0
  try clear k0
  try clear k1
  try clear k2
  have hb0 := hb0'; clear hb0'
  have k0 := k0'; clear k0'
  have k1 := k1'; clear k1'
  have k2 := k2'; clear k2'
  rw [rounds_succ]
  clear L0 F2 L2
  have L0 := k0.cell
  have F2 := k2.frozen
  have L2 := k2.cell
  go_wp2
  first
  | apply absRB3 (w0 := w) (g0 := w.heap.size) (g1 := w.heap.size + 1) (g2 := wa.heap.size)
  | apply absJB3 (w0 := w) (g0 := w.heap.size) (g1 := w.heap.size + 1) (g2 := wa.heap.size)
  iterate 4 (focus ((with_reducible (repeat' (first | assumption | apply jA | apply jB | apply jC | apply jD | apply jE | apply jF | apply hb3 | apply jG | apply jH | apply jI | apply jJ | apply jK | apply hb3x | (apply jL; first | (simp; done) | rfl) | apply jM | apply jN | apply jO | apply jP | apply jQ | apply jR | apply jS | apply jT (hb := hb3 _ (jA _)) | omega | (simp; done) | (simp; omega) | (dsimp only; omega)))); done))
  intro wf hb0' k0' k1' k2'
  (try simp only [List.setIfInBounds_toArray, List.set_cons_zero, List.set_cons_succ] at k0' k1' k2')
  try clear hb3
  try clear hb0
  try clear k0
  try clear k1
  try clear k2
  have hb0 := hb0'; clear hb0'
  have k0 := k0'; clear k0'
  have k1 := k1'; clear k1'
  have k2 := k2'; clear k2'
  rw [rounds_succ]
  clear L0 F2 L2
  have hq2 := hb0.size
  have F2 := k2.frozen
  have L2 := k2.cell
  have hrm : Hid (Calls Tryd.prog 30 #[.slice (some ⟨wa.heap.size, 0, none⟩) 7 8] wf (Same (.int .i64 (remI [s, n, kd, a, b, c, d] : Nat)) wf)) :=
    r_Remainder [s, n, kd, a, b, c, d] (some ⟨wa.heap.size, 0, none⟩) 8 wf (by simp) hb.out (k2.sub (l := [s, n, kd, a, b, c, d]) (fun k x hx => by match k, hx with | 0, hx | 1, hx | 2, hx | 3, hx | 4, hx | 5, hx | 6, hx => simpa using hx))
  go_upto_region 7 with (go_at_call 30; (with_reducible refine hrm.out.mono ?_); rintro e w4 ⟨rfl, rfl⟩)
  first
  | apply absB3 (w0 := w) (g0 := w.heap.size) (g1 := w.heap.size + 1) (g2 := wa.heap.size)
  | apply absTB3 (w0 := w) (g0 := w.heap.size) (g1 := w.heap.size + 1) (g2 := wa.heap.size)
  | apply absIB3 (w0 := w) (g0 := w.heap.size) (g1 := w.heap.size + 1) (g2 := wa.heap.size)
  iterate 4 (focus ((with_reducible (repeat' (first | assumption | apply jA | apply jB | apply jC | apply jD | apply jE | apply jF | apply hb3 | apply jG | apply jH | apply jI | apply jJ | apply jK | apply hb3x | (apply jL; first | (simp; done) | rfl) | apply jM | apply jN | apply jO | apply jP | apply jQ | apply jR | apply jS | apply jT (hb := hb3 _ (jA _)) | omega | (simp; done) | (simp; omega) | (dsimp only; omega)))); done))
  intro wg hb0' k0' k1' k2'
  (try simp only [List.setIfInBounds_toArray, List.set_cons_zero, List.set_cons_succ] at k0' k1' k2')
  try clear hb3
  try clear hb0
  try clear k0
  try clear k1
  try clear k2
  have hb0 := hb0'; clear hb0'
  have k0 := k0'; clear k0'
  have k1 := k1'; clear k1'
  have k2 := k2'; clear k2'
  clear F2 L2
  have L2 := k2.cell
  have L1 := k1.cell
  have F1 := k1.frozen
  go_wp2
  first
  | apply absPB3 (w0 := w) (g0 := w.heap.size) (g1 := w.heap.size + 1) (g2 := wa.heap.size)
  | apply absPMB3 (w0 := w) (g0 := w.heap.size) (g1 := w.heap.size + 1) (g2 := wa.heap.size)
  iterate 4 (focus ((with_reducible (repeat' (first | assumption | apply jA | apply jB | apply jC | apply jD | apply jE | apply jF | apply hb3 | apply jG | apply jH | apply jI | apply jJ | apply jK | apply hb3x | (apply jL; first | (simp; done) | rfl) | apply jM | apply jN | apply jO | apply jP | apply jQ | apply jR | apply jS | apply jT (hb := hb3 _ (jA _)) | omega | (simp; done) | (simp; omega) | (dsimp only; omega)))); done))
  intro wz hb0' k0' k1' k2'
  (try simp only [List.setIfInBounds_toArray, List.set_cons_zero, List.set_cons_succ] at k0' k1' k2')
  try clear hb3
  try clear hb0
  try clear k0
  try clear k1
  try clear k2
  have hb0 := hb0'; clear hb0'
  have k0 := k0'; clear k0'
  have k1 := k1'; clear k1'
  have k2 := k2'; clear k2'
  have hr := k1.cell
  exact bodyPost_ret (v := vFr ⟨s, n, kd, a, b, c, d, remI [s, n, kd, a, b, c, d]⟩) (by simp [results, Tryd.results27, go_sem, hr]) rfl ⟨by rw [hfr.out] <;> rfl, hb0⟩
set_option maxHeartbeats 8000000 in
theorem r_Message (f : Fr) (w : World) : Calls Tryd.prog 28 #[vFr f] w (Ret (.tuple #[vMs (decS f).1, .int .i64 (decS f).2]) w) := by
  have hb1 := Lib.hid fun h => decS_bytes (f := f) h
  have hb2 := Lib.hid fun h h2 => decS_bad (f := f) h h2
  have hb3' := Lib.hid fun h h2 => decS_ok (f := f) h h2
  have hhd := Lib.hid fun h => head_bd (f := f) h
  have hd := Lib.hid fun k x (hx : f.l[k]? = some x) => bytesE_drop hx
  have he : Hid (bytesE (f.l.drop 8) = 0) := Lib.hid rfl
  obtain ⟨a0, a1, a2, a3, a4, a5, a6, a7⟩ := f
  dsimp only [Fr.l, Fr.head, Fr.ms] at hb1 hb2 hb3' hhd hd he
  obtain ⟨l, Hl⟩ : ∃ l, Hid ([a0, a1, a2, a3, a4, a5, a6, a7] = l) := ⟨_, rfl⟩
  rw [Hl.out] at hb1 hb2 hb3' hhd hd he
  obtain ⟨g, hg⟩ : ∃ g : Nat → Int, ∀ k, bytesE (l.drop k) = g k := ⟨_, fun _ => rfl⟩
  have hg0 : bytesE l = g 0 := hg 0
  rw [hg0] at hb1 hb2 hb3' hhd
  simp only [hg] at hd he
  clear hg hg0
  go_enter Tryd.func28, Tryd.ntmps28
  go_upto_region 2 with fail
  first
  | apply absB2 (w0 := w) (g0 := w.heap.size) (g1 := w.heap.size + 1)
  | apply absTB2 (w0 := w) (g0 := w.heap.size) (g1 := w.heap.size + 1)
  | apply absIB2 (w0 := w) (g0 := w.heap.size) (g1 := w.heap.size + 1)
  iterate 3 (focus ((with_reducible (repeat' (first | assumption | apply jA | apply jB | apply jC | apply jD | apply jE | apply jF | apply hb3 | apply jG | apply jH | apply jI | apply jJ | apply jK | apply hb3x | (apply jL; first | (simp; done) | rfl) | apply jM | apply jN | apply jO | apply jP | apply jQ | apply jR | apply jS | apply jT (hb := hb3 _ (jA _)) | omega | (simp; done) | (simp; omega) | (dsimp only; omega)))); done))
  intro wa hb0' k0' k1'
  (try simp only [List.setIfInBounds_toArray, List.set_cons_zero, List.set_cons_succ] at k0' k1')
  try clear hb3
  try clear hb0
  try clear k0
  try clear k1
  have hb0 := hb0'; clear hb0'
  have k0 := k0'; clear k0'
  have k1 := k1'; clear k1'
  have hlen : Hid (l.length = 8) := Lib.hid (by rw [← Hl.out]; rfl)
  have hS : Hid (Sl cI 1 wa (some ⟨w.heap.size, 0, none⟩) l) := Lib.hid (by
    rw [← Hl.out]
    exact k0.sub (l := [a0, a1, a2, a3, a4, a5, a6, a7]) (fun k x hx => by match k, hx with | 0, hx | 1, hx | 2, hx | 3, hx | 4, hx | 5, hx | 6, hx | 7, hx => simpa using hx))
  go_loop [4] (fun i => ∃ k : Nat, k ≤ 8 ∧ i = .int .i64 k ∧ g 0 = g k) (fun i => 8 - (intOf i).toNat)
  case atStart => exact ⟨0, Nat.zero_le _, rfl, rfl⟩
  case round =>
    obtain ⟨k, hk, rfl, hi⟩ := hrel
    replace hi := Lib.hid hi
    by_cases hlt : k < 8
    · have hx : l[k]? = some (l[k]'(by rw [hlen.out]; exact hlt)) := List.getElem?_eq_getElem _
      generalize l[k]'(by rw [hlen.out]; exact hlt) = x at hx
      have hs := Lib.hid (hd.out k x hx)
      have c0 : wa.cell? ⟨w.heap.size, k, none⟩ = some (.int .i64 x) := by
        obtain ⟨b, off, e, hc⟩ := hS.out k x hx
        injection e with e
        injection e with e1 e2 _
        subst e1 e2
        simpa using hc 0 _ rfl
      clear hx
      cases hT : byteB x
      · rw [hT] at hs
        have L1 := k1.cell
        have F1 := k1.frozen
        have hg0 : Hid (g 0 = 2) := Lib.hid (by rw [hi.out, hs.out]; rfl)
        have hres := Lib.hid (hb1.out (by rw [hg0.out]; decide))
        rw [hg0.out] at hres
        clear hb1 hb2 hb3' hhd hs hi
        go_wp2_with (go_at_call 84; (with_reducible refine (hT ▸ r_IsByte x _).mono ?_); rintro e w3 ⟨rfl, rfl⟩)
        first
        | apply absPB2 (w0 := w) (g0 := w.heap.size) (g1 := w.heap.size + 1)
        | apply absPMB2 (w0 := w) (g0 := w.heap.size) (g1 := w.heap.size + 1)
        iterate 3 (focus ((with_reducible (repeat' (first | assumption | apply jA | apply jB | apply jC | apply jD | apply jE | apply jF | apply hb3 | apply jG | apply jH | apply jI | apply jJ | apply jK | apply hb3x | (apply jL; first | (simp; done) | rfl) | apply jM | apply jN | apply jO | apply jP | apply jQ | apply jR | apply jS | apply jT (hb := hb3 _ (jA _)) | omega | (simp; done) | (simp; omega) | (dsimp only; omega)))); done))
        intro wz hb0' k0' k1'
        (try simp only [List.setIfInBounds_toArray, List.set_cons_zero, List.set_cons_succ] at k0' k1')
        try clear hb3
        try clear hb0
        try clear k0
        try clear k1
        have hb0 := hb0'; clear hb0'
        have k0 := k0'; clear k0'
        have k1 := k1'; clear k1'
        have hr := k1.cell
        exact bodyPost_ret (v := .tuple #[vMs ms0, .int .i64 2]) (by simp [results, Tryd.results28, go_sem, hr, ms0]) rfl ⟨by rw [hres.out] <;> rfl, hb0⟩
      · rw [hT] at hs
        go_wp2_with (go_at_call 84; (with_reducible refine (hT ▸ r_IsByte x _).mono ?_); rintro e w3 ⟨rfl, rfl⟩)
        go_round
        case rel => exact ⟨k + 1, by omega, by go_num, by rw [hi.out, hs.out] <;> rfl⟩
        case measure => simp [intOf]; omega
    · obtain rfl : k = 8 := by omega
      have hg0 : g 0 = 0 := by rw [hi.out, he.out]
      replace hb2 := Lib.hid (hb2.out hg0)
      replace hb3' := Lib.hid (hb3'.out hg0)
      replace hhd := Lib.hid (hhd.out hg0)
      clear hb1 hi hd he hlen
      replace hg0 := Lib.hid hg0
      go_upto_region 6 with fail
      have Lk0 := k0.later
      have Fk0 := k0.laterF
      have Qk0 := k0.lt
      have Lk1 := k1.later
      have Fk1 := k1.laterF
      have Qk1 := k1.lt
      have hrm : Hid (∀ W : World, Below wa.heap.size wa W → Calls Tryd.prog 30 #[.slice (some ⟨w.heap.size, 0, none⟩) 7 8] W (Same (.int .i64 (remI [a0, a1, a2, a3, a4, a5, a6] : Nat)) W)) := fun W hb =>
        r_Remainder [a0, a1, a2, a3, a4, a5, a6] (some ⟨w.heap.size, 0, none⟩) 8 W (by simp) hhd.out ((k0.sub (l := [a0, a1, a2, a3, a4, a5, a6]) (fun k x hx => by match k, hx with | 0, hx | 1, hx | 2, hx | 3, hx | 4, hx | 5, hx | 6, hx => simpa using hx)).below hb)
      refine wp_any (w0 := wa) ⟨[], [], [some 17, some 18, some 19, some 20, some 21], [[], [0], [], [2], [0, 1, 2, 3]], [[], [0], [], [2], [1, 3]]⟩ (fun _ => []) (by kernel_rfl) (by kernel_rfl) (by (with_reducible (repeat' (first | assumption | apply jA | apply jB | apply jC | apply jD | apply jE | apply jF | apply hb3 | omega | (simp; done) | (simp; omega) | (dsimp only; omega))))) (fun u => by simp only [putD, Act.put, List.setIfInBounds_toArray, List.set_cons_zero, List.set_cons_succ, Nat.zero_add, Nat.reduceAdd]; rfl) ?_
      apply RGW.on (i := 0) rfl
      · (simp only [gA, gB, gC] <;> rfl)
      · intro γ u W hcur hd
        clear hd
        (try dsimp only)
        refine ⟨rfl, ?_⟩
        go_simp <;> (try go_bits) <;> with_reducible rfl
      · exact fun _ _ _ => rfl
      · rfl
      dsimp only [nA, cA]
      apply RGW.on (i := 1) rfl
      · (simp only [gA, gB, gC] <;> rfl)
      · intro γ u W hcur hd
        obtain ⟨⟨h0, -, -⟩, -⟩ := hd
        dsimp only at h0
        (try simp only [h0])
        refine ⟨rfl, ?_⟩
        go_simp <;> (try go_bits) <;> with_reducible rfl
      · exact fun _ _ _ => rfl
      · rfl
      dsimp only [nA, cA]
      apply RGW.on (i := 2) rfl
      · (simp only [gA, gB, gC] <;> rfl)
      · intro γ u W hcur hd
        clear hd
        (try dsimp only)
        refine ⟨rfl, ?_⟩
        go_simp <;> (try go_bits) <;> with_reducible rfl
      · exact fun _ _ _ => rfl
      · rfl
      dsimp only [nA, cA]
      apply RGW.call (i := 3) rfl
      · (simp only [gA, gB, gC] <;> rfl)
      · intro γ u W hcur hd
        obtain ⟨⟨h2, -, -⟩, -⟩ := hd
        dsimp only at h2
        (try simp only [h2])
        refine ⟨rfl, fun K hK => ?_⟩
        go_simp
        (go_at_call 30; (with_reducible refine (hrm.out _ (by (with_reducible (repeat' (first | assumption | apply jA | apply jB | apply jC | apply jD | apply jE | apply jF | apply hb3 | omega | (simp; done) | (simp; omega) | (dsimp only; omega)))))).mono ?_); rintro e w3 ⟨rfl, rfl⟩)
        (try dsimp only)
        exact hK.out _ _ rfl (by (with_reducible (repeat' (first | assumption | apply jA | apply jB | apply jC | apply jD | apply jE | apply jF | apply hb3 | omega | (simp; done) | (simp; omega) | (dsimp only; omega)))))
      · exact fun _ _ _ => rfl
      · rfl
      dsimp only [nA, cA]
      apply RGW.on (i := 4) rfl
      · (simp only [gA, gB, gC] <;> rfl)
      · intro γ u W hcur hd
        obtain ⟨⟨h1, -, -⟩, ⟨h3, -, -⟩, -⟩ := hd
        dsimp only at h1 h3
        (try simp only [h1, h3])
        refine ⟨rfl, ?_⟩
        go_simp <;> (try go_bits) <;> with_reducible rfl
      · exact fun _ _ _ => rfl
      · rfl
      dsimp only [nA, cA]
      refine RGW.fin (fun γ u we hwe hd hdis => ?_)
      obtain ⟨⟨h0, -, -⟩, ⟨h1, -, -⟩, ⟨h2, -, -⟩, ⟨h3, -, -⟩, ⟨h4, -, -⟩, -⟩ := hd
      dsimp only at h0 h1 h2 h3 h4
      clear hdis
      simp only [h0, h1, h2, h3, h4]
      clear h4 h3 h2 h1 h0
      clear u
      simp only [List.map_nil]
      refine PlanW.done ?_
      have hb3 := bl_tt hwe
      have hbe := hb3 _ hb0
      replace k0 := k0.below hwe
      replace k1 := k1.below hwe
      clear Lk0 Lk1 Fk0 Fk1 Qk0 Qk1 hb0 hb3 hrm hwe hS
      have hb0 := hbe
      clear hbe
      have L0 := k0.cell
      have L1 := k1.cell
      have F1 := k1.frozen
      replace hb2 : Hid (fstE [unl (decide (a7 = ((remI [a0, a1, a2, a3, a4, a5, a6] : Nat) : Int))) 19, msE ⟨a0, a1, a2, a3, a4, a5, a6⟩] ≠ 0 → decS ⟨a0, a1, a2, a3, a4, a5, a6, a7⟩ = (ms0, fstE [unl (decide (a7 = ((remI [a0, a1, a2, a3, a4, a5, a6] : Nat) : Int))) 19, msE ⟨a0, a1, a2, a3, a4, a5, a6⟩])) := hb2
      replace hb3' : Hid (fstE [unl (decide (a7 = ((remI [a0, a1, a2, a3, a4, a5, a6] : Nat) : Int))) 19, msE ⟨a0, a1, a2, a3, a4, a5, a6⟩] = 0 → decS ⟨a0, a1, a2, a3, a4, a5, a6, a7⟩ = (⟨a0, a1, a2, a3, a4, a5, a6⟩, 0)) := hb3'
      by_cases hR : a7 = ((remI [a0, a1, a2, a3, a4, a5, a6] : Nat) : Int)
      rotate_left
      · have hR' : (a7 != ((remI [a0, a1, a2, a3, a4, a5, a6] : Nat) : Int)) = true := by simp [hR]
        have hres := Lib.hid (hb2.out (by simp [fstE, unl, hR]))
        have hv : Hid (fstE [unl (decide (a7 = ((remI [a0, a1, a2, a3, a4, a5, a6] : Nat) : Int))) 19, msE ⟨a0, a1, a2, a3, a4, a5, a6⟩] = 19) := Lib.hid (by simp [fstE, unl, hR])
        rw [hv.out] at hres
        clear hb2 hb3' hv hR
        go_wp2
        first
        | apply absPB2 (w0 := w) (g0 := w.heap.size) (g1 := w.heap.size + 1)
        | apply absPMB2 (w0 := w) (g0 := w.heap.size) (g1 := w.heap.size + 1)
        iterate 3 (focus ((with_reducible (repeat' (first | assumption | apply jA | apply jB | apply jC | apply jD | apply jE | apply jF | apply hb3 | apply jG | apply jH | apply jI | apply jJ | apply jK | apply hb3x | (apply jL; first | (simp; done) | rfl) | apply jM | apply jN | apply jO | apply jP | apply jQ | apply jR | apply jS | apply jT (hb := hb3 _ (jA _)) | omega | (simp; done) | (simp; omega) | (dsimp only; omega)))); done))
        intro wz hb0' k0' k1'
        (try simp only [List.setIfInBounds_toArray, List.set_cons_zero, List.set_cons_succ] at k0' k1')
        try clear hb3
        try clear Lk0
        try clear Fk0
        try clear Qk0
        try clear Lk1
        try clear Fk1
        try clear Qk1
        try clear hb0
        try clear k0
        try clear k1
        have hb0 := hb0'; clear hb0'
        have k0 := k0'; clear k0'
        have k1 := k1'; clear k1'
        have hr := k1.cell
        exact bodyPost_ret (v := .tuple #[vMs ms0, .int .i64 19]) (by simp [results, Tryd.results28, go_sem, hr, ms0]) rfl ⟨by rw [hres.out] <;> rfl, hb0⟩
      have hR' : (a7 != ((remI [a0, a1, a2, a3, a4, a5, a6] : Nat) : Int)) = false := by simp [hR]
      have hv : fstE [unl (decide (a7 = ((remI [a0, a1, a2, a3, a4, a5, a6] : Nat) : Int))) 19, msE ⟨a0, a1, a2, a3, a4, a5, a6⟩] = msE ⟨a0, a1, a2, a3, a4, a5, a6⟩ := by
        simp [fstE, unl, hR]
        intro h
        exact h.symm
      rw [hv] at hb2 hb3'
      clear hv hR
      have hme := Lib.hid fun W : World => r_MessageErr ⟨a0, a1, a2, a3, a4, a5, a6⟩ W
      generalize msE ⟨a0, a1, a2, a3, a4, a5, a6⟩ = E at *
      have hq1 := hb0.size
      have hq2 := k1.lt
      go_upto_region 9 with fail
      first
      | apply absB3 (w0 := w) (g0 := w.heap.size) (g1 := w.heap.size + 1) (g2 := we.heap.size)
      | apply absTB3 (w0 := w) (g0 := w.heap.size) (g1 := w.heap.size + 1) (g2 := we.heap.size)
      | apply absIB3 (w0 := w) (g0 := w.heap.size) (g1 := w.heap.size + 1) (g2 := we.heap.size)
      iterate 4 (focus ((with_reducible (repeat' (first | assumption | apply jA | apply jB | apply jC | apply jD | apply jE | apply jF | apply hb3 | apply jG | apply jH | apply jI | apply jJ | apply jK | apply hb3x | (apply jL; first | (simp; done) | rfl) | apply jM | apply jN | apply jO | apply jP | apply jQ | apply jR | apply jS | apply jT (hb := hb3 _ (jA _)) | omega | (simp; done) | (simp; omega) | (dsimp only; omega)))); done))
      intro wf hb0' k0' k1' k2'
      (try simp only [List.setIfInBounds_toArray, List.set_cons_zero, List.set_cons_succ] at k0' k1' k2')
      try clear hb3
      try clear hb0
      try clear k0
      try clear k1
      try clear k2
      have hb0 := hb0'; clear hb0'
      have k0 := k0'; clear k0'
      have k1 := k1'; clear k1'
      have k2 := k2'; clear k2'
      clear L0 L1 F1
      have L2 := k2.cell
      go_wp2_with fail
      refine (hme.out _).mono ?_
      rintro e wg ⟨rfl, hb4⟩
      replace hb0 := bl_tr hb0 hb4
      replace k1 := k1.below hb4
      replace k2 := k2.below hb4
      clear hb4 L2 hme k0
      have L1 := k1.cell
      have F1 := k1.frozen
      by_cases hE0 : E = 0
      · have hE' : (E != 0) = false := by simp [hE0]
        have hs := Lib.hid (hb3'.out hE0)
        replace hE0 := Lib.hid hE0
        have L2 := k2.cell
        clear hb2 hb3'
        go_wp2
        first
        | apply absPB1 (w0 := w) (g0 := w.heap.size + 1)
        | apply absPMB1 (w0 := w) (g0 := w.heap.size + 1)
        iterate 2 (focus ((with_reducible (repeat' (first | assumption | apply jA | apply jB | apply jC | apply jD | apply jE | apply jF | apply hb3 | apply jG | apply jH | apply jI | apply jJ | apply jK | apply hb3x | (apply jL; first | (simp; done) | rfl) | apply jM | apply jN | apply jO | apply jP | apply jQ | apply jR | apply jS | apply jT (hb := hb3 _ (jA _)) | omega | (simp; done) | (simp; omega) | (dsimp only; omega)))); done))
        intro wz hb0' k1'
        (try simp only [List.setIfInBounds_toArray, List.set_cons_zero, List.set_cons_succ] at k1')
        try clear hb3
        try clear hb0
        try clear k1
        have hb0 := hb0'; clear hb0'
        have k1 := k1'; clear k1'
        have hr := k1.cell
        exact bodyPost_ret (v := .tuple #[vMs ⟨a0, a1, a2, a3, a4, a5, a6⟩, .int .i64 0]) (by simp [results, Tryd.results28, go_sem, hr]) rfl ⟨by rw [hs.out] <;> rfl, hb0⟩
      · have hE' : (E != 0) = true := by simp [hE0]
        have hs := Lib.hid (hb2.out hE0)
        replace hE0 := Lib.hid hE0
        clear hb2 hb3'
        go_wp2
        first
        | apply absPB1 (w0 := w) (g0 := w.heap.size + 1)
        | apply absPMB1 (w0 := w) (g0 := w.heap.size + 1)
        iterate 2 (focus ((with_reducible (repeat' (first | assumption | apply jA | apply jB | apply jC | apply jD | apply jE | apply jF | apply hb3 | apply jG | apply jH | apply jI | apply jJ | apply jK | apply hb3x | (apply jL; first | (simp; done) | rfl) | apply jM | apply jN | apply jO | apply jP | apply jQ | apply jR | apply jS | apply jT (hb := hb3 _ (jA _)) | omega | (simp; done) | (simp; omega) | (dsimp only; omega)))); done))
        intro wz hb0' k1'
        (try simp only [List.setIfInBounds_toArray, List.set_cons_zero, List.set_cons_succ] at k1')
        try clear hb3
        try clear hb0
        try clear k1
        have hb0 := hb0'; clear hb0'
        have k1 := k1'; clear k1'
        have hr := k1.cell
        exact bodyPost_ret (v := .tuple #[vMs ms0, .int .i64 E]) (by simp [results, Tryd.results28, go_sem, hr, ms0]) rfl ⟨by rw [hs.out] <;> rfl, hb0⟩
end Go.Proofs.YtdlmkblmljhbfaaDoor
namespace Go.Proofs.YtdlmkblmljhbfaaDoor
set_option linter.unusedSimpArgs false
set_option linter.unusedVariables false
open Go.RowKit Go.Shelf
attribute [local go_sem] bl_al bl_drew bl_drewN bl_refl bx_al bx_drew bx_drewN bx_refl
set_option maxRecDepth 20000
theorem md_neg {n d : Int} (hd : 0 < d) (h : n.tmod d < 0) : n.tmod d + d = n % d := by
  have h1 := Int.mul_tdiv_add_tmod n d
  have h2 := Int.lt_tmod_of_pos n hd
  have h3 := (Int.ediv_emod_unique (a := n) (b := d) (r := n.tmod d + d) (q := n.tdiv d - 1) hd).2 ⟨by rw [Int.mul_sub]; omega, by omega, by omega⟩
  exact h3.2.symm
theorem md_pos {n d : Int} (hd : 0 < d) (h : ¬ n.tmod d < 0) : n.tmod d = n % d := by
  have h1 := Int.mul_tdiv_add_tmod n d
  have h2 := Int.tmod_lt_of_pos n hd
  have h3 := (Int.ediv_emod_unique (a := n) (b := d) (r := n.tmod d) (q := n.tdiv d) hd).2 ⟨by omega, by omega, h2⟩
  exact h3.2.symm
theorem r_Mod (n d : Int) (w : World) (h3 : 0 < d) (h4 : d ≤ 1000000000000) : Calls Tryd.prog 31 #[.int .i64 n, .int .i64 d] w (Same (.int .i64 (n % d)) w) := by
  have q3 := Int.lt_tmod_of_pos n h3
  have q4 := Int.tmod_lt_of_pos n h3
  have hd : d ≠ 0 := by omega
  by_cases hT : n.tmod d < 0
  · have e := Lib.hid (md_neg h3 hT)
    have hT' : decide (n.tmod d < 0) = true := by simp [hT]
    go_enter Tryd.func31, Tryd.ntmps31
    go_wp2
    all_goals (go_ret; exact ⟨by rw [← e.out] <;> rfl, rfl⟩)
  · have e := Lib.hid (md_pos h3 hT)
    have hT' : decide (n.tmod d < 0) = false := by simp [hT]
    go_enter Tryd.func31, Tryd.ntmps31
    go_wp2
    all_goals (go_ret; exact ⟨by rw [← e.out] <;> rfl, rfl⟩)
set_option maxHeartbeats 2000000 in
theorem r_Has (l : List Int) (x : Int) (A : Option Addr) (c : Nat) (w : World) (hl : Sl cI 1 w A l) (hll : l.length ≤ 1000) :
    Calls Tryd.prog 48 #[.slice A l.length c, .int .i64 x] w (Ret (.bool (l.contains x)) w) := by
  have Hl := Lib.hid hl
  obtain ⟨n, Hn⟩ : ∃ n, Hid (l.length = n) := ⟨_, rfl⟩
  rw [Hn.out] at hll ⊢
  clear hl
  go_enter Tryd.func48, Tryd.ntmps48
  go_wp2
  go_loopw [5] (fun i wr => ∃ k : Nat, k ≤ n ∧ i = .int .i64 k ∧ Below w.heap.size w wr ∧ l.contains x = (l.drop k).contains x) (fun i _ => n - (intOf i).toNat)
  case atStart => exact ⟨0, Nat.zero_le _, rfl, Below.refl _ _, rfl⟩
  case round =>
    obtain ⟨k, hk, rfl, hb, hi⟩ := hrel
    replace hi := Lib.hid hi
    by_cases hlt : k < n
    · have hx : l[k]? = some (l[k]'(by rw [Hn.out]; exact hlt)) := List.getElem?_eq_getElem _
      generalize l[k]'(by rw [Hn.out]; exact hlt) = y at hx
      obtain ⟨b, off, hA, hc⟩ := Hl.out k y hx
      have c0 : wr.cell? ⟨b, off + k, none⟩ = some (.int .i64 y) := by have := kcell hb (hc 0 _ rfl); simpa using this
      have hd : Hid (l.drop k = y :: l.drop (k + 1)) := by
        have hk' := (List.getElem?_eq_some_iff.1 hx).1
        refine Lib.hid ?_
        rw [List.drop_eq_getElem_cons hk', (List.getElem?_eq_some_iff.1 hx).2]
      clear hc hx
      subst hA
      cases hyx : y == x
      · have hyx' : (x == y) = false := by rw [Bool.eq_false_iff] at hyx ⊢; intro h; exact hyx (by rw [beq_iff_eq] at h ⊢; exact h.symm)
        go_wp2
        go_roundw
        case rel => exact ⟨k + 1, by omega, by go_num, hb, by rw [hi.out, hd.out, List.contains_cons, hyx', Bool.false_or]⟩
        case measure => simp [intOf]; omega
      · have hyx' : (x == y) = true := by rw [beq_iff_eq] at hyx ⊢; exact hyx.symm
        go_wp2
        go_ret
        exact ⟨by rw [hi.out, hd.out, List.contains_cons, hyx', Bool.true_or] <;> rfl, hb⟩
    · go_wp2
      go_ret
      have : k = l.length := by have := Hn.out; omega
      exact ⟨by rw [hi.out, this]; simp, hb⟩
end Go.Proofs.YtdlmkblmljhbfaaDoor
namespace Go.Proofs.YtdlmkblmljhbfaaDoor
set_option linter.unusedSimpArgs false
set_option linter.unusedVariables false
open Go.RowKit Go.Shelf
attribute [local go_sem] bl_al bl_drew bl_drewN bl_refl bx_al bx_drew bx_drewN bx_refl
set_option maxRecDepth 20000
theorem infoFr : (Tryd.prog.info? 40).map (fun i => (i.zero, i.size, i.bytes)) = some (some (.agg #[.int .i64 0, .int .i64 0, .int .i64 0, .int .i64 0, .int .i64 0, .int .i64 0, .int .i64 0, .int .i64 0]), 8, 64) := by kernel_rfl
set_option maxHeartbeats 2000000 in
theorem r_CopyFrames (l : List Fr) (A : Option Addr) (c : Nat) (w : World) (hs : Sl cFr 8 w A l) (hl : l.length ≤ 1000) :
    Calls Tryd.prog 65 #[.slice A l.length c] w (fun e w' => ∃ A2 c2, e = .returned (.slice A2 l.length c2) ∧ Below w.heap.size w w' ∧ Sl cFr 8 w' A2 l ∧ l.length ≤ c2) := by
  obtain ⟨i0, hi, hz0, hz1, hz2⟩ := info_parts infoFr
  have Hs := Lib.hid hs
  clear hs
  go_enter Tryd.func65, Tryd.ntmps65
  go_wp2_with (at_builtin; refine wpList_plain rfl fun _ hK => wp_copy (cs := cFr) (l := l) (A := A) (c := c) (g := w.heap.size) _ _ rfl Tryd.underlying108 hi hz0 hz1 hz2 rfl (by decide) (fun _ => rfl) (fun x u hu => by obtain ⟨y, -, rfl⟩ := List.mem_map.1 hu; rfl) rfl rfl (Hs.out.below (bl_al _ (bl_refl _))) hl (by decide) (Blk.new w _ _) (fun A2 c2 w' ho hb => hK _ _ ?_))
  have hb2 : Below w.heap.size w w' := bl_tr (bl_al _ (bl_refl w)) hb
  replace ho := Lib.hid ho
  clear hb
  go_wp2
  go_ret
  refine ⟨A2, c2, rfl, hb2, own_slC (cs := cFr) (fun _ => rfl) (by decide) ho.out, ?_⟩
  rcases ho.out.2 with ⟨e, h⟩ | ⟨_, _, _, e, _, _, h, _⟩
  · omega
  · injection e with _ _ e
    omega
def atI (r : Rc) : Int := (r.at_ : Int)
theorem lastN_take {out : List Rc} {k : Nat} {r : Rc} (h : out[k]? = some r) (s : Int) : lastN (out.take (k + 1)) s = if r.m.src = s then r.m.num else lastN (out.take k) s := by
  rw [List.take_add_one, h]
  exact lastN_app _ _ _
theorem lastN_bd {out : List Rc} (h : ∀ r ∈ out, RcOk r) (s : Int) : -1 ≤ lastN out s ∧ lastN out s ≤ 255 := by
  have key : ∀ (out : List Rc) (a : Int), (∀ r ∈ out, RcOk r) → -1 ≤ a ∧ a ≤ 255 → -1 ≤ out.foldl (fun a r => if r.m.src = s then r.m.num else a) a ∧ out.foldl (fun a r => if r.m.src = s then r.m.num else a) a ≤ 255 := by
    intro out
    induction out with
    | nil => intro a _ h; exact h
    | cons r out ih =>
      intro a h ha
      rw [List.foldl_cons]
      refine ih _ (fun x hx => h x (List.mem_cons_of_mem _ hx)) ?_
      have := (h r (by simp)).num
      split <;> omega
  exact key out (-1) h (by omega)
theorem accAt_skip {f : Fr} {k : Nat} {out : List Rc} (h : (decS f).2 ≠ 0) : accAt f k out = out := by rw [accAt, if_neg h]
theorem accAt_first {f : Fr} {k : Nat} {out : List Rc} (h : (decS f).2 = 0) (h1 : lastN out (decS f).1.src < 0) : accAt f k out = out ++ [⟨k, (decS f).1, []⟩] := by rw [accAt, if_pos h, accNew, if_pos h1]
theorem accAt_old {f : Fr} {k : Nat} {out : List Rc} (h : (decS f).2 = 0) (h1 : ¬ lastN out (decS f).1.src < 0) (h2 : inR (newN (decS f).1.num (lastN out (decS f).1.src)) 1 127 = false) : accAt f k out = out := by
  rw [accAt, if_pos h, accNew, if_neg h1, h2]
  simp
theorem accAt_new {f : Fr} {k : Nat} {out : List Rc} (h : (decS f).2 = 0) (h1 : ¬ lastN out (decS f).1.src < 0) (h2 : inR (newN (decS f).1.num (lastN out (decS f).1.src)) 1 127 = true) : accAt f k out = out ++ [⟨k, (decS f).1, lostL (lastN out (decS f).1.src) ((newN (decS f).1.num (lastN out (decS f).1.src)).toNat - 1)⟩] := by
  rw [accAt, if_pos h, accNew, if_neg h1, if_pos h2]
set_option maxHeartbeats 8000000 in
theorem r_Accepted (l : List Fr) (A : Option Addr) (c : Nat) (w : World) (hs : Sl cFr 8 w A l) (hl : l.length ≤ 100) :
    Calls Tryd.prog 67 #[.slice A l.length c] w (RetI ((acS l).map atI) w) := by
  obtain ⟨i0, hi, hz0, hz1, hz2⟩ := info_parts infoI
  have hme := Lib.hid fun (f : Fr) (W : World) => r_Message f W
  have Hs := Lib.hid hs
  have hst := Lib.hid fun (k : Nat) (f : Fr) (h : l[k]? = some f) => acK_next h
  have h0 : Hid (acK l 0 = []) := rfl
  have hend : Hid (acK l l.length = acS l) := rfl
  have hok := Lib.hid (acK_ok l)
  have hln := Lib.hid (acK_len l)
  generalize acS l = R at *
  obtain ⟨g, hg⟩ : ∃ g : Nat → List Rc, ∀ k, acK l k = g k := ⟨_, fun _ => rfl⟩
  simp only [hg] at hst h0 hend hok hln
  clear hg hs
  obtain ⟨n, Hn⟩ : ∃ n, Hid (l.length = n) := ⟨_, rfl⟩
  rw [Hn.out] at hl hend ⊢
  go_enter Tryd.func67, Tryd.ntmps67
  go_wp2
  go_loopw [3, 4] (fun v i wr => ∃ k : Nat, k ≤ n ∧ i = .int .i64 k ∧ Below w.heap.size w wr ∧ wr.ownsRow w.heap.size 3 1 v (g k).length (((g k).map atI).map (.int .i64))) (fun _ i _ => n - (intOf i).toNat)
  case atStart => exact ⟨0, Nat.zero_le _, rfl, bl_refl _, by rw [h0.out]; exact World.ownsRow_nil _ _ _ _⟩
  case round =>
    obtain ⟨k, hk, rfl, hb0, ho⟩ := hrel
    obtain ⟨vA, vc, rfl⟩ := own_slice ho
    replace ho := Lib.hid ho
    by_cases hkn : k < n
    rotate_left
    · obtain rfl : n = k := by omega
      have e := hend.out
      rw [e] at ho
      have hRl : Hid (R.length = (R.map atI).length) := Lib.hid (by simp)
      rw [e]
      go_wp2
      go_ret
      exact ⟨vA, vc, by rw [← hRl.out] <;> rfl, hb0, by have h := ho.out; rw [hRl.out] at h; exact h⟩
    have hx : l[k]? = some (l[k]'(by rw [Hn.out]; exact hkn)) := List.getElem?_eq_getElem _
    generalize l[k]'(by rw [Hn.out]; exact hkn) = f at hx
    have hsk := hst.out k f hx
    obtain ⟨b, off, rfl, hc⟩ := Hs.out k f hx
    have hmf := Lib.hid fun W : World => hme.out f W
    have hoL := Lib.hid fun r hr => hok.out k r hr
    have hgl := hln.out k
    have hbd := lastN_bd (fun r hr => (hok.out k r hr).1) (decS f).1.src
    have hm0 := Lib.hid fun h : (decS f).2 = 0 => msE_ok (dec_ok h)
    have e1 := Lib.hid fun h => accAt_skip (f := f) (k := k) (out := g k) h
    have e2 := Lib.hid fun h h1 => accAt_first (f := f) (k := k) (out := g k) h h1
    have e3 := Lib.hid fun h h1 h2 => accAt_old (f := f) (k := k) (out := g k) h h1 h2
    have e4 := Lib.hid fun h h1 h2 => accAt_new (f := f) (k := k) (out := g k) h h1 h2
    rw [← hsk] at e1 e2 e3 e4
    have f0 := kcell hb0 (hc 0 _ rfl)
    have f1 := kcell hb0 (hc 1 _ rfl)
    have f2 := kcell hb0 (hc 2 _ rfl)
    have f3 := kcell hb0 (hc 3 _ rfl)
    have f4 := kcell hb0 (hc 4 _ rfl)
    have f5 := kcell hb0 (hc 5 _ rfl)
    have f6 := kcell hb0 (hc 6 _ rfl)
    have f7 := kcell hb0 (hc 7 _ rfl)
    simp only [Nat.add_zero] at f0
    have hlN0 : Hid (lastN ((g k).take 0) (decS f).1.src = -1) := rfl
    have hlNe : Hid (lastN ((g k).take (g k).length) (decS f).1.src = lastN (g k) (decS f).1.src) := Lib.hid (by rw [List.take_length])
    have hlNs := Lib.hid fun (j : Nat) (r : Rc) (h : (g k)[j]? = some r) => lastN_take h (decS f).1.src
    clear hc hx hsk
    generalize hDf : decS f = D at *
    clear hDf
    obtain ⟨⟨ms, mn, mk, m0, m1, m2, m3⟩, me⟩ := D
    dsimp only at *
    obtain ⟨LN, hLN⟩ : ∃ LN : Nat → Int, ∀ j, lastN ((g k).take j) ms = LN j := ⟨_, fun _ => rfl⟩
    simp only [hLN] at hlN0 hlNe hlNs
    clear hLN
    generalize lastN (g k) ms = LL at *
    dsimp only [vFr, aFr, vMs, aMs] at hmf
    have hkn2 : (k : Int) < n := by omega
    go_wp2_with fail
    refine (hmf.out _).mono ?_
    rintro e w1 ⟨rfl, hb1⟩
    replace hb0 := bl_tr hb0 hb1
    replace ho := Lib.hid (own_below ho.out hb1)
    clear f0 f1 f2 f3 f4 f5 f6 f7 hb1
    by_cases hme0 : me = 0
    rotate_left
    · have hne : (me != 0) = true := by simp [hme0]
      have e := Lib.hid (e1.out hme0)
      replace hme0 := Lib.hid hme0
      clear e1 e2 e3 e4
      go_wp2
      go_roundw
      case rel =>
        refine ⟨k + 1, by omega, by go_num, bl_al _ hb0, ?_⟩
        rw [e.out]
        exact own_below ho.out (bl_al _ (bl_refl _))
      case measure => simp [intOf]; omega
    subst hme0
    obtain ⟨⟨hs0, hs1⟩, hn0, hn1⟩ := hm0.out rfl
    replace e2 := Lib.hid (e2.out rfl)
    replace e3 := Lib.hid (e3.out rfl)
    replace e4 := Lib.hid (e4.out rfl)
    clear e1 hm0
    obtain ⟨lo, Hlo⟩ : ∃ q, Hid ((g k).length = q) := ⟨_, rfl⟩
    rw [Hlo.out] at ho hgl hlNe ⊢
    have hsz := hb0.size
    go_upto_region 7 with fail
    have kM := Blk.new w1 39 #[.int .i64 ms, .int .i64 mn, .int .i64 mk, .int .i64 m0, .int .i64 m1, .int .i64 m2, .int .i64 m3]
    have hbA := bl_al (.cells #[.int .i64 ms, .int .i64 mn, .int .i64 mk, .int .i64 m0, .int .i64 m1, .int .i64 m2, .int .i64 m3] 39) (bl_refl w1)
    replace hb0 := bl_tr hb0 hbA
    replace ho := Lib.hid (own_below ho.out hbA)
    generalize hgM : w1.heap.size = gM at *
    generalize w1.alloc (.cells #[.int .i64 ms, .int .i64 mn, .int .i64 mk, .int .i64 m0, .int .i64 m1, .int .i64 m2, .int .i64 m3] 39) = wA at *
    clear hbA hgM hmf
    go_wp2
    go_loopw [7, 8] (fun la i wi => ∃ j : Nat, j ≤ lo ∧ i = .int .i64 j ∧ la = .int .i64 (LN j) ∧ Below w.heap.size w wi ∧ Blk wi gM 39 #[.int .i64 ms, .int .i64 mn, .int .i64 mk, .int .i64 m0, .int .i64 m1, .int .i64 m2, .int .i64 m3] ∧ wi.ownsRow w.heap.size 3 1 (.slice vA lo vc) lo (((g k).map atI).map (.int .i64))) (fun _ i _ => lo - (intOf i).toNat)
    case atStart => exact ⟨0, Nat.zero_le _, rfl, by rw [hlN0.out] <;> rfl, hb0, kM, ho.out⟩
    case round =>
      clear hb0 kM ho
      obtain ⟨j, hj, rfl, rfl, hb0, kM, ho⟩ := hrel
      replace ho := Lib.hid ho
      have LM := kM.cell
      by_cases hjo : j < lo
      · have hr : (g k)[j]? = some ((g k)[j]'(by rw [Hlo.out]; exact hjo)) := List.getElem?_eq_getElem _
        generalize (g k)[j]'(by rw [Hlo.out]; exact hjo) = r at hr
        obtain ⟨-, hra, f2, hf2, hd2, hdm⟩ := hoL.out r (List.mem_of_getElem? hr)
        have hnx := Lib.hid (hlNs.out j r hr)
        obtain ⟨b5, o5, e5, hc5⟩ := own_sl (L := (g k).map atI) (by have h := ho.out; rw [List.length_map, Hlo.out]; exact h) j (r.at_ : Int) (by rw [List.getElem?_map, hr]; rfl)
        subst e5
        have c1 : wr.cell? ⟨b5, o5 + j, none⟩ = some (.int .i64 r.at_) := by simpa using hc5 0 _ rfl
        obtain ⟨b6, o6, e6, hc⟩ := Hs.out r.at_ f2 hf2
        injection e6 with e6
        injection e6 with q1 q2 _
        subst q1 q2
        have f0 := kcell hb0 (hc 0 _ rfl)
        have f1 := kcell hb0 (hc 1 _ rfl)
        have f2' := kcell hb0 (hc 2 _ rfl)
        have f3 := kcell hb0 (hc 3 _ rfl)
        have f4 := kcell hb0 (hc 4 _ rfl)
        have f5 := kcell hb0 (hc 5 _ rfl)
        have f6 := kcell hb0 (hc 6 _ rfl)
        have f7 := kcell hb0 (hc 7 _ rfl)
        simp only [Nat.add_zero] at f0
        have hmf := Lib.hid fun W : World => hme.out f2 W
        rw [hd2, hdm] at hmf
        have han : (r.at_ : Int) < n := by omega
        have han2 : r.at_ < n := by omega
        generalize r.at_ = ra at *
        generalize r.m = rm at *
        obtain ⟨ps, pn, pk, p0, p1, p2, p3⟩ := rm
        dsimp only [vFr, aFr, vMs, aMs] at hmf hnx
        clear hc hc5 hr hf2 hd2 hdm
        have hjo2 : (j : Int) < lo := by omega
        go_wp2_with fail
        refine (hmf.out _).mono ?_
        rintro e w2 ⟨rfl, hb1⟩
        replace hb0 := bl_tr hb0 hb1
        replace kM := kM.below hb1
        replace ho := Lib.hid (own_below ho.out hb1)
        clear f0 f1 f2' f3 f4 f5 f6 f7 c1 hb1 LM hmf
        have hbB := bl_al (.cells #[.int .i64 ps, .int .i64 pn, .int .i64 pk, .int .i64 p0, .int .i64 p1, .int .i64 p2, .int .i64 p3] 39) (bl_refl w2)
        go_upto_region 12 with fail
        have kP := Blk.new w2 39 #[.int .i64 ps, .int .i64 pn, .int .i64 pk, .int .i64 p0, .int .i64 p1, .int .i64 p2, .int .i64 p3]
        replace hb0 := bl_tr hb0 hbB
        replace kM := kM.below hbB
        replace ho := Lib.hid (own_below ho.out hbB)
        generalize w2.heap.size = gP at *
        generalize w2.alloc (.cells #[.int .i64 ps, .int .i64 pn, .int .i64 pk, .int .i64 p0, .int .i64 p1, .int .i64 p2, .int .i64 p3] 39) = wB at *
        clear hbB
        have LM := kM.cell
        have LP := kP.cell
        by_cases hps : ps = ms
        · have e := Lib.hid (show LN (j + 1) = pn by rw [hnx.out, if_pos hps])
          have hq : (ps == ms) = true := by simp [hps]
          replace hps := Lib.hid hps
          go_wp2
          go_roundw
          case rel => exact ⟨j + 1, by omega, by go_num, by rw [e.out], hb0, kM, ho.out⟩
          case measure => simp [intOf]; omega
        · have e := Lib.hid (show LN (j + 1) = LN j by rw [hnx.out, if_neg hps])
          have hq : (ps == ms) = false := by simp [hps]
          go_wp2
          go_roundw
          case rel => exact ⟨j + 1, by omega, by go_num, by rw [e.out], hb0, kM, ho.out⟩
          case measure => simp [intOf]; omega
      obtain rfl : lo = j := by omega
      have hLL := hlNe.out
      rw [hLL]
      clear hlN0 hlNs hlNe hLL hjo
      by_cases q1 : LL < 0
      · have e := Lib.hid (e2.out q1)
        clear e2 e3 e4
        have hszA := hb0.size
        have hoA := Lib.hid (own_below ho.out (bl_al (.cells #[.int .i64 k] 3) (bl_refl _)))
        go_wp2_with (at_builtin; refine wpList_append_own2 rfl _ _ 22 rfl w.heap.size 3 i0 (.int .i64 0) 1 8 Tryd.underlying22 hi hz0 hz1 hz2 rfl (by decide) _ _ _ rfl hoA.out ⟨_, 0, none⟩ 1 1 [.int .i64 k] rfl rfl ?c1 ?c2 ?c3 ?c4 ?c5 ?_)
        try case c1 =>
          intro j u hj
          match j, hj with
          | 0, hj => simp at hj; subst hj; simp [Addr.add]
          | j + 1, hj => simp at hj
        case c2 => first | (intro u hu; simp at hu; subst hu; rfl) | rfl
        case c3 => have := Hlo.out; unfold maxLen; omega
        case c4 => have := Hlo.out; omega
        case c5 => first | omega | (simp; omega)
        intro v9 w9 hown hg2 hd2
        have hb9 := (bl_al (.cells #[.int .i64 k] 3) hb0).grown hg2 (by simp; omega) (own_ge hoA.out)
        have hown9 := Lib.hid (show w9.ownsRow w.heap.size 3 1 v9 (g (k + 1)).length (((g (k + 1)).map atI).map (.int .i64)) by rw [e.out]; simpa [atI, Hlo.out] using hown)
        clear hg2 hd2 hown hoA
        go_wp2
        go_roundw
        case rel => exact ⟨k + 1, by omega, by go_num, hb9, hown9.out⟩
        case measure => simp [intOf]; omega
      have hmo := Lib.hid fun W : World => r_Mod (mn - LL) 256 W (by decide) (by decide)
      have hnw : newN mn LL = (mn - LL) % 256 := by unfold newN; omega
      have hwi := Lib.hid fun W : World => r_Within (newN mn LL) 1 127 W
      rw [← hnw] at hmo
      have q2 : 0 ≤ LL := by omega
      have e3' := Lib.hid (e3.out (by first | exact q1 | exact q2))
      have e4' := Lib.hid (e4.out (by first | exact q1 | exact q2))
      clear e2 e3 e4 hnw
      generalize newN mn LL = NW at *
      cases hin : inR NW 1 127
      · rw [hin] at hwi
        have e := Lib.hid (e3'.out hin)
        replace hin := Lib.hid hin
        clear e3' e4'
        go_wp2_with (first | (go_at_call 31; (with_reducible refine (hmo.out _).mono ?_); rintro e w3 ⟨rfl, rfl⟩) | (go_at_call 21; (with_reducible refine (hwi.out _).mono ?_); rintro e w3 ⟨rfl, rfl⟩))
        go_roundw
        case rel => exact ⟨k + 1, by omega, by go_num, hb0, by rw [e.out, Hlo.out]; exact ho.out⟩
        case measure => simp [intOf]; omega
      · rw [hin] at hwi
        have e := Lib.hid (e4'.out hin)
        replace hin := Lib.hid hin
        clear e3' e4'
        go_upto_region 15 with (first | (go_at_call 31; (with_reducible refine (hmo.out _).mono ?_); rintro e w3 ⟨rfl, rfl⟩) | (go_at_call 21; (with_reducible refine (hwi.out _).mono ?_); rintro e w3 ⟨rfl, rfl⟩))
        have hszA := hb0.size
        have hoA := Lib.hid (own_below ho.out (bl_al (.cells #[.int .i64 k] 3) (bl_refl _)))
        go_wp2_with (at_builtin; refine wpList_append_own2 rfl _ _ 22 rfl w.heap.size 3 i0 (.int .i64 0) 1 8 Tryd.underlying22 hi hz0 hz1 hz2 rfl (by decide) _ _ _ rfl hoA.out ⟨_, 0, none⟩ 1 1 [.int .i64 k] rfl rfl ?c1 ?c2 ?c3 ?c4 ?c5 ?_)
        try case c1 =>
          intro j u hj
          match j, hj with
          | 0, hj => simp at hj; subst hj; simp [Addr.add]
          | j + 1, hj => simp at hj
        case c2 => first | (intro u hu; simp at hu; subst hu; rfl) | rfl
        case c3 => have := Hlo.out; unfold maxLen; omega
        case c4 => have := Hlo.out; omega
        case c5 => first | omega | (simp; omega)
        intro v9 w9 hown hg2 hd2
        have hb9 := (bl_al (.cells #[.int .i64 k] 3) hb0).grown hg2 (by simp; omega) (own_ge hoA.out)
        have hown9 := Lib.hid (show w9.ownsRow w.heap.size 3 1 v9 (g (k + 1)).length (((g (k + 1)).map atI).map (.int .i64)) by rw [e.out]; simpa [atI, Hlo.out] using hown)
        clear hg2 hd2 hown hoA
        go_wp2
        go_roundw
        case rel => exact ⟨k + 1, by omega, by go_num, hb9, hown9.out⟩
        case measure => simp [intOf]; omega
end Go.Proofs.YtdlmkblmljhbfaaDoor
namespace Go.Proofs.YtdlmkblmljhbfaaDoor
set_option linter.unusedSimpArgs false
set_option linter.unusedVariables false
open Go.RowKit Go.Shelf
attribute [local go_sem] bl_al bl_drew bl_drewN bl_refl
set_option maxRecDepth 20000
set_option maxHeartbeats 2000000 in
theorem r_IsName (s : ByteArray) (w : World) (hs : s.size ≤ maxLen) :
    Calls Tryd.prog 114 #[.string s] w (Ret (.bool (nameB s)) w) := by
  unfold maxLen at hs
  obtain ⟨l, Hl⟩ : ∃ l, Hid (s.data.toList = l) := ⟨_, rfl⟩
  obtain ⟨n, Hn⟩ : ∃ n, Hid (s.size = n) := ⟨_, rfl⟩
  have Hln : Hid (l.length = n) := by rw [← Hl.out, ← Hn.out]; exact (by simp : s.data.toList.length = s.size)
  have hR : Hid (nameB s = (nameFrom 0 l && inR n 1 12)) := by unfold nameB; rw [Hl.out, Hn.out]; rfl
  rw [Hn.out] at hs
  have hsz : s.size = n := Hn.out
  by_cases hlow : n < 1
  · have e : Hid (nameB s = false) := by rw [hR.out]; refine Lib.hid ?_; have : inR n 1 12 = false := by simp [inR]; intro; omega
                                         rw [this, Bool.and_false]
    have hb1 : decide ((n : Int) < 1) = true := by simp; omega
    go_enter Tryd.func114, Tryd.ntmps114
    go_wp2
    go_ret
    exact ⟨by rw [e.out] <;> rfl, bl_refl _⟩
  have hb1 : decide ((n : Int) < 1) = false := by simp; omega
  by_cases hhi : 12 < n
  · have e : Hid (nameB s = false) := by rw [hR.out]; refine Lib.hid ?_; have : inR n 1 12 = false := by simp [inR]; intro; omega
                                         rw [this, Bool.and_false]
    have hb2 : decide ((12 : Int) < n) = true := by simp; omega
    go_enter Tryd.func114, Tryd.ntmps114
    go_wp2
    go_ret
    exact ⟨by rw [e.out] <;> rfl, bl_refl _⟩
  have hb2 : decide ((12 : Int) < n) = false := by simp; omega
  replace hR : Hid (nameB s = nameFrom 0 l) := by rw [hR.out]; refine Lib.hid ?_; have : inR n 1 12 = true := by simp [inR]; omega
                                                  rw [this, Bool.and_true]
  go_enter Tryd.func114, Tryd.ntmps114
  go_wp2
  go_loopw [3] (fun i wr => ∃ k : Nat, k ≤ n ∧ i = .int .i64 k ∧ wr = w ∧ nameFrom 0 l = nameFrom k (l.drop k)) (fun i _ => n - (intOf i).toNat)
  case atStart => exact ⟨0, Nat.zero_le _, rfl, rfl, rfl⟩
  case round =>
    obtain ⟨k, hk, rfl, rfl, hi⟩ := hrel
    replace hi := Lib.hid hi
    by_cases hlt : k < n
    · have hx : l[k]? = some (l[k]'(by rw [Hln.out]; exact hlt)) := List.getElem?_eq_getElem _
      generalize l[k]'(by rw [Hln.out]; exact hlt) = c at hx
      have hd := Lib.hid (nameFrom_drop l k c hx)
      have hks : k < s.size := by rw [hsz]; exact hlt
      have hget : s.data[k]'(by simpa using hks) = c := by
        have := hx
        rw [← Hl.out] at this
        simpa using (List.getElem?_eq_some_iff.1 this).2
      have hget' : (s[k]'hks) = c := hget
      have hm0 := c.toNat_lt
      have hlet := Lib.hid (letter_iff c)
      have hoth := Lib.hid (other_iff c)
      have hyes : Hid ((97 ≤ c.toNat ∧ c.toNat ≤ 122 ∨ 65 ≤ c.toNat ∧ c.toNat ≤ 90) ∨ k ≠ 0 ∧ (48 ≤ c.toNat ∧ c.toNat ≤ 57 ∨ c.toNat = 45) → nameFrom 0 l = nameFrom (k + 1) (l.drop (k + 1))) := by
        intro h
        rw [hi.out, hd.out]
        rcases h with h | ⟨h0, h⟩
        · simp [hlet.out.2 h]
        · simp [hoth.out.2 h, h0]
      have hno : Hid (¬ ((97 ≤ c.toNat ∧ c.toNat ≤ 122 ∨ 65 ≤ c.toNat ∧ c.toNat ≤ 90) ∨ k ≠ 0 ∧ (48 ≤ c.toNat ∧ c.toNat ≤ 57 ∨ c.toNat = 45)) → nameFrom 0 l = false) := by
        intro h
        rw [hi.out, hd.out]
        have h1 : letter c = false := by rw [Bool.eq_false_iff]; intro hh; exact h (.inl (hlet.out.1 hh))
        by_cases h0 : k = 0
        · simp [h1, h0]
        · have h2 : other c = false := by rw [Bool.eq_false_iff]; intro hh; exact h (.inr ⟨h0, hoth.out.1 hh⟩)
          simp [h1, h2]
      clear hx hlet hoth hd hi
      go_upto_region 7 with fail
      clear hget hget'
      generalize c.toNat = m at *
      have hcase : m < 45 ∨ m = 45 ∨ (45 < m ∧ m < 48) ∨ (48 ≤ m ∧ m ≤ 57) ∨ (57 < m ∧ m < 65) ∨ (65 ≤ m ∧ m ≤ 90) ∨ (90 < m ∧ m < 97) ∨ (97 ≤ m ∧ m ≤ 122) ∨ 122 < m := by omega
      by_cases h0 : k = 0
      · subst h0
        rcases hcase with h | rfl | ⟨h, h'⟩ | ⟨h, h'⟩ | ⟨h, h'⟩ | ⟨h, h'⟩ | ⟨h, h'⟩ | ⟨h, h'⟩ | h
        all_goals
          go_wp2
        all_goals first
          | (go_roundw
             case rel => exact ⟨1, by omega, by go_num, trivial, hyes.out (by omega)⟩
             case measure => simp [intOf]; omega)
          | (go_ret
             exact ⟨by rw [hR.out, hno.out (by omega)] <;> rfl, bl_refl _⟩)
          | (exfalso; simp at *; omega)
      · have h0' : ((k : Int) == 0) = false := by simp; omega
        rcases hcase with h | rfl | ⟨h, h'⟩ | ⟨h, h'⟩ | ⟨h, h'⟩ | ⟨h, h'⟩ | ⟨h, h'⟩ | ⟨h, h'⟩ | h
        all_goals
          go_wp2
        all_goals first
          | (go_roundw
             case rel => exact ⟨k + 1, by omega, by go_num, trivial, hyes.out (by omega)⟩
             case measure => simp [intOf]; omega)
          | (go_ret
             exact ⟨by rw [hR.out, hno.out (by omega)] <;> rfl, bl_refl _⟩)
          | (exfalso; simp at *; omega)
    · go_wp2
      go_ret
      have : k = l.length := by have := Hln.out; omega
      exact ⟨by rw [hR.out, hi.out, this]; simp [nameFrom], bl_refl _⟩
end Go.Proofs.YtdlmkblmljhbfaaDoor
namespace Go.Proofs.YtdlmkblmljhbfaaDoor
set_option linter.unusedSimpArgs false
set_option linter.unusedVariables false
open Go.RowKit Go.Shelf
attribute [local go_sem] bl_al bl_drew bl_drewN bl_refl bx_al bx_drew bx_drewN bx_refl
set_option maxRecDepth 20000
/-- Streams that the laws take. -/
def fewB (l : List Sm) : Bool := decide ((l.length : Int) ≤ 8) && l.all fun s => decide ((s.name.size : Int) ≤ 30)
set_option maxHeartbeats 2000000 in
theorem r_fewStreams (l : List Sm) (A : Option Addr) (c : Nat) (w : World) (hs : Sl cSm 4 w A l) : Calls Tryd.prog 40 #[.slice A l.length c] w (Same (.bool (fewB l)) w) := by
  have Hs := Lib.hid hs
  clear hs
  by_cases h8 : (l.length : Int) ≤ 8
  rotate_left
  · have e : fewB l = false := by simp [fewB, h8]
    rw [e]
    have h8' : (8 : Int) < l.length := by omega
    clear e Hs
    generalize l.length = n at *
    go_enter Tryd.func40, Tryd.ntmps40
    go_wp2
    go_ret
    exact ⟨rfl, rfl⟩
  have he : fewB l = l.all fun s => decide ((s.name.size : Int) ≤ 30) := by simp [fewB, h8]
  have hst := Lib.hid fun k x (hx : l[k]? = some x) => (show ((l.drop k).all fun s => decide ((s.name.size : Int) ≤ 30)) = (decide ((x.name.size : Int) ≤ 30) && ((l.drop (k + 1)).all fun s => decide ((s.name.size : Int) ≤ 30))) by
    have hk := (List.getElem?_eq_some_iff.1 hx).1
    rw [List.drop_eq_getElem_cons hk, (List.getElem?_eq_some_iff.1 hx).2, List.all_cons])
  have hen : Hid (((l.drop l.length).all fun s => decide ((s.name.size : Int) ≤ 30)) = true) := Lib.hid (by rw [List.drop_length]; rfl)
  obtain ⟨g, hg⟩ : ∃ g : Nat → Bool, ∀ k, ((l.drop k).all fun s => decide ((s.name.size : Int) ≤ 30)) = g k := ⟨_, fun _ => rfl⟩
  have he0 : fewB l = g 0 := by rw [he, ← hg]; rfl
  rw [he0]
  simp only [hg] at hst hen
  clear hg he he0
  have h8' : ¬ (8 : Int) < l.length := by omega
  obtain ⟨n, Hn⟩ : ∃ n, Hid (l.length = n) := ⟨_, rfl⟩
  rw [Hn.out] at h8 h8' hen ⊢
  go_enter Tryd.func40, Tryd.ntmps40
  go_wp2
  go_loop [3] (fun i => ∃ k : Nat, k ≤ n ∧ i = .int .i64 k ∧ g 0 = g k) (fun i => n - (intOf i).toNat)
  case atStart => exact ⟨0, Nat.zero_le _, rfl, rfl⟩
  case round =>
    obtain ⟨k, hk, rfl, hi⟩ := hrel
    replace hi := Lib.hid hi
    by_cases hlt : k < n
    · have hx : l[k]? = some (l[k]'(by rw [Hn.out]; exact hlt)) := List.getElem?_eq_getElem _
      generalize l[k]'(by rw [Hn.out]; exact hlt) = x at hx
      have hs := hst.out k x hx
      obtain ⟨b, off, rfl, hc⟩ := Hs.out k x hx
      have c0 : w.cell? ⟨b, off + k * 4, none⟩ = some (.string x.name) := by simpa using hc 0 _ rfl
      clear hc hx
      by_cases hT : (x.name.size : Int) ≤ 30
      · have hT' : ¬ (30 : Int) < x.name.size := by omega
        have h2 : Hid (g k = g (k + 1)) := Lib.hid (by rw [hs]; simp [hT])
        clear hs hT
        go_wp2
        go_round
        case rel => exact ⟨k + 1, by omega, by go_num, by rw [hi.out, h2.out]⟩
        case measure => simp [intOf]; omega
      · have hT' : (30 : Int) < x.name.size := by omega
        have h2 : Hid (g k = false) := Lib.hid (by rw [hs]; simp [hT])
        clear hs hT
        go_wp2
        go_ret
        exact ⟨by rw [hi.out, h2.out] <;> rfl, rfl⟩
    · have e : k = n := by omega
      go_wp2
      go_ret
      exact ⟨by rw [hi.out, e, hen.out] <;> rfl, rfl⟩
theorem infoSm : (Tryd.prog.info? 82).map (fun i => (i.zero, i.size, i.bytes)) = some (some (.agg #[.string ByteArray.empty, .int .i64 0, .int .i64 0, .int .i64 0]), 4, 40) := by kernel_rfl
theorem r_CopyStreams (l : List Sm) (A : Option Addr) (c : Nat) (w : World) (hn : SmIn l A c w) : Calls Tryd.prog 44 #[.slice A l.length c] w (fun e w' => ∃ A2 c2, e = .returned (.slice A2 l.length c2) ∧ Below w.heap.size w w' ∧ SmIn l A2 c2 w') := by
  obtain ⟨i0, hi, hz0, hz1, hz2⟩ := info_parts infoSm
  have Hn := Lib.hid hn
  have hl := hn.len
  clear hn
  go_enter Tryd.func44, Tryd.ntmps44
  go_wp2_with (at_builtin; refine wpList_plain rfl fun _ hK => wp_copy (cs := cSm) (l := l) (A := A) (c := c) (g := w.heap.size) _ _ rfl Tryd.underlying74 hi hz0 hz1 hz2 rfl (by decide) (fun _ => rfl) (fun x u hu => by simp [cSm] at hu; rcases hu with h | h | h | h <;> subst h <;> rfl) rfl rfl (Hn.out.sl.below (bl_al _ (bl_refl _))) hl (by decide) (Blk.new w _ _) (fun A2 c2 w' ho hb => hK _ _ ?_))
  have hb2 : Below w.heap.size w w' := bl_tr (bl_al _ (bl_refl w)) hb
  replace ho := Lib.hid ho
  clear hb
  go_wp2
  go_ret
  refine ⟨A2, c2, rfl, hb2, Hn.out.len, ?_, Hn.out.nm, own_slC (cs := cSm) (fun _ => rfl) (by decide) ho.out⟩
  rcases ho.out.2 with ⟨e, h⟩ | ⟨_, _, _, e, _, _, h, _⟩
  · omega
  · injection e with _ _ e
    omega
theorem knownS_step (l : List Sm) (s : ByteArray) (j : Nat) (y : Sm) (hy : l[j]? = some y) : knownB ((l.take (j + 1)).map (·.name)) s = (knownB ((l.take j).map (·.name)) s || (y.name.toList == s.toList)) := by
  unfold knownB
  rw [List.take_add_one, hy]
  simp [List.any_append]
theorem knownS_hit (l : List Sm) (s : ByteArray) (j k : Nat) (y : Sm) (hy : l[j]? = some y) (hjk : j < k) (h : (y.name.toList == s.toList) = true) : knownB ((l.take k).map (·.name)) s = true := by
  unfold knownB
  rw [List.any_eq_true]
  refine ⟨y.name, ?_, h⟩
  have : (l.take k)[j]? = some y := by rw [List.getElem?_take, if_pos hjk]; exact hy
  exact List.mem_map.2 ⟨y, List.mem_of_getElem? this, rfl⟩
set_option maxHeartbeats 4000000 in
theorem r_CheckStreams (l : List Sm) (A : Option Addr) (c : Nat) (w : World) (hn : SmIn l A c w) :
    Calls Tryd.prog 94 #[.slice A l.length c] w (Ret (.tuple #[.int .i64 (smsChk l).1, .int .i64 (smsChk l).2]) w) := by
  have hN := Lib.hid hn
  have hr0 : Hid (lenE l.length 6 = fstE [unl (decide (0 < l.length)) 10, unl (decide ((l.length : Int) ≤ 6)) 8]) := rfl
  have hs1 : Hid (lenE l.length 6 = 0 → smsChk l = eachS (smErr l) l 0) := fun h => by rw [smsChk, if_pos h]
  have hs2 : Hid (lenE l.length 6 ≠ 0 → smsChk l = (0, lenE l.length 6)) := fun h => by rw [smsChk, if_neg h]
  clear hn
  obtain ⟨n, Hn⟩ : ∃ n, Hid (l.length = n) := ⟨_, rfl⟩
  rw [Hn.out] at hr0 hs1 hs2 ⊢
  by_cases h0 : n = 0
  · subst h0
    have e : smsChk l = (0, 10) := hs2.out (by decide)
    rw [e]
    go_enter Tryd.func94, Tryd.ntmps94
    go_wp2
    go_ret2
    exact ⟨rfl, bl_refl _⟩
  by_cases h6 : (n : Int) ≤ 6
  rotate_left
  · have e1 : lenE n 6 = 8 := by rw [hr0.out]; simp [fstE, unl, h6]; omega
    have e : smsChk l = (0, 8) := by rw [hs2.out (by rw [e1]; decide), e1]
    rw [e]
    have h0' : ((n : Int) == 0) = false := by simp; omega
    have h6' : (6 : Int) < n := by omega
    clear e e1 hr0 hs1 hs2
    go_enter Tryd.func94, Tryd.ntmps94
    go_wp2
    go_ret2
    exact ⟨rfl, bl_refl _⟩
  have e1 : lenE n 6 = 0 := by rw [hr0.out]; simp [fstE, unl, h6]; omega
  rw [hs1.out e1]
  have h0' : ((n : Int) == 0) = false := by simp; omega
  have h6' : ¬ (6 : Int) < n := by omega
  have hn6 : n ≤ 6 := by omega
  clear e1 hr0 hs1 hs2 h0 h6
  go_enter Tryd.func94, Tryd.ntmps94
  go_wp2
  clear h0' h6'
  go_loopw [4] (fun i wr => ∃ k : Nat, k ≤ n ∧ i = .int .i64 k ∧ Below w.heap.size w wr ∧ eachS (smErr l) l 0 = eachS (smErr l) (l.drop k) k) (fun i _ => n - (intOf i).toNat)
  case atStart => exact ⟨0, Nat.zero_le _, rfl, Below.refl _ _, rfl⟩
  case round =>
    obtain ⟨k, hk, rfl, hb0, hi⟩ := hrel
    replace hi := Lib.hid hi
    by_cases hlt : k < n
    · have hx : l[k]? = some (l[k]'(by rw [Hn.out]; exact hlt)) := List.getElem?_eq_getElem _
      generalize l[k]'(by rw [Hn.out]; exact hlt) = x at hx
      have hm : x ∈ l := List.mem_of_getElem? hx
      have hd := Lib.hid (eachS_drop (smErr l) l k x hx)
      have hnm := Lib.hid (hN.out.nm x hm)
      obtain ⟨b, off, hA, hc⟩ := hN.out.sl k x hx
      have hS : Hid (Sl cSm 4 w (some ⟨b, off, none⟩) l) := by rw [← hA]; exact hN.out.sl
      have c0 : wr.cell? ⟨b, off + k * 4, none⟩ = some (.string x.name) := by simpa using kcell hb0 (hc 0 _ rfl)
      have c1 : wr.cell? ⟨b, off + k * 4 + 1, none⟩ = some (.int .i64 x.per) := by simpa using kcell hb0 (hc 1 _ rfl)
      have c2 : wr.cell? ⟨b, off + k * 4 + 2, none⟩ = some (.int .i64 x.dl) := by simpa using kcell hb0 (hc 2 _ rfl)
      have c3 : wr.cell? ⟨b, off + k * 4 + 3, none⟩ = some (.int .i64 x.len) := by simpa using kcell hb0 (hc 3 _ rfl)
      have hre : smErr l k x = fstE [unl (nameB x.name) 4, unl (!knownB ((l.take k).map (·.name)) x.name) 5, unl (inR x.per 1 60 && (inR x.dl 1 x.per && inR x.len 1 20)) 2] := rfl
      clear hc hm hx
      obtain ⟨bn, h⟩ : ∃ b', nameB x.name = b' := ⟨_, rfl⟩
      have hcn := Lib.hid fun W : World => h ▸ r_IsName x.name W hnm.out
      rw [h] at hre
      clear h
      obtain ⟨ba, h⟩ : ∃ b', inR x.per 1 60 = b' := ⟨_, rfl⟩
      have hca := Lib.hid fun W : World => h ▸ r_Within x.per 1 60 W
      rw [h] at hre
      clear h
      obtain ⟨bb, h⟩ : ∃ b', inR x.dl 1 x.per = b' := ⟨_, rfl⟩
      have hcb := Lib.hid fun W : World => h ▸ r_Within x.dl 1 x.per W
      rw [h] at hre
      clear h
      obtain ⟨bc, h⟩ : ∃ b', inR x.len 1 20 = b' := ⟨_, rfl⟩
      have hcc := Lib.hid fun W : World => h ▸ r_Within x.len 1 20 W
      rw [h] at hre
      clear h
      subst hA
      obtain ⟨xn, xp, xd, xl⟩ := x
      dsimp only at *
      go_upto_region 9 with fail
      have hqw := hb0.size
      first
      | apply absB1 (w0 := w) (g0 := wr.heap.size)
      | apply absTB1 (w0 := w) (g0 := wr.heap.size)
      | apply absIB1 (w0 := w) (g0 := wr.heap.size)
      iterate 2 (focus ((with_reducible (repeat' (first | assumption | apply jA | apply jB | apply jC | apply jD | apply jE | apply jF | apply hb3 | apply jG | apply jH | apply jI | apply jJ | apply jK | apply hb3x | (apply jL; first | (simp; done) | rfl) | apply jM | apply jN | apply jO | apply jP | apply jQ | apply jR | apply jS | apply jT (hb := hb3 _ (jA _)) | omega | (simp; done) | (simp; omega) | (dsimp only; omega)))); done))
      intro wb hb0' k0'
      (try simp only [List.setIfInBounds_toArray, List.set_cons_zero, List.set_cons_succ] at k0')
      try clear hb3
      try clear hb0
      try clear k0
      have hb0 := hb0'; clear hb0'
      have k0 := k0'; clear k0'
      clear c0 c1 c2 c3
      have L0 := k0.cell
      cases bn
      · replace hre := Lib.hid hre
        go_wp2_with (go_at_call 114; (with_reducible refine (hcn.out _).mono ?_); rintro e w3 ⟨rfl, hb3⟩)
        go_ret2
        exact ⟨by rw [hi.out, hd.out, hre.out] <;> rfl, bl_tr hb0 hb3⟩
      go_upto_region 11 with (go_at_call 114; (with_reducible refine (hcn.out _).mono ?_); rintro e w3 ⟨rfl, hb3⟩)
      clear L0
      replace hb0 := bl_tr hb0 hb3
      replace k0 := k0.below hb3
      clear hb3 hcn
      go_wp2
      obtain ⟨wo, rfl⟩ : ∃ wo : World, wo = wr := ⟨_, rfl⟩
      go_loopw [6] (fun i wi => ∃ j : Nat, j ≤ k ∧ i = .int .i64 j ∧ Below w.heap.size w wi ∧ Blk wi wo.heap.size 82 #[.string xn, .int .i64 xp, .int .i64 xd, .int .i64 xl] ∧ knownB ((l.take j).map (·.name)) xn = false) (fun i _ => k - (intOf i).toNat)
      case atStart => exact ⟨0, Nat.zero_le _, rfl, hb0, k0, by simp [knownB]⟩
      case round =>
        clear hb0 k0
        obtain ⟨j, hj, rfl, hb0, k0, hkn⟩ := hrel
        replace hkn := Lib.hid hkn
        by_cases hjk : j < k
        · have hy : l[j]? = some (l[j]'(by rw [Hn.out]; omega)) := List.getElem?_eq_getElem _
          generalize l[j]'(by rw [Hn.out]; omega) = y at hy
          obtain ⟨b2, off2, e2, hc2⟩ := hS.out j y hy
          cases e2
          have d0 : ∀ W, Below wr.heap.size wr W → W.cell? ⟨b, off + j * 4, none⟩ = some (.string y.name) := later (by simpa using kcell hb0 (hc2 0 _ rfl))
          have hks := Lib.hid (knownS_step l xn j y hy)
          have hkh := Lib.hid (knownS_hit l xn j k y hy hjk)
          clear hc2 hy
          have hjn : (j : Int) < n := by omega
          have hjn2 : j < n := by omega
          go_upto_region 14 with fail
          have Lk0 := k0.later
          have Fk0 := k0.laterF
          have Qk0 := k0.lt
          refine wp_any (w0 := wr) ⟨[], [], [some 33, some 34, some 35, some 36, some 37, some 38, some 39, some 40], [[], [], [0, 1], [0, 1, 2], [0, 1, 2, 3], [], [5], [0, 1, 2, 3, 4, 5, 6]], [[], [], [0, 1], [2], [3], [], [5], [4, 6]]⟩ (fun _ => []) (by kernel_rfl) (by kernel_rfl) (by (with_reducible (repeat' (first | assumption | apply jA | apply jB | apply jC | apply jD | apply jE | apply jF | apply hb3 | omega | (simp; done) | (simp; omega) | (dsimp only; omega))))) (fun u => by simp only [putD, Act.put, List.setIfInBounds_toArray, List.set_cons_zero, List.set_cons_succ, Nat.zero_add, Nat.reduceAdd]; rfl) ?_
          apply RGW.on (i := 0) rfl
          · (simp only [gA, gB, gC] <;> rfl)
          · intro γ u W hcur hd
            clear hd
            (try dsimp only)
            refine ⟨rfl, ?_⟩
            go_simp <;> (try go_bits) <;> with_reducible rfl
          · exact fun _ _ _ => rfl
          · rfl
          dsimp only [nA, cA]
          apply RGW.on (i := 1) rfl
          · (simp only [gA, gB, gC] <;> rfl)
          · intro γ u W hcur hd
            clear hd
            (try dsimp only)
            refine ⟨rfl, ?_⟩
            go_simp <;> (try go_bits) <;> with_reducible rfl
          · exact fun _ _ _ => rfl
          · rfl
          dsimp only [nA, cA]
          apply RGW.on (i := 2) rfl
          · (simp only [gA, gB, gC] <;> rfl)
          · intro γ u W hcur hd
            obtain ⟨⟨h0, -, -⟩, ⟨h1, -, -⟩, -⟩ := hd
            dsimp only at h0 h1
            (try simp only [h0, h1])
            refine ⟨rfl, ?_⟩
            go_simp <;> (try go_bits) <;> with_reducible rfl
          · exact fun _ _ _ => rfl
          · rfl
          dsimp only [nA, cA]
          apply RGW.on (i := 3) rfl
          · (simp only [gA, gB, gC] <;> rfl)
          · intro γ u W hcur hd
            obtain ⟨⟨h2, -, -⟩, -⟩ := hd
            dsimp only at h2
            (try simp only [h2])
            refine ⟨rfl, ?_⟩
            go_simp <;> (try go_bits) <;> with_reducible rfl
          · exact fun _ _ _ => rfl
          · rfl
          dsimp only [nA, cA]
          apply RGW.on (i := 4) rfl
          · (simp only [gA, gB, gC] <;> rfl)
          · intro γ u W hcur hd
            obtain ⟨⟨h3, -, -⟩, -⟩ := hd
            dsimp only at h3
            (try simp only [h3])
            refine ⟨rfl, ?_⟩
            go_simp <;> (try go_bits) <;> with_reducible rfl
          · exact fun _ _ _ => rfl
          · rfl
          dsimp only [nA, cA]
          apply RGW.on (i := 5) rfl
          · (simp only [gA, gB, gC] <;> rfl)
          · intro γ u W hcur hd
            clear hd
            (try dsimp only)
            refine ⟨rfl, ?_⟩
            go_simp <;> (try go_bits) <;> with_reducible rfl
          · exact fun _ _ _ => rfl
          · rfl
          dsimp only [nA, cA]
          apply RGW.on (i := 6) rfl
          · (simp only [gA, gB, gC] <;> rfl)
          · intro γ u W hcur hd
            obtain ⟨⟨h5, -, -⟩, -⟩ := hd
            dsimp only at h5
            (try simp only [h5])
            refine ⟨rfl, ?_⟩
            go_simp <;> (try go_bits) <;> with_reducible rfl
          · exact fun _ _ _ => rfl
          · rfl
          dsimp only [nA, cA]
          apply RGW.on (i := 7) rfl
          · (simp only [gA, gB, gC] <;> rfl)
          · intro γ u W hcur hd
            obtain ⟨⟨h4, -, -⟩, ⟨h6, -, -⟩, -⟩ := hd
            dsimp only at h4 h6
            (try simp only [h4, h6])
            refine ⟨rfl, ?_⟩
            go_simp <;> (try go_bits) <;> with_reducible rfl
          · exact fun _ _ _ => rfl
          · rfl
          dsimp only [nA, cA]
          refine RGW.fin (fun γ u wj hwj hd hdis => ?_)
          obtain ⟨⟨h0, -, -⟩, ⟨h1, -, -⟩, ⟨h2, -, -⟩, ⟨h3, -, -⟩, ⟨h4, -, -⟩, ⟨h5, -, -⟩, ⟨h6, -, -⟩, ⟨h7, -, -⟩, -⟩ := hd
          dsimp only at h0 h1 h2 h3 h4 h5 h6 h7
          clear hdis
          simp only [h0, h1, h2, h3, h4, h5, h6, h7]
          clear h7 h6 h5 h4 h3 h2 h1 h0
          clear u
          simp only [List.map_nil]
          refine PlanW.done ?_
          have hb3 := bl_tt hwj
          have hbj := bl_tr hb0 hwj
          have kj := k0.below hwj
          cases hyx : y.name.toList == xn.toList
          · go_wp2
            go_roundw
            case rel => exact ⟨j + 1, by omega, by go_num, hbj, kj, by rw [hks.out, hkn.out, hyx]; rfl⟩
            case measure => simp [intOf]; omega
          · rw [hkh.out hyx] at hre
            replace hre := Lib.hid hre
            go_wp2
            go_ret2
            exact ⟨by rw [hi.out, hd.out, hre.out] <;> rfl, hbj⟩
        · obtain rfl : j = k := by omega
          rw [hkn.out] at hre
          have L0 := k0.cell
          cases ba
          · replace hre := Lib.hid hre
            go_wp2_with (go_at_call 21; (first | (with_reducible refine (hca.out _).mono ?_) | (with_reducible refine (hcb.out _).mono ?_) | (with_reducible refine (hcc.out _).mono ?_)); rintro e w3 ⟨rfl, rfl⟩)
            go_ret2
            exact ⟨by rw [hi.out, hd.out, hre.out] <;> rfl, hb0⟩
          cases bb
          · replace hre := Lib.hid hre
            go_wp2_with (go_at_call 21; (first | (with_reducible refine (hca.out _).mono ?_) | (with_reducible refine (hcb.out _).mono ?_) | (with_reducible refine (hcc.out _).mono ?_)); rintro e w3 ⟨rfl, rfl⟩)
            go_ret2
            exact ⟨by rw [hi.out, hd.out, hre.out] <;> rfl, hb0⟩
          cases bc
          · replace hre := Lib.hid hre
            go_wp2_with (go_at_call 21; (first | (with_reducible refine (hca.out _).mono ?_) | (with_reducible refine (hcb.out _).mono ?_) | (with_reducible refine (hcc.out _).mono ?_)); rintro e w3 ⟨rfl, rfl⟩)
            go_ret2
            exact ⟨by rw [hi.out, hd.out, hre.out] <;> rfl, hb0⟩
          replace hre := Lib.hid hre
          go_wp2_with (go_at_call 21; (first | (with_reducible refine (hca.out _).mono ?_) | (with_reducible refine (hcb.out _).mono ?_) | (with_reducible refine (hcc.out _).mono ?_)); rintro e w3 ⟨rfl, rfl⟩)
          go_roundw
          case rel => exact ⟨j + 1, by omega, by go_num, hb0, by rw [hi.out, hd.out, hre.out] <;> rfl⟩
          case measure => simp [intOf]; omega
    · go_wp2
      go_ret2
      have : k = l.length := by have := Hn.out; omega
      exact ⟨by rw [hi.out, this]; simp [eachS], hb0⟩
theorem r_StreamsErr (l : List Sm) (A : Option Addr) (c : Nat) (w : World) (hn : SmIn l A c w) : Calls Tryd.prog 41 #[.slice A l.length c] w (Ret (.int .i64 (smsErr l)) w) := by
  have hcall := Lib.hid (r_CheckStreams l A c w hn)
  have he : Hid ((smsChk l).2 = smsErr l) := rfl
  clear hn
  generalize l.length = n at *
  go_enter Tryd.func41, Tryd.ntmps41
  go_wp2_with fail
  refine hcall.out.mono ?_
  rintro e w3 ⟨rfl, hb3⟩
  go_wp2
  go_ret
  exact ⟨by rw [he.out] <;> rfl, hb3⟩
end Go.Proofs.YtdlmkblmljhbfaaDoor
namespace Go.Proofs.YtdlmkblmljhbfaaDoor
set_option linter.unusedSimpArgs false
set_option linter.unusedVariables false
def Fu.con (f : Fu) : ByteArray × List (List Int) := (f.name, f.ws.map fun r : Rw => r.l)
def Md.con (m : Md) : ByteArray × List Int := (m.name, m.r.l)
/-- Two nets say the same. -/
structure NtEq (n m : Nt) : Prop where
  ps : m.ps = n.ps
  fs : m.fs.map Fu.con = n.fs.map Fu.con
  ms : m.ms.map Md.con = n.ms.map Md.con
theorem NtEq.refl (n : Nt) : NtEq n n := ⟨rfl, rfl, rfl⟩
theorem NtEq.flen {n m : Nt} (h : NtEq n m) : m.fs.length = n.fs.length := by have := congrArg List.length h.fs; simpa using this
theorem NtEq.mlen {n m : Nt} (h : NtEq n m) : m.ms.length = n.ms.length := by have := congrArg List.length h.ms; simpa using this
theorem eachS_map {α β : Type} (g : α → β) (err : Nat → β → Int) : ∀ (l : List α) (k : Nat), eachS (fun k x => err k (g x)) l k = eachS err (l.map g) k
  | [], _ => rfl
  | x :: l, k => by
    simp only [eachS, List.map_cons]
    rw [eachS_map g err l (k + 1)]
def wayC (parts : Int) (e : Int) (ws : List (List Int)) : Int := ws.foldl (fun e w => fstE [e, unl (decide (0 < w.length)) 10, idxErr w parts]) e
def fuErrC (parts : Int) (names : List ByteArray) (i : Nat) (f : ByteArray × List (List Int)) : Int :=
  wayC parts (fstE [nmErr names i f.1, unl (decide (0 < f.2.length)) 10, unl (decide ((f.2.length : Int) ≤ 6)) 8]) f.2
def mdErrC (funs : Int) (names : List ByteArray) (i : Nat) (m : ByteArray × List Int) : Int := fstE [nmErr names i m.1, idxErr m.2 funs]
theorem waysE_con (parts e : Int) (ws : List Rw) : waysE parts e ws = wayC parts e (ws.map fun r : Rw => r.l) := by
  unfold waysE wayC
  rw [List.foldl_map]
theorem fuErr_con (parts : Int) (names : List ByteArray) : fuErr parts names = fun i f => fuErrC parts names i f.con := by
  funext i f
  unfold fuErr fuErrC Fu.con
  rw [waysE_con]
  simp
theorem mdErr_con (funs : Int) (names : List ByteArray) : mdErr funs names = fun i f => mdErrC funs names i f.con := rfl
theorem NtEq.fnames {n m : Nt} (h : NtEq n m) : (m.fs.map fun f : Fu => f.name) = n.fs.map fun f : Fu => f.name := by
  have := congrArg (List.map Prod.fst) h.fs
  rw [List.map_map, List.map_map] at this
  exact this
theorem NtEq.mnames {n m : Nt} (h : NtEq n m) : (m.ms.map fun f : Md => f.name) = n.ms.map fun f : Md => f.name := by
  have := congrArg (List.map Prod.fst) h.ms
  rw [List.map_map, List.map_map] at this
  exact this
theorem NtEq.chk {n m : Nt} (h : NtEq n m) : netChk m = netChk n := by
  have e0 : m.e0 = n.e0 := by
    unfold Nt.e0
    rw [h.ps, h.flen, h.mlen]
  have e1 : eachS (fuErr m.ps.length (m.fs.map fun f : Fu => f.name)) m.fs 0 = eachS (fuErr n.ps.length (n.fs.map fun f : Fu => f.name)) n.fs 0 := by
    rw [fuErr_con, fuErr_con, eachS_map Fu.con, eachS_map Fu.con, h.fs, h.ps, h.fnames]
  have e2 : eachS (mdErr m.fs.length (m.ms.map fun f : Md => f.name)) m.ms 0 = eachS (mdErr n.fs.length (n.ms.map fun f : Md => f.name)) n.ms 0 := by
    rw [mdErr_con, mdErr_con, eachS_map Md.con, eachS_map Md.con, h.ms, h.flen, h.mnames]
  unfold netChk
  rw [e0, e1, e2, h.ps]
theorem NtEq.err {n m : Nt} (h : NtEq n m) : netErr m = netErr n := by unfold netErr; rw [h.chk]
theorem worksB_con {f g : Fu} (h : f.con = g.con) (s : Nat) : worksB f s = worksB g s := by
  have h2 : (f.ws.map fun r : Rw => r.l) = g.ws.map fun r : Rw => r.l := congrArg Prod.snd h
  have e : ∀ u : Fu, worksB u s = (u.ws.map fun r : Rw => r.l).any fun l => setN l &&& s == 0 := fun u => by
    unfold worksB
    rw [List.any_map]
    rfl
  rw [e, e, h2]
theorem NtEq.fget {n m : Nt} (h : NtEq n m) {k : Nat} {f : Fu} (hf : n.fs[k]? = some f) : ∃ g, m.fs[k]? = some g ∧ g.con = f.con := by
  have h1 := congrArg (fun l => l[k]?) h.fs
  simp only [List.getElem?_map, hf, Option.map_some] at h1
  cases hg : m.fs[k]? with
  | none => rw [hg] at h1; cases h1
  | some g => rw [hg] at h1; exact ⟨g, rfl, by injection h1⟩
theorem NtEq.mget {n m : Nt} (h : NtEq n m) {k : Nat} {f : Md} (hf : n.ms[k]? = some f) : ∃ g, m.ms[k]? = some g ∧ g.con = f.con := by
  have h1 := congrArg (fun l => l[k]?) h.ms
  simp only [List.getElem?_map, hf, Option.map_some] at h1
  cases hg : m.ms[k]? with
  | none => rw [hg] at h1; cases h1
  | some g => rw [hg] at h1; exact ⟨g, rfl, by injection h1⟩
theorem NtEq.symm {n m : Nt} (h : NtEq n m) : NtEq m n := ⟨h.ps.symm, h.fs.symm, h.ms.symm⟩
theorem cutTo_con {f g : Fu} (h : f.con = g.con) (b : Nat) : ∀ k, cutTo f b k = cutTo g b k
  | 0 => rfl
  | k + 1 => by rw [cutTo, cutTo, cutTo_con h b k, worksB_con h]
theorem cutS_con {f g : Fu} (h : f.con = g.con) (p : Nat) : cutS f p = cutS g p := cutTo_con h _ _
theorem workN_con {a b : List Fu} (h : a.map Fu.con = b.map Fu.con) (s : Nat) : ∀ k, workN a s k = workN b s k
  | 0 => rfl
  | k + 1 => by
    rw [workN, workN, workN_con h s k]
    have h1 := congrArg (fun l => l[k]?) h
    simp only [List.getElem?_map] at h1
    cases ha : a[k]? with
    | none =>
      rw [ha] at h1
      cases hb : b[k]? with
      | none => rfl
      | some y => rw [hb] at h1; cases h1
    | some x =>
      rw [ha] at h1
      cases hb : b[k]? with
      | none => rw [hb] at h1; cases h1
      | some y =>
        rw [hb] at h1
        have : x.con = y.con := by injection h1
        simp only [worksB_con this]
end Go.Proofs.YtdlmkblmljhbfaaDoor
namespace Go.Proofs.YtdlmkblmljhbfaaDoor
set_option linter.unusedSimpArgs false
set_option linter.unusedVariables false
open Go.RowKit
set_option maxRecDepth 20000
/-- The block of a slice, if it has one. -/
def ownL (v : Value) : List Nat := v.ownBlock.toList
section
variable {P : Program} {w : World}
theorem run_append_own3 (base : Nat) (t ty e : TypeId) (i : TypeInfo) (z : Value) (size bytes : Nat) (ht : P.underlying t = some (.slice e)) (hi : P.info? e = some i) (hz : i.zero = some z)
    (hsize : i.size = size) (hby : i.bytes = bytes) (hzs : z.cells.size = size) (hsz : 0 < size)
    (v : Value) (n : Nat) (xs : List Value) (hown : w.ownsRow base e size v n xs)
    (a : Addr) (m c : Nat) (news : List Value) (hl : news.length = m * size) (hnews : ∀ j u, news[j]? = some u → w.cell? (a.add j) = some u) (h1 : ∀ u ∈ news, u.oneCell' = true)
    (h63 : n + m ≤ maxLen) (hbytes : (n + m) * bytes ≤ 140737488355328) (hbase : base ≤ w.heap.size) :
    ∃ v' w', (Builtin.append_ #[t, t] ty #[v, .slice (some a) m c]).run P w = .ok v' w' ∧ w'.ownsRow base e size v' (n + m) (xs ++ news) ∧ BX (ownL v) w w' ∧
      ∀ k, v'.ownBlock = some k → v.ownBlock = some k ∨ w.heap.size ≤ k := by
  obtain ⟨v', w', hr, h2, h3, h4⟩ := run_append_own2 (P := P) base t ty e i z size bytes ht hi hz hsize hby hzs hsz v n xs hown a m c news hl hnews h1 h63 hbytes hbase
  refine ⟨v', w', hr, h2, ?_, h4⟩
  rcases hown.2 with ⟨rfl, rfl⟩ | ⟨g, cap, cur, rfl, hbg, hg, hnc, hcm, hcs, htake⟩
  · exact bx_bl _ ⟨h3.os, h3.tape, h3.output, h3.size, fun k hk => h3.block k hk (by simp [Value.ownBlock])⟩
  · subst hsize
    refine ⟨h3.os, h3.tape, h3.output, h3.size, fun k hk hX => h3.block k hk (fun e => hX (by simp [ownL, ← e])), fun b hb t' cs' hk => ?_⟩
    obtain rfl : b = g := by simpa [ownL, Value.ownBlock, eq_comm] using hb
    have hk2 : (Obj.cells cs' t' (0, 0)) = .cells cur e (0, 0) := by
      have : w.heap[b]? = some (.cells cs' t' (0, 0)) := hk
      rw [hg] at this
      injection this with this
      exact this.symm
    injection hk2 with e1 e2 _
    subst e1 e2
    by_cases hroom : n + m ≤ cap
    · have hfit : n * i.size + news.length ≤ cs'.size := by rw [hl, hcs, ← Nat.add_mul]; exact Nat.mul_le_mul_right _ hroom
      have hr2 := run_append_room (P := P) w t ty t' i ht hi b n cap cs' hg a m c news hl hnews h1 hroom hfit
      rw [hr] at hr2
      injection hr2 with e1 e2
      subst e2
      refine ⟨_, setRow_heap w b _ _ _ _ hg, ?_⟩
      simp
      omega
    · have holds : ∀ j u, xs[j]? = some u → w.cell? ((⟨b, 0, none⟩ : Addr).add j) = some u := hown.cells (g := b) rfl
      have hsmall : n + m ≤ 9223372036854775807 := by simp only [maxLen] at h63; omega
      subst hby
      have hr2 := run_append_grow (P := P) w t ty t' i z ht hi hz ⟨b, 0, none⟩ n cap xs hown.1 holds a m c news hl hnews (by omega) (by omega) (growslice_fits (by omega) hbytes)
      rw [hr] at hr2
      injection hr2 with e1 e2
      subst e2
      exact ⟨cs', (bl_al _ (bl_drew (bl_refl w))).block b hk.lt |>.trans hk, rfl⟩
theorem wp_appT {o : Oper} {a : Act} {K : Act → World → Prop} {Q : Exit → Act → World → Prop} (s x : Operand) {t e : TypeId} {i : TypeInfo} {z : Value} {size bytes base g : Nat} (ho : o.op = .call { callee := .builtin .append, args := #[s, x], argTypes := #[t, t] })
    (ht : P.underlying t = some (.slice e)) (hi : P.info? e = some i) (hz : i.zero = some z) (hsize : i.size = size) (hby : i.bytes = bytes) (hzs : z.cells.size = size) (hsz : 0 < size)
    (v : Value) (n : Nat) (xs news : List Value) (hs' : a.eval s = v) (hx : a.eval x = .slice (some ⟨g, 0, none⟩) 1 1) (hown : w.ownsRow base e size v n xs) (hg : Blk w g e news.toArray) (hl : news.length = size) (h1 : ∀ u ∈ news, u.oneCell' = true)
    (h63 : n + 1 ≤ maxLen) (hbytes : (n + 1) * bytes ≤ 140737488355328) (hbase : base ≤ w.heap.size)
    (h : ∀ v' w', w'.ownsRow base e size v' (n + 1) (xs ++ news) → BX (ownL v) w w' → (∀ k, v'.ownBlock = some k → v.ownBlock = some k ∨ w.heap.size ≤ k) → K (a.put o.dst v') w') : o.wp P a w K Q := by
  have hnews : ∀ j u, news[j]? = some u → w.cell? ((⟨g, 0, none⟩ : Addr).add j) = some u := by
    intro j u hj
    have hadd : (⟨g, 0, none⟩ : Addr).add j = ⟨g, j, none⟩ := by unfold Addr.add; split <;> simp_all
    rw [hadd, hg.cell]
    simpa using hj
  obtain ⟨v', w', hr, h2, h3, h4⟩ := run_append_own3 (P := P) base t o.type e i z size bytes ht hi hz hsize hby hzs hsz v n xs hown ⟨g, 0, none⟩ 1 1 news (by rw [hl, Nat.one_mul]) hnews h1 h63 hbytes hbase
  unfold Oper.wp execOp
  simp only [ho, resolve, invoke, builtin, Sem.run_bind, Sem.run_pure, Result.andThen_ok, List.map_toArray, List.map_cons, List.map_nil, hs', hx, hr]
  exact h _ _ h2 h3 h4
end
theorem own_bxT {W W' : World} {base n size : Nat} {e : TypeId} {v : Value} {xs : List Value} {X : List Nat} (h : W.ownsRow base e size v n xs) (hb : BX X W W') (hX : ∀ k, v.ownBlock = some k → k ∉ X) : W'.ownsRow base e size v n xs := by
  refine ⟨h.1, ?_⟩
  rcases h.2 with h1 | ⟨g, cap, cur, rfl, hbg, hg, hnc, hcm, hcs, htake⟩
  · exact .inl h1
  · refine .inr ⟨g, cap, cur, rfl, hbg, ?_, hnc, hcm, hcs, htake⟩
    rw [hb.block g (Array.getElem?_eq_some_iff.1 hg).1 (hX g rfl)]
    exact hg
theorem ownL_ge {w : World} {base n size : Nat} {e : TypeId} {v : Value} {xs : List Value} (h : w.ownsRow base e size v n xs) : ∀ g ∈ ownL v, base ≤ g := fun g hg => by
  unfold ownL at hg
  cases hv : v.ownBlock with
  | none => rw [hv] at hg; simp at hg
  | some k =>
    rw [hv] at hg
    obtain rfl : g = k := by simpa using hg
    exact own_ge h g hv
end Go.Proofs.YtdlmkblmljhbfaaDoor
