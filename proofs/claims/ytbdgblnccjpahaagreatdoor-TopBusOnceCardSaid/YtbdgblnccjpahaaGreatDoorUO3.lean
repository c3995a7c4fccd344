/-
  Behind the assignments to a range's left sides: what is known of the body's first world.
  A loop over a closure that is an iterator, whose rounds may turn the caller's own blocks X, and rows of a type of their own (an append in place to a row that an earlier round made).
  A loop over a closure that is an iterator, whose rounds may end the loop: the iterator turns blocks Y of its own between the rounds, a round turns the caller's blocks X and whatever cells lie at D and above.
  DERIVED: THE SHELF's CONTRACTS AT THIS DUMP, IN PLAIN WORDS (tools/lay-plain.mjs out of 'TryzShelf.lean', which tools/lay-shelf.mjs wrote): THE SAME DECLARATIONS UNDER THE SAME NAMES: 'import', 'namespace', 'open', 'def', 'theorem' AND NOTHING ELSE: no command of the shelf's: FOR A HAND-IN. Each laying: the table of numbers ('.._ren') and one theorem, a field a fact of the dump's own or the kernel's comparison; each contract: ONE APPLICATION.
  What chapter 7 computes, as plain functions on numbers and lists: frames, streams, nets. Nothing here speaks of the program.
-/
import Derived.Test.YtbdgblnccjpahaaGreatDoorUO2
import Derived.Shelf.Strings.Builder1
import Derived.Shelf.Strings.Builder2
import Derived.Shelf.Strings.OnBuilder
import Derived.Shelf.Strconv.Atoi
import Derived.Shelf.Strconv.Itoa0
import Derived.Shelf.Strconv.Itoa1
import Derived.Shelf.LaysM
import Derived.Shelf.Strconv.Itoa2
import Derived.Shelf.Strconv.Itoa3
import Derived.Shelf.Strconv.AtoiErrFast
import Derived.Shelf.Strconv.ParseIntEmpty
import Derived.Shelf.Strconv.AtoiFail
import Derived.Shelf.Strconv.Clone
import Derived.Shelf.Strconv.SyntaxError
import Derived.Shelf.LaysC
import Derived.Shelf.Strconv.ToError
import Derived.Shelf.Strconv.Lower
import Derived.Shelf.Strconv.ParseUint10
import Derived.Shelf.Strconv.ParseUint10Empty
import Derived.Shelf.Strconv.ParseUint10Any
import Derived.Shelf.Strconv.ParseInt10
import Derived.Shelf.Strconv.AtoiLong
import Derived.Shelf.Strconv.AtoiInnerAll
import Derived.Shelf.Strconv.RangeError
import Derived.Shelf.Strconv.ToErrorRange
import Derived.Shelf.Strconv.AtoiAll
import Derived.Shelf.Strconv.ErrVarAll
import Derived.Shelf.Strings.Search1
import Derived.Shelf.Strings.Search2
import Derived.Shelf.Strings.Search3
import Derived.Shelf.Strings.Cut
import Derived.Shelf.Strings.Count
import Derived.Shelf.Strings.Shaped
import Derived.Shelf.Strings.Split
import Derived.Shelf.Unicode.DecodeSlow
import Derived.Shelf.Slices.Turned
import Derived.Test.YtbdgblnccjpahaaGreatDoorProg
import GoSem.Core.Value
set_option linter.unusedSimpArgs false
set_option linter.unusedVariables false
namespace Go.Proofs.YtbdgblnccjpahaaGreatDoor
open Go.RowKit
section
variable {P : Program} {w0 w W0 : World} {a : Act} {F : Fence} {n D : Nat} {c : Code} {Q : World → Exit → Act → World → Prop} {X : List Nat}

theorem absPMB1 {m : Nat} {fn : Func} {R : Ending → World → Prop} {x : Exit} {g0 : Nat} {t0 : TypeId} {c0 : Array Value} (hb : Below w0.heap.size w0 w) (k0 : Blk w g0 t0 c0) (h : ∀ W, Below w0.heap.size w0 W → Blk W g0 t0 c0 → bodyPostM F m P fn R x a W) : bodyPostM F m P fn R x a w := h w hb k0
theorem absPMB2 {m : Nat} {fn : Func} {R : Ending → World → Prop} {x : Exit} {g0 g1 : Nat} {t0 t1 : TypeId} {c0 c1 : Array Value} (hb : Below w0.heap.size w0 w) (k0 : Blk w g0 t0 c0) (k1 : Blk w g1 t1 c1) (h : ∀ W, Below w0.heap.size w0 W → Blk W g0 t0 c0 → Blk W g1 t1 c1 → bodyPostM F m P fn R x a W) : bodyPostM F m P fn R x a w := h w hb k0 k1
theorem postM_ret {m : Nat} {fn : Func} {R : Ending → World → Prop} {v : Value} {ts : Array Value} (hr : (results fn ts).run P w = .ok v w) (h : R (.returned v) w) : bodyPostM F m P fn R .ret { tmps := ts, defers := [] } w := ⟨v, hr, h⟩
/-- The return behind a range over a function: the block for its rounds' deferred calls is empty. -/
theorem postM_taken {m : Nat} {fn : Func} {R : Ending → World → Prop} {v : Value} {ts : Array Value} (hK : w.heap[D]? = some (.deferred (some []))) (hr : (results fn ts).run P (w.putObj D (.deferred none)) = .ok v (w.putObj D (.deferred none)))
    (h : R (.returned v) (w.putObj D (.deferred none))) : bodyPostM F m P fn R .ret { tmps := ts, defers := [{ target := .collected D, args := #[] }] } w :=
  ⟨by simp, .inl ⟨_, _, rfl, run_takeDeferred hK, ⟨v, hr, h⟩⟩⟩
theorem bx_below {A B : World} (hb : Below w.heap.size w A) (h : BX X A B) (hX : ∀ x ∈ X, w.heap.size ≤ x) : Below w.heap.size w B :=
  ⟨h.os.trans hb.os, h.tape.trans hb.tape, h.output.trans hb.output, Nat.le_trans hb.size h.size, fun k hk => (h.block k (Nat.lt_of_lt_of_le hk hb.size) (fun e => by have := hX k e; omega)).trans (hb.block k hk)⟩
end
end Go.Proofs.YtbdgblnccjpahaaGreatDoor
namespace Go.Proofs.YtbdgblnccjpahaaGreatDoor
open Go.RowKit
/-- An object that is no map. -/
def noMap : Obj → Bool
  | .map _ _ => false
  | _ => true
/-- Since A whatever is no map lies as it lay, and whatever lay below D. -/
structure MK (D : Nat) (A B : World) : Prop where
  os : B.os = A.os
  tape : B.tape = A.tape
  output : B.output = A.output
  size : A.heap.size ≤ B.heap.size
  keep : ∀ k o, A.heap[k]? = some o → (k < D ∨ noMap o = true) → B.heap[k]? = some o
theorem MK.refl (D : Nat) (A : World) : MK D A A := ⟨rfl, rfl, rfl, Nat.le_refl _, fun _ _ h _ => h⟩
theorem MK.trans {D : Nat} {A B C : World} (h : MK D A B) (k : MK D B C) : MK D A C :=
  ⟨k.os.trans h.os, k.tape.trans h.tape, k.output.trans h.output, Nat.le_trans h.size k.size, fun i o hi hu => k.keep i o (h.keep i o hi hu) hu⟩
theorem MK.of_below {D : Nat} {A B : World} (h : Below A.heap.size A B) : MK D A B :=
  ⟨h.os, h.tape, h.output, h.size, fun k _ hk _ => (h.block k (Array.getElem?_eq_some_iff.1 hk).1).trans hk⟩
theorem MK.ck {D : Nat} {A B : World} (h : MK D A B) : CK D A B :=
  ⟨h.os, h.tape, h.output, h.size, fun k o hk hu => h.keep k o hk (by
    rcases hu with hu | hu
    · exact .inl hu
    · right
      cases o <;> first | rfl | cases hu)⟩
/-- Since A a round turned nothing but the blocks X, and rows of e at D and above. -/
structure RX (D : Nat) (e : TypeId) (X : List Nat) (A B : World) : Prop where
  os : B.os = A.os
  tape : B.tape = A.tape
  output : B.output = A.output
  size : A.heap.size ≤ B.heap.size
  keep : ∀ k o, A.heap[k]? = some o → k ∉ X → (k < D ∨ ∀ cs, o ≠ .cells cs e (0, 0)) → B.heap[k]? = some o
theorem RX.refl (D : Nat) (e : TypeId) (X : List Nat) (A : World) : RX D e X A A := ⟨rfl, rfl, rfl, Nat.le_refl _, fun _ _ h _ _ => h⟩
theorem RX.trans {D : Nat} {e : TypeId} {X : List Nat} {A B C : World} (h : RX D e X A B) (k : RX D e X B C) : RX D e X A C :=
  ⟨k.os.trans h.os, k.tape.trans h.tape, k.output.trans h.output, Nat.le_trans h.size k.size, fun i o hi hX hu => k.keep i o (h.keep i o hi hX hu) hX hu⟩
theorem RX.of_below {D : Nat} {e : TypeId} {X : List Nat} {A B : World} (h : Below A.heap.size A B) : RX D e X A B :=
  ⟨h.os, h.tape, h.output, h.size, fun k _ hk _ _ => (h.block k (Array.getElem?_eq_some_iff.1 hk).1).trans hk⟩
theorem RX.of_bx {D : Nat} {e : TypeId} {X : List Nat} {A B : World} (h : BX X A B) : RX D e X A B :=
  ⟨h.os, h.tape, h.output, h.size, fun k _ hk hX _ => (h.block k (Array.getElem?_eq_some_iff.1 hk).1 hX).trans hk⟩
theorem RX.wider {D : Nat} {e : TypeId} {X : List Nat} {A B : World} (r : Nat) (h : RX D e X A B) : RX D e (r :: X) A B :=
  ⟨h.os, h.tape, h.output, h.size, fun k o hk hX hu => h.keep k o hk (fun m => hX (List.mem_cons_of_mem _ m)) hu⟩
theorem RX.drop {D : Nat} {e : TypeId} {X : List Nat} {A B : World} {r : Nat} (h : RX D e (r :: X) A B) (he : B.heap[r]? = A.heap[r]?) : RX D e X A B :=
  ⟨h.os, h.tape, h.output, h.size, fun k o hk hX hu => by
    by_cases e' : k = r
    · rw [e', he, ← e', hk]
    · exact h.keep k o hk (by simp [e', hX]) hu⟩
theorem rx_loop {D : Nat} {e : TypeId} {X : List Nat} {A : World} {r : Nat} (o' : Obj) : RX D e (r :: X) A (A.putObj r o') :=
  ⟨rfl, rfl, rfl, by simp, fun k o hk hX _ => (World.putObj_heap_other (fun e => hX (by simp [e]))).trans hk⟩
theorem RX.noRow {D : Nat} {e : TypeId} {X : List Nat} {A B : World} {k : Nat} {o : Obj} (h : RX D e X A B) (hk : A.heap[k]? = some o) (hX : k ∉ X) (ho : ∀ cs, o ≠ .cells cs e (0, 0)) : B.heap[k]? = some o := h.keep k o hk hX (.inr ho)
def GoesR {α : Type} (D : Nat) (e : TypeId) (X : List Nat) (I : List α → World → Prop) (xs : List α) (W : World) : Exit → Act → World → Prop
  | .normal, _, W' => RX D e X W W' ∧ I xs W'
  | _, _, _ => False
/-- What an iterator promises that lies ready in closure gf: it yields xs in their order, each by values that stand for it. -/
def Yields (P : Program) {α : Type} (D : Nat) (e : TypeId) (X : List Nat) (gf : Nat) (lb : Array Value) (Enc : α → Array Value → World → Prop) (xs : List α) (W0 : World) : Prop :=
  ∀ (l : Nat) (J : List α → World → Prop) (W : World), Below D W0 W → (∀ s A B, J s A → MK D A B → J s B) →
    (∀ pre x args W1, J pre W1 → pre ++ [x] <+: xs → Enc x args W1 → YieldAt Fence.wide 4 P l args W1 fun ε W' => ε = .returned (.bool true) ∧ J (pre ++ [x]) W' ∧ RX D e X W1 W') →
    J [] W → CallsIn Fence.wide 5 P gf (#[.func (.yield l) #[] #[]] ++ lb) W fun ε W' => (∃ v, ε = .returned v) ∧ J xs W'
theorem wp_range3 {P : Program} {α : Type} {g : Operand} {ps : Array Tmp} {assign body : Code} {Q : Exit → Act → World → Prop} {a : Act} {w : World} {gf : Nat} {lb : Array Value}
    (hg : a.eval g = .func (.func gf) #[] lb) (eg : ∀ args w, (callFunc gf args).run P w = .ok (.enter gf args) w) {Enc : α → Array Value → World → Prop} {xs : List α} (e : TypeId) (X : List Nat)
    (hseq : Yields P w.heap.size e X gf lb Enc xs w)
    (hps : ∀ x args W, Enc x args W → args.size = ps.size) (hX : ∀ x ∈ X, x < w.heap.size)
    (I : List α → World → Prop) (hI : ∀ s A B, I s A → CK w.heap.size A B → I s B)
    (h0 : I [] w)
    (hround : ∀ l pre x args W, I pre W → pre ++ [x] <+: xs → Enc x args W → assign.wpIn (Fence.wide.inRound l) 4 P
      (Exit.then (fun a1 W1 => RX w.heap.size e X W W1 ∧ ∀ W2, CK w.heap.size W1 W2 → body.wpIn (Fence.wide.inRound l) 4 P (GoesR w.heap.size e X I (pre ++ [x]) W2) a1 W2) (fun _ _ _ => False))
      { tmps := (ps.zip args).foldl (fun t (p, v) => t.setIfInBounds p v) a.tmps, defers := [] } W)
    (hdone : ∀ W, I xs W → W.heap[w.heap.size]? = some (.deferred (some [])) → Q .normal { a with defers := { target := .collected w.heap.size, args := #[] } :: a.defers } W) :
    (Code.rangeFunc g ps assign body).wp P Q a w := by
  refine (wpIn_wide (n := 6)).1 (wpIn_rangeFunc ?_)
  intro fn _
  rw [Fence.wide_round]
  obtain ⟨rec, hrec⟩ : ∃ rec : LoopState → Loop, rec = fun st => { state := st, pending := none, fn, tmps := a.tmps, params := ps, assign, body, defers := w.heap.size } := ⟨_, rfl⟩
  have hst : ∀ s, (rec s).state = s := fun s => by rw [hrec]
  have hpd : ∀ s, (rec s).pending = none := fun s => by rw [hrec]
  have hsp : ∀ s, (rec s).params = ps := fun s => by rw [hrec]
  have hup : ∀ s s' , { rec s with state := s' } = rec s' := fun s s' => by rw [hrec]
  have hen : ∀ s s', ({ rec s with state := s', pending := none } : Loop) = rec s' := fun s s' => by rw [hrec]
  have hrun := run_enterLoop_outer (P := P) (w := w) fn a.tmps ps assign body
  obtain ⟨W1, hW1⟩ : ∃ W1, (w.alloc (.deferred (some []))).alloc (.loop (rec .ready)) = W1 := ⟨_, rfl⟩
  have hb1 : Below w.heap.size w W1 := by
    rw [← hW1]; exact ((Below.refl _ w).alloc (Nat.le_refl _) _).alloc (by simp) _
  have hs1 : W1.heap.size = w.heap.size + 2 := by rw [← hW1]; simp
  have hL1 : W1.heap[w.heap.size + 1]? = some (.loop (rec .ready)) := by
    rw [← hW1]; have := World.alloc_heap_new (w.alloc (.deferred (some []))) (.loop (rec .ready)); rwa [World.size_alloc] at this
  have hK1 : W1.heap[w.heap.size]? = some (.deferred (some [])) := by
    rw [← hW1]; exact (Below.heap_alloc _ _ _ (by simp)).trans (World.alloc_heap_new w _)
  have hI1 : I [] W1 := hI _ _ _ h0 ⟨hb1.os, hb1.tape, hb1.output, hb1.size, fun k o hk _ => (hb1.block k (Array.getElem?_eq_some_iff.1 hk).1).trans hk⟩
  have hDX : ∀ i, w.heap.size ≤ i → i ∉ X := fun i hi hx => by have := hX i hx; omega
  refine ⟨w.heap.size + 1, [{ target := .collected w.heap.size, args := #[] }], W1, { target := .fn (.func gf) lb, args := #[.func (.yield (w.heap.size + 1)) #[] #[]] }, W1, gf,
    #[.func (.yield (w.heap.size + 1)) #[] #[]] ++ lb, W1, ?_, ?_, fun _ _ => trivial, ?_, fun h => (by simp [Fence.wide] at h), ?_⟩
  · rw [hrun, ← hW1, hrec]
  · simp only [resolve, hg]
    simp [go_sem]
  · simp [invoke, go_sem, eg]
  refine (hseq (w.heap.size + 1) (fun pre W => I pre W ∧ W.heap[w.heap.size + 1]? = some (.loop (rec .ready)) ∧ W.heap[w.heap.size]? = some (.deferred (some [])))
    W1 hb1 ?_ ?_ ⟨hI1, hL1, hK1⟩).mono ?_
  · rintro s A B ⟨hi, hl, hk⟩ hm
    exact ⟨hI _ _ _ hi hm.ck, hm.keep _ _ hl (.inr rfl), hm.keep _ _ hk (.inr rfl)⟩
  · rintro pre x args W ⟨hi, hl, hk⟩ hpre henc
    have hy := run_yield (P := P) (args := args) hl (by rw [hsp]; exact hps x args W henc)
    rw [hrec] at hy
    refine ⟨fn, _, assign, body, hy, roundIn_of_wpIn trivial (wpIn_mono (hround _ pre x args W hi hpre henc) ?_)⟩
    intro ε a1 W2 hp
    cases ε with
    | normal =>
      obtain ⟨hbx, hbody⟩ := hp
      have hl2 := hbx.noRow hl (hDX _ (by omega)) (fun _ h => by cases h)
      have hk2 := hbx.noRow hk (hDX _ (by omega)) (fun _ h => by cases h)
      have hr := run_beginRound (P := P) hl2 (hst _)
      rw [hup] at hr
      have hlt2 := (Array.getElem?_eq_some_iff.1 hl2).1
      have hl3 := World.putObj_heap_same (w := W2) (o := .loop (rec .busy)) hlt2
      have hk3 := (World.putObj_heap_other (w := W2) (o := .loop (rec .busy)) (show w.heap.size ≠ w.heap.size + 1 by omega)).trans hk2
      refine ⟨_, hr, wpIn_mono (hbody _ (.put _ hl2 rfl (by omega))) ?_⟩
      intro ε a3 W3 hp
      cases ε with
      | normal =>
        obtain ⟨hb3, hi3⟩ := hp
        have hl4 := hb3.noRow hl3 (hDX _ (by omega)) (fun _ h => by cases h)
        have hk4 := hb3.noRow hk3 (hDX _ (by omega)) (fun _ h => by cases h)
        have he := run_endRound (P := P) none hl4
        simp only [Option.isNone_none, if_true] at he
        rw [hen] at he
        have hl5 := World.putObj_heap_same (w := W3) (o := .loop (rec .ready)) (Array.getElem?_eq_some_iff.1 hl4).1
        refine ⟨_, _, he, rfl, ⟨hI _ _ _ hi3 (.put _ hl4 rfl (by omega)), hl5, (World.putObj_heap_other (by omega)).trans hk4⟩, ?_⟩
        refine RX.drop (r := w.heap.size + 1) ?_ (hl5.trans hl.symm)
        exact (((hbx.wider _).trans (rx_loop _)).trans (hb3.wider _)).trans (rx_loop _)
      | _ => exact (hp : False).elim
    | _ => exact (hp : False).elim
  · rintro ε W2 ⟨⟨v, rfl⟩, hi, hl, hk⟩
    have he := run_endLoop (P := P) hl (by rw [hst]; simp)
    rw [hpd] at he
    exact ⟨none, _, he, hdone _ (hI _ _ _ hi (.put _ hl rfl (by omega))) ((World.putObj_heap_other (by omega)).trans hk)⟩
end Go.Proofs.YtbdgblnccjpahaaGreatDoor
namespace Go.Proofs.YtbdgblnccjpahaaGreatDoor
open Go.RowKit
/-- Since A nothing has turned but the blocks X below D, and cells at D and above. -/
structure RN (D : Nat) (X : List Nat) (A B : World) : Prop where
  os : B.os = A.os
  tape : B.tape = A.tape
  output : B.output = A.output
  size : A.heap.size ≤ B.heap.size
  keep : ∀ k o, A.heap[k]? = some o → k ∉ X → (k < D ∨ o.isCells = false) → B.heap[k]? = some o
theorem RN.refl (D : Nat) (X : List Nat) (A : World) : RN D X A A := ⟨rfl, rfl, rfl, Nat.le_refl _, fun _ _ h _ _ => h⟩
theorem RN.trans {D : Nat} {X : List Nat} {A B C : World} (h : RN D X A B) (k : RN D X B C) : RN D X A C :=
  ⟨k.os.trans h.os, k.tape.trans h.tape, k.output.trans h.output, Nat.le_trans h.size k.size, fun i o hi hX hu => k.keep i o (h.keep i o hi hX hu) hX hu⟩
theorem RN.of_below {D : Nat} {X : List Nat} {A B : World} (h : Below A.heap.size A B) : RN D X A B :=
  ⟨h.os, h.tape, h.output, h.size, fun k _ hk _ _ => (h.block k (Array.getElem?_eq_some_iff.1 hk).1).trans hk⟩
theorem RN.of_bx {D : Nat} {X Z : List Nat} {A B : World} (h : BX Z A B) (hZ : ∀ z ∈ Z, z ∈ X ∨ (D ≤ z ∧ ∃ t cs, Blk A z t cs)) : RN D X A B :=
  ⟨h.os, h.tape, h.output, h.size, fun k o hk hX hu => by
    by_cases hz : k ∈ Z
    · rcases hZ k hz with h1 | ⟨h1, t, cs, h2⟩
      · exact absurd h1 hX
      · have h3 : A.heap[k]? = some (.cells cs t (0, 0)) := h2
        rw [hk] at h3
        injection h3 with h3
        subst h3
        rcases hu with hu | hu
        · omega
        · cases hu
    · exact (h.block k (Array.getElem?_eq_some_iff.1 hk).1 hz).trans hk⟩
theorem RN.of_grown {D n size : Nat} {e : TypeId} {X : List Nat} {v : Value} {xs : List Value} {A B : World} (h : A.ownsRow D e size v n xs) (hg : A.grownBy B v.ownBlock) : RN D X A B :=
  ⟨hg.os, hg.tape, hg.output, hg.size, fun k o hk _ hu => by
    refine (hg.block k (Array.getElem?_eq_some_iff.1 hk).1 fun e' => ?_).trans hk
    rcases h.2 with ⟨rfl, _⟩ | ⟨g, cap, cur, rfl, e2, e3, _⟩
    · simp [Value.ownBlock] at e'
    · have : k = g := by simpa [Value.ownBlock] using e'
      subst this
      rw [hk] at e3
      injection e3 with e3
      subst e3
      rcases hu with hu | hu
      · omega
      · cases hu⟩
theorem RN.blk {D : Nat} {X : List Nat} {A B : World} {g : Nat} {t : TypeId} {cs : Array Value} (h : RN D X A B) (hk : Blk A g t cs) (hD : g < D) (hX : g ∉ X) : Blk B g t cs := h.keep g _ hk hX (.inl hD)
theorem RN.wider {D : Nat} {X : List Nat} {A B : World} (r : Nat) (h : RN D X A B) : RN D (r :: X) A B :=
  ⟨h.os, h.tape, h.output, h.size, fun k o hk hX hu => h.keep k o hk (fun m => hX (List.mem_cons_of_mem _ m)) hu⟩
theorem RN.drop {D : Nat} {X : List Nat} {A B : World} {r : Nat} (h : RN D (r :: X) A B) (he : B.heap[r]? = A.heap[r]?) : RN D X A B :=
  ⟨h.os, h.tape, h.output, h.size, fun k o hk hX hu => by
    by_cases e' : k = r
    · rw [e', he, ← e', hk]
    · exact h.keep k o hk (by simp [e', hX]) hu⟩
theorem rn_loop {D : Nat} {X : List Nat} {A : World} {r : Nat} (o' : Obj) : RN D (r :: X) A (A.putObj r o') :=
  ⟨rfl, rfl, rfl, by simp, fun k o hk hX _ => (World.putObj_heap_other (fun e => hX (by simp [e]))).trans hk⟩
/-- How a round ends: it goes on, or it leaves the loop. -/
def GoesS {α : Type} (D : Nat) (X : List Nat) (I : List α → World → Prop) (Ix : Code → List α → World → Prop) (xs : List α) (W : World) : Exit → Act → World → Prop
  | .normal, _, W' => RN D X W W' ∧ I xs W'
  | .ret, _, W' => RN D X W W' ∧ Ix .ret xs W'
  | .exit id, _, W' => RN D X W W' ∧ Ix (.exit id) xs W'
  | .goto t, _, W' => RN D X W W' ∧ Ix (.goto t) xs W'
  | _, _, _ => False
/-- What an iterator promises that lies ready in closure gf: it yields xs in their order, each by values that stand for it, as long as no round leaves. -/
def YieldsS (P : Program) {α : Type} (D : Nat) (X Y : List Nat) (gf : Nat) (lb : Array Value) (Enc : α → Array Value → World → Prop) (xs : List α) (W0 : World) : Prop :=
  ∀ (l : Nat) (J Jx : List α → World → Prop) (W : World), Below D W0 W → (∀ s A B, J s A → BX Y A B → J s B) → (∀ s A B, Jx s A → BX Y A B → Jx s B) →
    (∀ pre x args W1, J pre W1 → pre ++ [x] <+: xs → Enc x args W1 → YieldAt Fence.wide 4 P l args W1 fun ε W' =>
      (ε = .returned (.bool true) ∧ J (pre ++ [x]) W' ∧ RN D X W1 W') ∨ (ε = .returned (.bool false) ∧ Jx (pre ++ [x]) W')) →
    J [] W → CallsIn Fence.wide 5 P gf (#[.func (.yield l) #[] #[]] ++ lb) W fun ε W' => (∃ v, ε = .returned v) ∧ (J xs W' ∨ ∃ pre, pre <+: xs ∧ Jx pre W')
theorem wp_range4 {P : Program} {α : Type} {g : Operand} {ps : Array Tmp} {assign body : Code} {Q : Exit → Act → World → Prop} {a : Act} {w : World} {gf : Nat} {lb : Array Value}
    (hg : a.eval g = .func (.func gf) #[] lb) (eg : ∀ args w, (callFunc gf args).run P w = .ok (.enter gf args) w) {Enc : α → Array Value → World → Prop} {xs : List α} (X Y : List Nat)
    (hseq : YieldsS P w.heap.size X Y gf lb Enc xs w)
    (hps : ∀ x args W, Enc x args W → args.size = ps.size) (hX : ∀ x ∈ X, x < w.heap.size) (hY : ∀ y ∈ Y, y < w.heap.size)
    (I : List α → World → Prop) (Ix : Code → List α → World → Prop) (hI : ∀ s A B, I s A → CK w.heap.size A B → I s B) (hIY : ∀ s A B, I s A → BX Y A B → I s B)
    (hIx : ∀ c s A B, Ix c s A → CK w.heap.size A B → Ix c s B) (hIxY : ∀ c s A B, Ix c s A → BX Y A B → Ix c s B)
    (h0 : I [] w)
    (hround : ∀ l pre x args W, I pre W → pre ++ [x] <+: xs → Enc x args W → assign.wpIn (Fence.wide.inRound l) 4 P
      (Exit.then (fun a1 W1 => RN w.heap.size X W W1 ∧ ∀ W2, CK w.heap.size W1 W2 → body.wpIn (Fence.wide.inRound l) 4 P (GoesS w.heap.size X I Ix (pre ++ [x]) W2) a1 W2) (fun _ _ _ => False))
      { tmps := (ps.zip args).foldl (fun t (p, v) => t.setIfInBounds p v) a.tmps, defers := [] } W)
    (hdone : ∀ W, I xs W → W.heap[w.heap.size]? = some (.deferred (some [])) → Q .normal { a with defers := { target := .collected w.heap.size, args := #[] } :: a.defers } W)
    (hstop : ∀ c pre W, pre <+: xs → Ix c pre W → W.heap[w.heap.size]? = some (.deferred (some [])) → c.wp P Q { a with defers := { target := .collected w.heap.size, args := #[] } :: a.defers } W) :
    (Code.rangeFunc g ps assign body).wp P Q a w := by
  refine (wpIn_wide (n := 6)).1 (wpIn_rangeFunc ?_)
  intro fn _
  rw [Fence.wide_round]
  obtain ⟨rec, hrec⟩ : ∃ rec : LoopState → Option Code → Loop, rec = fun st pe => { state := st, pending := pe, fn, tmps := a.tmps, params := ps, assign, body, defers := w.heap.size } := ⟨_, rfl⟩
  have hst : ∀ s p, (rec s p).state = s := fun s p => by rw [hrec]
  have hpd : ∀ s p, (rec s p).pending = p := fun s p => by rw [hrec]
  have hsp : ∀ s p, (rec s p).params = ps := fun s p => by rw [hrec]
  have hup : ∀ s s' p, { rec s p with state := s' } = rec s' p := fun s s' p => by rw [hrec]
  have hen : ∀ s p s' p', ({ rec s p with state := s', pending := p' } : Loop) = rec s' p' := fun s p s' p' => by rw [hrec]
  have hrun := run_enterLoop_outer (P := P) (w := w) fn a.tmps ps assign body
  obtain ⟨W1, hW1⟩ : ∃ W1, (w.alloc (.deferred (some []))).alloc (.loop (rec .ready none)) = W1 := ⟨_, rfl⟩
  have hb1 : Below w.heap.size w W1 := by
    rw [← hW1]; exact ((Below.refl _ w).alloc (Nat.le_refl _) _).alloc (by simp) _
  have hs1 : W1.heap.size = w.heap.size + 2 := by rw [← hW1]; simp
  have hL1 : W1.heap[w.heap.size + 1]? = some (.loop (rec .ready none)) := by
    rw [← hW1]; have := World.alloc_heap_new (w.alloc (.deferred (some []))) (.loop (rec .ready none)); rwa [World.size_alloc] at this
  have hK1 : W1.heap[w.heap.size]? = some (.deferred (some [])) := by
    rw [← hW1]; exact (Below.heap_alloc _ _ _ (by simp)).trans (World.alloc_heap_new w _)
  have hI1 : I [] W1 := hI _ _ _ h0 ⟨hb1.os, hb1.tape, hb1.output, hb1.size, fun k o hk _ => (hb1.block k (Array.getElem?_eq_some_iff.1 hk).1).trans hk⟩
  have hDX : ∀ i, w.heap.size ≤ i → i ∉ X := fun i hi hx => by have := hX i hx; omega
  have hDY : ∀ i, w.heap.size ≤ i → i ∉ Y := fun i hi hx => by have := hY i hx; omega
  have hY1 : ∀ {A B : World} {i : Nat} {o : Obj}, w.heap.size ≤ i → A.heap[i]? = some o → BX Y A B → B.heap[i]? = some o := fun hi h hb => (hb.block _ (Array.getElem?_eq_some_iff.1 h).1 (hDY _ hi)).trans h
  refine ⟨w.heap.size + 1, [{ target := .collected w.heap.size, args := #[] }], W1, { target := .fn (.func gf) lb, args := #[.func (.yield (w.heap.size + 1)) #[] #[]] }, W1, gf,
    #[.func (.yield (w.heap.size + 1)) #[] #[]] ++ lb, W1, ?_, ?_, fun _ _ => trivial, ?_, fun h => (by simp [Fence.wide] at h), ?_⟩
  · rw [hrun, ← hW1, hrec]
  · simp only [resolve, hg]
    simp [go_sem]
  · simp [invoke, go_sem, eg]
  refine (hseq (w.heap.size + 1) (fun pre W => I pre W ∧ W.heap[w.heap.size + 1]? = some (.loop (rec .ready none)) ∧ W.heap[w.heap.size]? = some (.deferred (some [])))
    (fun pre W => ∃ c, Ix c pre W ∧ W.heap[w.heap.size + 1]? = some (.loop (rec .done (some c))) ∧ W.heap[w.heap.size]? = some (.deferred (some [])))
    W1 hb1 ?_ ?_ ?_ ⟨hI1, hL1, hK1⟩).mono ?_
  · rintro s A B ⟨hi, hl, hk⟩ hm
    exact ⟨hIY _ _ _ hi hm, hY1 (by omega) hl hm, hY1 (Nat.le_refl _) hk hm⟩
  · rintro s A B ⟨c, hi, hl, hk⟩ hm
    exact ⟨c, hIxY _ _ _ _ hi hm, hY1 (by omega) hl hm, hY1 (Nat.le_refl _) hk hm⟩
  · rintro pre x args W ⟨hi, hl, hk⟩ hpre henc
    have hy := run_yield (P := P) (args := args) hl (by rw [hsp]; exact hps x args W henc)
    rw [hrec] at hy
    refine ⟨fn, _, assign, body, hy, roundIn_of_wpIn trivial (wpIn_mono (hround _ pre x args W hi hpre henc) ?_)⟩
    intro ε a1 W2 hp
    cases ε with
    | normal =>
      obtain ⟨hbx, hbody⟩ := hp
      have hl2 := hbx.keep _ _ hl (hDX _ (by omega)) (.inr rfl)
      have hk2 := hbx.keep _ _ hk (hDX _ (by omega)) (.inr rfl)
      have hr := run_beginRound (P := P) hl2 (hst _ _)
      rw [hup] at hr
      have hlt2 := (Array.getElem?_eq_some_iff.1 hl2).1
      have hl3 := World.putObj_heap_same (w := W2) (o := .loop (rec .busy none)) hlt2
      have hk3 := (World.putObj_heap_other (w := W2) (o := .loop (rec .busy none)) (show w.heap.size ≠ w.heap.size + 1 by omega)).trans hk2
      refine ⟨_, hr, wpIn_mono (hbody _ (.put _ hl2 rfl (by omega))) ?_⟩
      have fin : ∀ (jump : Option Code) (W3 : World), RN w.heap.size X (W2.putObj (w.heap.size + 1) (.loop (rec .busy none))) W3 →
          (Instr.endRound (w.heap.size + 1) jump).run P W3 = .ok (.bool jump.isNone) (W3.putObj (w.heap.size + 1) (.loop (rec (if jump.isNone then .ready else .done) jump))) ∧
          W3.heap[w.heap.size + 1]? = some (.loop (rec .busy none)) ∧
          (W3.putObj (w.heap.size + 1) (.loop (rec (if jump.isNone then .ready else .done) jump))).heap[w.heap.size + 1]? = some (.loop (rec (if jump.isNone then .ready else .done) jump)) ∧
          (W3.putObj (w.heap.size + 1) (.loop (rec (if jump.isNone then .ready else .done) jump))).heap[w.heap.size]? = some (.deferred (some [])) := fun jump W3 hb3 => by
        have hl4 := hb3.keep _ _ hl3 (hDX _ (by omega)) (.inr rfl)
        have hk4 := hb3.keep _ _ hk3 (hDX _ (by omega)) (.inr rfl)
        have he := run_endRound (P := P) jump hl4
        rw [hen] at he
        exact ⟨he, hl4, World.putObj_heap_same (Array.getElem?_eq_some_iff.1 hl4).1, (World.putObj_heap_other (by omega)).trans hk4⟩
      intro ε a3 W3 hp
      cases ε with
      | normal =>
        obtain ⟨hb3, hi3⟩ := hp
        obtain ⟨he, hl4, hl5, hk5⟩ := fin none W3 hb3
        refine ⟨_, _, he, .inl ⟨rfl, ⟨hI _ _ _ hi3 (.put _ hl4 rfl (by omega)), hl5, hk5⟩, ?_⟩⟩
        refine RN.drop (r := w.heap.size + 1) ?_ (hl5.trans hl.symm)
        exact (((hbx.wider _).trans (rn_loop _)).trans (hb3.wider _)).trans (rn_loop _)
      | ret =>
        obtain ⟨hb3, hi3⟩ := hp
        obtain ⟨he, hl4, hl5, hk5⟩ := fin (some .ret) W3 hb3
        exact ⟨_, _, he, .inr ⟨rfl, .ret, hIx _ _ _ _ hi3 (.put _ hl4 rfl (by omega)), hl5, hk5⟩⟩
      | exit id =>
        obtain ⟨hb3, hi3⟩ := hp
        obtain ⟨he, hl4, hl5, hk5⟩ := fin (some (.exit id)) W3 hb3
        exact ⟨_, _, he, .inr ⟨rfl, .exit id, hIx _ _ _ _ hi3 (.put _ hl4 rfl (by omega)), hl5, hk5⟩⟩
      | goto t =>
        obtain ⟨hb3, hi3⟩ := hp
        obtain ⟨he, hl4, hl5, hk5⟩ := fin (some (.goto t)) W3 hb3
        exact ⟨_, _, he, .inr ⟨rfl, .goto t, hIx _ _ _ _ hi3 (.put _ hl4 rfl (by omega)), hl5, hk5⟩⟩
      | _ => exact (hp : False).elim
    | _ => exact (hp : False).elim
  · rintro ε W2 ⟨⟨v, rfl⟩, (⟨hi, hl, hk⟩ | ⟨pre, hpre, c, hi, hl, hk⟩)⟩
    · have he := run_endLoop (P := P) hl (by rw [hst]; simp)
      rw [hpd] at he
      exact ⟨none, _, he, hdone _ (hI _ _ _ hi (.put _ hl rfl (by omega))) ((World.putObj_heap_other (by omega)).trans hk)⟩
    · have he := run_endLoop (P := P) hl (by rw [hst]; simp)
      rw [hpd] at he
      exact ⟨some c, _, he, (wpIn_wide (n := 6)).2 (hstop c pre _ hpre (hIx _ _ _ _ hi (.put _ hl rfl (by omega))) ((World.putObj_heap_other (by omega)).trans hk))⟩
end Go.Proofs.YtbdgblnccjpahaaGreatDoor
namespace Go.Proofs
open Go.Shelf
def Tryz.lays156_ren : Go.Shelf.Ren := ⟨fun | 156 => 63 | 165 => 122 | 166 => 123 | 169 => 124 | 240 => 161 | 241 => 162 | 276 => 200 | 277 => 201 | n => n, fun | 31 => 54 | 9 => 9 | 3 => 3 | 4 => 4 | 0 => 0 | 20 => 20 | 72 => 188 | 76 => 191 | 70 => 185 | 37 => 186 | 75 => 190 | 127 => 222 | 164 => 251 | 5 => 5 | 80 => 193 | n => n, fun | n => n⟩
theorem Tryz.lays156 : Go.Proofs.Lays.n156 Tryz.prog Tryz.lays156_ren := {
  mixed := by kernel_rfl
  f156 := Tryz.func63.trans (congrArg some (by kernel_rfl))
  f165 := Tryz.func122.trans (congrArg some (by kernel_rfl))
  f166 := Tryz.func123.trans (congrArg some (by kernel_rfl))
  f169 := Tryz.func124.trans (congrArg some (by kernel_rfl))
  f240 := Tryz.func161.trans (congrArg some (by kernel_rfl))
  f241 := Tryz.func162.trans (congrArg some (by kernel_rfl))
  f276 := Tryz.func200.trans (congrArg some (by kernel_rfl))
  f277 := Tryz.func201.trans (congrArg some (by kernel_rfl))
  t0 := Tryz.underlying0
  a0 := Tryz.isAgg0
  z0 := Tryz.sizeOf0
  v0 := Tryz.zeroValue0
  t3 := Tryz.underlying3
  a3 := Tryz.isAgg3
  z3 := Tryz.sizeOf3
  v3 := Tryz.zeroValue3
  t4 := Tryz.underlying4
  a4 := Tryz.isAgg4
  z4 := Tryz.sizeOf4
  v4 := Tryz.zeroValue4
  t9 := Tryz.underlying9
  a9 := Tryz.isAgg9
  z9 := Tryz.sizeOf9
  v9 := Tryz.zeroValue9
  t20 := Tryz.underlying20
  a20 := Tryz.isAgg20
  z20 := Tryz.sizeOf20
  v20 := Tryz.zeroValue20
  t31 := Tryz.underlying54
  a31 := Tryz.isAgg54
  z31 := Tryz.sizeOf54
  v31 := Tryz.zeroValue54
  t37 := Tryz.underlying186
  a37 := Tryz.isAgg186
  z37 := Tryz.sizeOf186
  v37 := Tryz.zeroValue186
  t70 := Tryz.underlying185
  a70 := Tryz.isAgg185
  z70 := Tryz.sizeOf185
  v70 := Tryz.zeroValue185
  t72 := Tryz.underlying188
  a72 := Tryz.isAgg188
  z72 := Tryz.sizeOf188
  v72 := Tryz.zeroValue188
  t75 := Tryz.underlying190
  a75 := Tryz.isAgg190
  z75 := Tryz.sizeOf190
  v75 := Tryz.zeroValue190
  t76 := Tryz.underlying191
  a76 := Tryz.isAgg191
  z76 := Tryz.sizeOf191
  v76 := Tryz.zeroValue191
  t127 := Tryz.underlying222
  a127 := Tryz.isAgg222
  z127 := Tryz.sizeOf222
  v127 := Tryz.zeroValue222
  t164 := Tryz.underlying251
  a164 := Tryz.isAgg251
  z164 := Tryz.sizeOf251
  v164 := Tryz.zeroValue251 }
theorem Tryz.Builder_Extra_156 : Builder.Extra Tryz.prog Tryz.lays156_ren := {
  sizeBuilder := by kernel_rfl
  liesBuilder := by kernel_rfl
  t5 := Tryz.underlying5
  a5 := Tryz.isAgg5
  z5 := Tryz.sizeOf5
  v5 := Tryz.zeroValue5
  infoByte := by kernel_rfl
  cellsByte := by kernel_rfl
  sizeByte := by kernel_rfl
  neB5 := by decide }
open Go.RowKit in
/-- No element: the empty string; the world is as it was. (Whatever the slice's address and capacity: a nil slice too.) (LAID: no walk: one application.) -/
theorem Tryz.strings_Join_none (a : Option Addr) (c : Nat) (sep : ByteArray) (w : World) :
    Calls Tryz.prog 63 #[.slice a 0 c, .string sep] w fun e w' => e = .returned (.string ⟨#[]⟩) ∧ w' = w := Any.strings_Join_none Tryz.lays156 Tryz.Builder_Extra_156 a c sep w
open Go.RowKit in
/-- strings.Join: "Join concatenates the elements of its first argument to create a single string. The separator string sep is placed between elements in the resulting string.": HOWEVER MANY ELEMENTS. Below the heap's end the world is as it was. (LAID: no walk: one application.) -/
theorem Tryz.strings_Join (bk o c : Nat) (xs : List ByteArray) (sep : ByteArray) (w : World) (hcells : ∀ (j : Nat) x, xs[j]? = some x → w.cell? ⟨bk, o + j, none⟩ = some (.string x)) (hbk : bk < w.heap.size) (hN : xs.length ≤ 140737488355328) (hcap : xs.length ≤ c) (hlen : (Lib.join (xs.map (·.data.toList)) sep.data.toList).length ≤ 140737488355328) :
    Calls Tryz.prog 63 #[.slice (some ⟨bk, o, none⟩) xs.length c, .string sep] w fun e w' => e = .returned (.string ⟨(Lib.join (xs.map (·.data.toList)) sep.data.toList).toArray⟩) ∧ Below w.heap.size w w' := Any.strings_Join Tryz.lays156 Tryz.Builder_Extra_156 bk o c xs sep w hcells hbk hN hcap hlen
def Tryz.laysM171_ren : Go.Shelf.Ren := ⟨fun | 171 => 121 | 243 => 160 | 246 => 199 | 283 => 220 | 284 => 221 | 285 => 222 | 286 => 223 | 129 => 228 | 317 => 227 | 318 => 229 | 319 => 230 | 320 => 142 | 337 => 180 | 338 => 181 | n => n, fun | 3 => 3 | 9 => 9 | 2 => 2 | 4 => 4 | 171 => 273 | 0 => 0 | 53 => 242 | 37 => 186 | 5 => 5 | 173 => 275 | 212 => 284 | 51 => 240 | 20 => 20 | 213 => 285 | 46 => 151 | 232 => 259 | 233 => 260 | n => n, fun | 17 => 7 | 18 => 1 | 19 => 2 | n => n⟩
theorem Tryz.laysM171 : Go.Proofs.LaysM.n171 Tryz.prog Tryz.laysM171_ren := {
  mixed := by kernel_rfl
  f129 := Tryz.func228.trans (congrArg some (by kernel_rfl))
  f171 := Tryz.func121.trans (congrArg some (by kernel_rfl))
  f243 := Tryz.func160.trans (congrArg some (by kernel_rfl))
  f246 := Tryz.func199.trans (congrArg some (by kernel_rfl))
  f283 := Tryz.func220.trans (congrArg some (by kernel_rfl))
  f284 := Tryz.func221.trans (congrArg some (by kernel_rfl))
  f285 := Tryz.func222.trans (congrArg some (by kernel_rfl))
  f286 := Tryz.func223.trans (congrArg some (by kernel_rfl))
  f317 := Tryz.func227.trans (congrArg some (by kernel_rfl))
  f318 := Tryz.func229.trans (congrArg some (by kernel_rfl))
  f319 := Tryz.func230.trans (congrArg some (by kernel_rfl))
  f320 := Tryz.func142.trans (congrArg some (by kernel_rfl))
  f337 := Tryz.func180.trans (congrArg some (by kernel_rfl))
  f338 := Tryz.func181.trans (congrArg some (by kernel_rfl))
  t0 := Tryz.underlying0
  a0 := Tryz.isAgg0
  z0 := Tryz.sizeOf0
  v0 := Tryz.zeroValue0
  t2 := Tryz.underlying2
  a2 := Tryz.isAgg2
  z2 := Tryz.sizeOf2
  v2 := Tryz.zeroValue2
  t3 := Tryz.underlying3
  a3 := Tryz.isAgg3
  z3 := Tryz.sizeOf3
  v3 := Tryz.zeroValue3
  t4 := Tryz.underlying4
  a4 := Tryz.isAgg4
  z4 := Tryz.sizeOf4
  v4 := Tryz.zeroValue4
  t5 := Tryz.underlying5
  a5 := Tryz.isAgg5
  z5 := Tryz.sizeOf5
  v5 := Tryz.zeroValue5
  t9 := Tryz.underlying9
  a9 := Tryz.isAgg9
  z9 := Tryz.sizeOf9
  v9 := Tryz.zeroValue9
  t20 := Tryz.underlying20
  a20 := Tryz.isAgg20
  z20 := Tryz.sizeOf20
  v20 := Tryz.zeroValue20
  t37 := Tryz.underlying186
  a37 := Tryz.isAgg186
  z37 := Tryz.sizeOf186
  v37 := Tryz.zeroValue186
  t46 := Tryz.underlying151
  a46 := Tryz.isAgg151
  z46 := Tryz.sizeOf151
  v46 := Tryz.zeroValue151
  t51 := Tryz.underlying240
  a51 := Tryz.isAgg240
  z51 := Tryz.sizeOf240
  v51 := Tryz.zeroValue240
  t53 := Tryz.underlying242
  a53 := Tryz.isAgg242
  z53 := Tryz.sizeOf242
  v53 := Tryz.zeroValue242
  t171 := Tryz.underlying273
  a171 := Tryz.isAgg273
  z171 := Tryz.sizeOf273
  v171 := Tryz.zeroValue273
  t173 := Tryz.underlying275
  a173 := Tryz.isAgg275
  z173 := Tryz.sizeOf275
  v173 := Tryz.zeroValue275
  t212 := Tryz.underlying284
  a212 := Tryz.isAgg284
  z212 := Tryz.sizeOf284
  v212 := Tryz.zeroValue284
  t213 := Tryz.underlying285
  a213 := Tryz.isAgg285
  z213 := Tryz.sizeOf285
  t232 := Tryz.underlying259
  a232 := Tryz.isAgg259
  z232 := Tryz.sizeOf259
  v232 := Tryz.zeroValue259
  t233 := Tryz.underlying260
  a233 := Tryz.isAgg260
  z233 := Tryz.sizeOf260
  v233 := Tryz.zeroValue260
  g17 := by kernel_rfl
  g18 := by kernel_rfl
  g19 := by kernel_rfl
  i0 := by kernel_rfl
  i2 := by kernel_rfl
  i3 := by kernel_rfl
  i4 := by kernel_rfl
  i5 := by kernel_rfl
  i9 := by kernel_rfl
  i20 := by kernel_rfl
  i37 := by kernel_rfl
  i46 := by kernel_rfl
  i51 := by kernel_rfl
  i53 := by kernel_rfl
  i171 := by kernel_rfl
  i173 := by kernel_rfl
  i212 := by kernel_rfl
  i232 := by kernel_rfl
  i233 := by kernel_rfl
  m17 := by kernel_rfl
  m18 := by kernel_rfl
  m19 := by kernel_rfl }
open Go.RowKit Go.Sort Go.Lib in
/-- strconv.Itoa: "Itoa is equivalent to FormatInt(int64(i), 10).": i's DECIMAL NUMERAL ('Lib.itoa': a '-' where i is negative, then the digits), FOR EVERY int. The world behind the call: the world before it, new blocks behind the heap (the library's 'var a [24]byte'), draws. (LAID: no walk: one application.) -/
theorem Tryz.strconv_Itoa (n : Int) (h0 : -9223372036854775808 ≤ n) (h1 : n ≤ 9223372036854775807) (w : World) (htab : Lib.TabIs Tryz.prog w "internal/strconv.uint64pow10" .u64 Lib.pow10Tab) :
    Calls Tryz.prog 121 #[.int .i64 n] w fun e w' => e = .returned (.string ⟨(Lib.itoa n).toArray⟩) ∧ ∃ k os, w' = grow (w.drewN k) os := Any.strconv_Itoa Tryz.laysM171 n h0 h1 w htab
def Tryz.laysC172_ren : Go.Shelf.Ren := ⟨fun | 172 => 159 | 244 => 197 | 245 => 198 | 247 => 215 | 279 => 216 | 280 => 217 | 281 => 218 | 282 => 219 | 287 => 224 | 316 => 225 | 171 => 121 | 205 => 226 | 321 => 231 | 322 => 232 | 243 => 160 | 246 => 199 | 283 => 220 | 284 => 221 | 285 => 222 | 286 => 223 | 129 => 228 | 317 => 227 | 318 => 229 | 319 => 230 | 320 => 142 | 337 => 180 | 338 => 181 | n => n, fun | 9 => 9 | 3 => 3 | 75 => 190 | 76 => 191 | 4 => 4 | 5 => 5 | 167 => 267 | 37 => 186 | 0 => 0 | 85 => 268 | 2 => 2 | 168 => 270 | 53 => 242 | 175 => 277 | 46 => 151 | 210 => 281 | 127 => 222 | 145 => 289 | 143 => 287 | 21 => 21 | 171 => 273 | 173 => 275 | 212 => 284 | 51 => 240 | 20 => 20 | 213 => 285 | 232 => 259 | 233 => 260 | 80 => 193 | n => n, fun | 15 => 5 | 16 => 6 | 17 => 7 | 18 => 1 | 19 => 2 | n => n⟩
theorem Tryz.laysC172 : Go.Proofs.LaysC.n172 Tryz.prog Tryz.laysC172_ren := {
  mixed := by kernel_rfl
  f129 := Tryz.func228.trans (congrArg some (by kernel_rfl))
  f171 := Tryz.func121.trans (congrArg some (by kernel_rfl))
  f172 := Tryz.func159.trans (congrArg some (by kernel_rfl))
  f205 := Tryz.func226.trans (congrArg some (by kernel_rfl))
  f243 := Tryz.func160.trans (congrArg some (by kernel_rfl))
  f244 := Tryz.func197.trans (congrArg some (by kernel_rfl))
  f245 := Tryz.func198.trans (congrArg some (by kernel_rfl))
  f246 := Tryz.func199.trans (congrArg some (by kernel_rfl))
  f247 := Tryz.func215.trans (congrArg some (by kernel_rfl))
  f279 := Tryz.func216.trans (congrArg some (by kernel_rfl))
  f280 := Tryz.func217.trans (congrArg some (by kernel_rfl))
  f281 := Tryz.func218.trans (congrArg some (by kernel_rfl))
  f282 := Tryz.func219.trans (congrArg some (by kernel_rfl))
  f283 := Tryz.func220.trans (congrArg some (by kernel_rfl))
  f284 := Tryz.func221.trans (congrArg some (by kernel_rfl))
  f285 := Tryz.func222.trans (congrArg some (by kernel_rfl))
  f286 := Tryz.func223.trans (congrArg some (by kernel_rfl))
  f287 := Tryz.func224.trans (congrArg some (by kernel_rfl))
  f316 := Tryz.func225.trans (congrArg some (by kernel_rfl))
  f317 := Tryz.func227.trans (congrArg some (by kernel_rfl))
  f318 := Tryz.func229.trans (congrArg some (by kernel_rfl))
  f319 := Tryz.func230.trans (congrArg some (by kernel_rfl))
  f320 := Tryz.func142.trans (congrArg some (by kernel_rfl))
  f321 := Tryz.func231.trans (congrArg some (by kernel_rfl))
  f322 := Tryz.func232.trans (congrArg some (by kernel_rfl))
  f337 := Tryz.func180.trans (congrArg some (by kernel_rfl))
  f338 := Tryz.func181.trans (congrArg some (by kernel_rfl))
  t0 := Tryz.underlying0
  a0 := Tryz.isAgg0
  z0 := Tryz.sizeOf0
  v0 := Tryz.zeroValue0
  t2 := Tryz.underlying2
  a2 := Tryz.isAgg2
  z2 := Tryz.sizeOf2
  v2 := Tryz.zeroValue2
  t3 := Tryz.underlying3
  a3 := Tryz.isAgg3
  z3 := Tryz.sizeOf3
  v3 := Tryz.zeroValue3
  t4 := Tryz.underlying4
  a4 := Tryz.isAgg4
  z4 := Tryz.sizeOf4
  v4 := Tryz.zeroValue4
  t5 := Tryz.underlying5
  a5 := Tryz.isAgg5
  z5 := Tryz.sizeOf5
  v5 := Tryz.zeroValue5
  t9 := Tryz.underlying9
  a9 := Tryz.isAgg9
  z9 := Tryz.sizeOf9
  v9 := Tryz.zeroValue9
  t20 := Tryz.underlying20
  a20 := Tryz.isAgg20
  z20 := Tryz.sizeOf20
  v20 := Tryz.zeroValue20
  t21 := Tryz.underlying21
  a21 := Tryz.isAgg21
  z21 := Tryz.sizeOf21
  v21 := Tryz.zeroValue21
  t37 := Tryz.underlying186
  a37 := Tryz.isAgg186
  z37 := Tryz.sizeOf186
  v37 := Tryz.zeroValue186
  t46 := Tryz.underlying151
  a46 := Tryz.isAgg151
  z46 := Tryz.sizeOf151
  v46 := Tryz.zeroValue151
  t51 := Tryz.underlying240
  a51 := Tryz.isAgg240
  z51 := Tryz.sizeOf240
  v51 := Tryz.zeroValue240
  t53 := Tryz.underlying242
  a53 := Tryz.isAgg242
  z53 := Tryz.sizeOf242
  v53 := Tryz.zeroValue242
  t75 := Tryz.underlying190
  a75 := Tryz.isAgg190
  z75 := Tryz.sizeOf190
  v75 := Tryz.zeroValue190
  t76 := Tryz.underlying191
  a76 := Tryz.isAgg191
  z76 := Tryz.sizeOf191
  v76 := Tryz.zeroValue191
  t85 := Tryz.underlying268
  a85 := Tryz.isAgg268
  z85 := Tryz.sizeOf268
  v85 := Tryz.zeroValue268
  t127 := Tryz.underlying222
  a127 := Tryz.isAgg222
  z127 := Tryz.sizeOf222
  v127 := Tryz.zeroValue222
  t143 := Tryz.underlying287
  a143 := Tryz.isAgg287
  z143 := Tryz.sizeOf287
  v143 := Tryz.zeroValue287
  t145 := Tryz.underlying289
  a145 := Tryz.isAgg289
  z145 := Tryz.sizeOf289
  v145 := Tryz.zeroValue289
  t167 := Tryz.underlying267
  a167 := Tryz.isAgg267
  z167 := Tryz.sizeOf267
  v167 := Tryz.zeroValue267
  t168 := Tryz.underlying270
  a168 := Tryz.isAgg270
  z168 := Tryz.sizeOf270
  v168 := Tryz.zeroValue270
  t171 := Tryz.underlying273
  a171 := Tryz.isAgg273
  z171 := Tryz.sizeOf273
  v171 := Tryz.zeroValue273
  t173 := Tryz.underlying275
  a173 := Tryz.isAgg275
  z173 := Tryz.sizeOf275
  v173 := Tryz.zeroValue275
  t175 := Tryz.underlying277
  a175 := Tryz.isAgg277
  z175 := Tryz.sizeOf277
  v175 := Tryz.zeroValue277
  t210 := Tryz.underlying281
  a210 := Tryz.isAgg281
  z210 := Tryz.sizeOf281
  v210 := Tryz.zeroValue281
  t212 := Tryz.underlying284
  a212 := Tryz.isAgg284
  z212 := Tryz.sizeOf284
  v212 := Tryz.zeroValue284
  t213 := Tryz.underlying285
  a213 := Tryz.isAgg285
  z213 := Tryz.sizeOf285
  t232 := Tryz.underlying259
  a232 := Tryz.isAgg259
  z232 := Tryz.sizeOf259
  v232 := Tryz.zeroValue259
  t233 := Tryz.underlying260
  a233 := Tryz.isAgg260
  z233 := Tryz.sizeOf260
  v233 := Tryz.zeroValue260
  g15 := by kernel_rfl
  g16 := by kernel_rfl
  g17 := by kernel_rfl
  g18 := by kernel_rfl
  g19 := by kernel_rfl
  t80 := Tryz.underlying193
  a80 := Tryz.isAgg193
  z80 := Tryz.sizeOf193
  v80 := Tryz.zeroValue193
  i0 := by kernel_rfl
  i2 := by kernel_rfl
  i3 := by kernel_rfl
  i4 := by kernel_rfl
  i5 := by kernel_rfl
  i9 := by kernel_rfl
  i20 := by kernel_rfl
  i21 := by kernel_rfl
  i37 := by kernel_rfl
  i46 := by kernel_rfl
  i51 := by kernel_rfl
  i53 := by kernel_rfl
  i75 := by kernel_rfl
  i76 := by kernel_rfl
  i80 := by kernel_rfl
  i85 := by kernel_rfl
  i127 := by kernel_rfl
  i143 := by kernel_rfl
  i145 := by kernel_rfl
  i167 := by kernel_rfl
  i168 := by kernel_rfl
  i171 := by kernel_rfl
  i173 := by kernel_rfl
  i175 := by kernel_rfl
  i210 := by kernel_rfl
  i212 := by kernel_rfl
  i232 := by kernel_rfl
  i233 := by kernel_rfl
  m15 := by kernel_rfl
  m16 := by kernel_rfl
  m17 := by kernel_rfl
  m18 := by kernel_rfl
  m19 := by kernel_rfl
  c0 := by kernel_rfl
  c2 := by kernel_rfl
  c3 := by kernel_rfl
  c4 := by kernel_rfl
  c5 := by kernel_rfl
  c9 := by kernel_rfl
  c20 := by kernel_rfl
  c21 := by kernel_rfl
  c37 := by kernel_rfl
  c46 := by kernel_rfl
  c51 := by kernel_rfl
  c53 := by kernel_rfl
  c75 := by kernel_rfl
  c76 := by kernel_rfl
  c80 := by kernel_rfl
  c85 := by kernel_rfl
  c127 := by kernel_rfl
  c143 := by kernel_rfl
  c145 := by kernel_rfl
  c167 := by kernel_rfl
  c168 := by kernel_rfl
  c171 := by kernel_rfl
  c173 := by kernel_rfl
  c175 := by kernel_rfl
  c210 := by kernel_rfl
  c212 := by kernel_rfl
  c213 := by kernel_rfl
  c232 := by kernel_rfl
  c233 := by kernel_rfl }
open Go.RowKit in
/-- strconv.Atoi, AT EVERY STRING THAT SPELLS AN int ('Lib.atoiAll .. = .ok v'; of whatever length: leading zeros count): v, AND NO ERROR. The world: as it was, or with the one new row that '[]byte(..)' lays. (LAID: no walk: one application.) -/
theorem Tryz.strconv_Atoi_ok (s : ByteArray) (hmax : s.size ≤ 9223372036854775806) (v : Int) (h : Lib.atoiAll s.data.toList = .ok v) (w : World) :
    Calls Tryz.prog 159 #[.string s] w fun e w' => e = .returned (.tuple #[.int .i64 v, .nilIface]) ∧ (w' = w ∨ ∃ t, w' = Lib.bytesWorld w 5 t) := Any.strconv_Atoi_ok Tryz.laysC172 s hmax v h w
open Go.RowKit in
theorem Tryz.strconv_Atoi_syntax_var (s : ByteArray) (hlim : s.size ≤ 281474976710656) (h : Lib.atoiAll s.data.toList = Lib.atoiAll []) (tp : TypeId) (p : Value) (w : World) (hvar : w.var? Tryz.prog "strconv.ErrSyntax" = some #[.iface tp p]) :
    Calls Tryz.prog 159 #[.string s] w fun e w' => ∃ N, e = .returned (.tuple #[.int .i64 0, .iface 270 (.pointer (some ⟨N, 0, none⟩))]) ∧ w.heap.size ≤ N ∧ w'.heap[N]? = some (.cells #[.string ⟨#[65, 116, 111, 105]⟩, .string s, .iface tp p] 281 (0, 0)) ∧ Below w.heap.size w w' := Any.strconv_Atoi_syntax_var Tryz.laysC172 s hlim h tp p w hvar
open Go.RowKit in
theorem Tryz.strconv_Atoi_range_var (s : ByteArray) (hlim : s.size ≤ 281474976710656) (h : Lib.atoiAll s.data.toList = .range) (tp : TypeId) (p : Value) (w : World) (hvar : w.var? Tryz.prog "strconv.ErrRange" = some #[.iface tp p]) :
    Calls Tryz.prog 159 #[.string s] w fun e w' => ∃ N, e = .returned (.tuple #[.int .i64 (Lib.atoiSat s.data.toList), .iface 270 (.pointer (some ⟨N, 0, none⟩))]) ∧ w.heap.size ≤ N ∧ w'.heap[N]? = some (.cells #[.string ⟨#[65, 116, 111, 105]⟩, .string s, .iface tp p] 281 (0, 0)) ∧ Below w.heap.size w w' := Any.strconv_Atoi_range_var Tryz.laysC172 s hlim h tp p w hvar
def Tryz.lays219_ren : Go.Shelf.Ren := ⟨fun | 219 => 158 | 217 => 193 | 225 => 194 | 224 => 195 | 267 => 196 | 266 => 213 | 314 => 214 | n => n, fun | 9 => 9 | 3 => 3 | 4 => 4 | 5 => 5 | 46 => 151 | 146 => 265 | 51 => 240 | n => n, fun | 1 => 0 | n => n⟩
theorem Tryz.lays219 : Go.Proofs.Lays.n219 Tryz.prog Tryz.lays219_ren := {
  mixed := by kernel_rfl
  f217 := Tryz.func193.trans (congrArg some (by kernel_rfl))
  f219 := Tryz.func158.trans (congrArg some (by kernel_rfl))
  f224 := Tryz.func195.trans (congrArg some (by kernel_rfl))
  f225 := Tryz.func194.trans (congrArg some (by kernel_rfl))
  f266 := Tryz.func213.trans (congrArg some (by kernel_rfl))
  f267 := Tryz.func196.trans (congrArg some (by kernel_rfl))
  f314 := Tryz.func214.trans (congrArg some (by kernel_rfl))
  t3 := Tryz.underlying3
  a3 := Tryz.isAgg3
  z3 := Tryz.sizeOf3
  v3 := Tryz.zeroValue3
  t4 := Tryz.underlying4
  a4 := Tryz.isAgg4
  z4 := Tryz.sizeOf4
  v4 := Tryz.zeroValue4
  t5 := Tryz.underlying5
  a5 := Tryz.isAgg5
  z5 := Tryz.sizeOf5
  v5 := Tryz.zeroValue5
  t9 := Tryz.underlying9
  a9 := Tryz.isAgg9
  z9 := Tryz.sizeOf9
  v9 := Tryz.zeroValue9
  t46 := Tryz.underlying151
  a46 := Tryz.isAgg151
  z46 := Tryz.sizeOf151
  v46 := Tryz.zeroValue151
  t51 := Tryz.underlying240
  a51 := Tryz.isAgg240
  z51 := Tryz.sizeOf240
  v51 := Tryz.zeroValue240
  t146 := Tryz.underlying265
  a146 := Tryz.isAgg265
  z146 := Tryz.sizeOf265
  v146 := Tryz.zeroValue265
  g1 := by kernel_rfl }
open Go.RowKit Go.Lib in
/-- internal/stringslite.Index (what strings.Index calls) AT A substr OF ONE BYTE c: IT RETURNS 'Lib.indexByte s c'; the world is as it was. (LAID: no walk: one application.) -/
theorem Tryz.stringslite_Index_one (s : ByteArray) (c : UInt8) (w : World) :
    Calls Tryz.prog 158 #[.string s, .string ⟨#[c]⟩] w fun e w' => e = .returned (.int .i64 (Lib.indexByte s.data.toList c)) ∧ w' = w := Any.stringslite_Index_one Tryz.lays219 s c w
def Tryz.lays143_ren : Go.Shelf.Ren := ⟨fun | 143 => 157 | 219 => 158 | 217 => 193 | 225 => 194 | 224 => 195 | 267 => 196 | 266 => 213 | 314 => 214 | n => n, fun | 9 => 9 | 3 => 3 | 4 => 4 | 5 => 5 | 46 => 151 | 146 => 265 | 51 => 240 | n => n, fun | 1 => 0 | n => n⟩
theorem Tryz.lays143 : Go.Proofs.Lays.n143 Tryz.prog Tryz.lays143_ren := {
  mixed := by kernel_rfl
  f143 := Tryz.func157.trans (congrArg some (by kernel_rfl))
  f217 := Tryz.func193.trans (congrArg some (by kernel_rfl))
  f219 := Tryz.func158.trans (congrArg some (by kernel_rfl))
  f224 := Tryz.func195.trans (congrArg some (by kernel_rfl))
  f225 := Tryz.func194.trans (congrArg some (by kernel_rfl))
  f266 := Tryz.func213.trans (congrArg some (by kernel_rfl))
  f267 := Tryz.func196.trans (congrArg some (by kernel_rfl))
  f314 := Tryz.func214.trans (congrArg some (by kernel_rfl))
  t3 := Tryz.underlying3
  a3 := Tryz.isAgg3
  z3 := Tryz.sizeOf3
  v3 := Tryz.zeroValue3
  t4 := Tryz.underlying4
  a4 := Tryz.isAgg4
  z4 := Tryz.sizeOf4
  v4 := Tryz.zeroValue4
  t5 := Tryz.underlying5
  a5 := Tryz.isAgg5
  z5 := Tryz.sizeOf5
  v5 := Tryz.zeroValue5
  t9 := Tryz.underlying9
  a9 := Tryz.isAgg9
  z9 := Tryz.sizeOf9
  v9 := Tryz.zeroValue9
  t46 := Tryz.underlying151
  a46 := Tryz.isAgg151
  z46 := Tryz.sizeOf151
  v46 := Tryz.zeroValue151
  t51 := Tryz.underlying240
  a51 := Tryz.isAgg240
  z51 := Tryz.sizeOf240
  v51 := Tryz.zeroValue240
  t146 := Tryz.underlying265
  a146 := Tryz.isAgg265
  z146 := Tryz.sizeOf265
  v146 := Tryz.zeroValue265
  g1 := by kernel_rfl }
open Go.RowKit Go.Lib in
/-- strings.Index: "Index returns the index of the first instance of substr in s, or -1 if substr is not present in s.": AT A substr OF ONE BYTE c: IT RETURNS 'Lib.indexByte s c'; the world is as it was. (LAID: no walk: one application.) -/
theorem Tryz.strings_Index_one (s : ByteArray) (c : UInt8) (w : World) :
    Calls Tryz.prog 157 #[.string s, .string ⟨#[c]⟩] w fun e w' => e = .returned (.int .i64 (Lib.indexByte s.data.toList c)) ∧ w' = w := Any.strings_Index_one Tryz.lays143 s c w
def Tryz.lays144_ren : Go.Shelf.Ren := ⟨fun | 144 => 166 | 143 => 157 | 219 => 158 | 217 => 193 | 225 => 194 | 224 => 195 | 267 => 196 | 266 => 213 | 314 => 214 | n => n, fun | 9 => 9 | 4 => 4 | 3 => 3 | 5 => 5 | 46 => 151 | 146 => 265 | 51 => 240 | n => n, fun | 1 => 0 | n => n⟩
theorem Tryz.lays144 : Go.Proofs.Lays.n144 Tryz.prog Tryz.lays144_ren := {
  mixed := by kernel_rfl
  f143 := Tryz.func157.trans (congrArg some (by kernel_rfl))
  f144 := Tryz.func166.trans (congrArg some (by kernel_rfl))
  f217 := Tryz.func193.trans (congrArg some (by kernel_rfl))
  f219 := Tryz.func158.trans (congrArg some (by kernel_rfl))
  f224 := Tryz.func195.trans (congrArg some (by kernel_rfl))
  f225 := Tryz.func194.trans (congrArg some (by kernel_rfl))
  f266 := Tryz.func213.trans (congrArg some (by kernel_rfl))
  f267 := Tryz.func196.trans (congrArg some (by kernel_rfl))
  f314 := Tryz.func214.trans (congrArg some (by kernel_rfl))
  t3 := Tryz.underlying3
  a3 := Tryz.isAgg3
  z3 := Tryz.sizeOf3
  v3 := Tryz.zeroValue3
  t4 := Tryz.underlying4
  a4 := Tryz.isAgg4
  z4 := Tryz.sizeOf4
  v4 := Tryz.zeroValue4
  t5 := Tryz.underlying5
  a5 := Tryz.isAgg5
  z5 := Tryz.sizeOf5
  v5 := Tryz.zeroValue5
  t9 := Tryz.underlying9
  a9 := Tryz.isAgg9
  z9 := Tryz.sizeOf9
  v9 := Tryz.zeroValue9
  t46 := Tryz.underlying151
  a46 := Tryz.isAgg151
  z46 := Tryz.sizeOf151
  v46 := Tryz.zeroValue151
  t51 := Tryz.underlying240
  a51 := Tryz.isAgg240
  z51 := Tryz.sizeOf240
  v51 := Tryz.zeroValue240
  t146 := Tryz.underlying265
  a146 := Tryz.isAgg265
  z146 := Tryz.sizeOf265
  v146 := Tryz.zeroValue265
  g1 := by kernel_rfl }
open Go.RowKit Go.Lib in
/-- strings.Contains: "Contains reports whether substr is within s.": AT A substr OF ONE BYTE c: IT RETURNS 'decide (0 ≤ Lib.indexByte s c)'; the world is as it was. (LAID: no walk: one application.) -/
theorem Tryz.strings_Contains_one (s : ByteArray) (c : UInt8) (w : World) :
    Calls Tryz.prog 166 #[.string s, .string ⟨#[c]⟩] w fun e w' => e = .returned (.bool (decide (0 ≤ Lib.indexByte s.data.toList c))) ∧ w' = w := Any.strings_Contains_one Tryz.lays144 s c w
def Tryz.lays138_ren : Go.Shelf.Ren := ⟨fun | 138 => 168 | 195 => 202 | 218 => 203 | 143 => 157 | 219 => 158 | 217 => 193 | 225 => 194 | 224 => 195 | 267 => 196 | 266 => 213 | 314 => 214 | n => n, fun | 9 => 9 | 3 => 3 | 4 => 4 | 5 => 5 | 0 => 0 | 46 => 151 | 146 => 265 | 51 => 240 | n => n, fun | 1 => 0 | n => n⟩
theorem Tryz.lays138 : Go.Proofs.Lays.n138 Tryz.prog Tryz.lays138_ren := {
  mixed := by kernel_rfl
  f138 := Tryz.func168.trans (congrArg some (by kernel_rfl))
  f143 := Tryz.func157.trans (congrArg some (by kernel_rfl))
  f195 := Tryz.func202.trans (congrArg some (by kernel_rfl))
  f217 := Tryz.func193.trans (congrArg some (by kernel_rfl))
  f218 := Tryz.func203.trans (congrArg some (by kernel_rfl))
  f219 := Tryz.func158.trans (congrArg some (by kernel_rfl))
  f224 := Tryz.func195.trans (congrArg some (by kernel_rfl))
  f225 := Tryz.func194.trans (congrArg some (by kernel_rfl))
  f266 := Tryz.func213.trans (congrArg some (by kernel_rfl))
  f267 := Tryz.func196.trans (congrArg some (by kernel_rfl))
  f314 := Tryz.func214.trans (congrArg some (by kernel_rfl))
  t0 := Tryz.underlying0
  a0 := Tryz.isAgg0
  z0 := Tryz.sizeOf0
  v0 := Tryz.zeroValue0
  t3 := Tryz.underlying3
  a3 := Tryz.isAgg3
  z3 := Tryz.sizeOf3
  v3 := Tryz.zeroValue3
  t4 := Tryz.underlying4
  a4 := Tryz.isAgg4
  z4 := Tryz.sizeOf4
  v4 := Tryz.zeroValue4
  t5 := Tryz.underlying5
  a5 := Tryz.isAgg5
  z5 := Tryz.sizeOf5
  v5 := Tryz.zeroValue5
  t9 := Tryz.underlying9
  a9 := Tryz.isAgg9
  z9 := Tryz.sizeOf9
  v9 := Tryz.zeroValue9
  t46 := Tryz.underlying151
  a46 := Tryz.isAgg151
  z46 := Tryz.sizeOf151
  v46 := Tryz.zeroValue151
  t51 := Tryz.underlying240
  a51 := Tryz.isAgg240
  z51 := Tryz.sizeOf240
  v51 := Tryz.zeroValue240
  t146 := Tryz.underlying265
  a146 := Tryz.isAgg265
  z146 := Tryz.sizeOf265
  v146 := Tryz.zeroValue265
  g1 := by kernel_rfl }
open Go.RowKit Go.Lib in
/-- strings.Count AT A substr OF ONE BYTE ('hp'): "Count counts the number of non-overlapping instances of substr in s.": IT RETURNS 'Lib.countByte s (that byte)'; the world is as it was. ✋ NO CONTRACT HERE YET at an empty substr (utf8.RuneCountInString) or at a longer one (a loop over strings.Index). (LAID: no walk: one application.) -/
theorem Tryz.strings_Count_one (s : ByteArray) (c : UInt8) (w : World) :
    Calls Tryz.prog 168 #[.string s, .string ⟨#[c]⟩] w fun e w' => e = .returned (.int .i64 (Lib.countByte s.data.toList c)) ∧ w' = w := Any.strings_Count_one Tryz.lays138 s c w
def Tryz.lays110_ren : Go.Shelf.Ren := ⟨fun | 110 => 135 | 109 => 164 | n => n, fun | 31 => 54 | 9 => 9 | 4 => 4 | 3 => 3 | 0 => 0 | n => n, fun | n => n⟩
theorem Tryz.lays110 : Go.Proofs.Lays.n110 Tryz.prog Tryz.lays110_ren := {
  mixed := by kernel_rfl
  f109 := Tryz.func164.trans (congrArg some (by kernel_rfl))
  f110 := Tryz.func135.trans (congrArg some (by kernel_rfl))
  t0 := Tryz.underlying0
  a0 := Tryz.isAgg0
  z0 := Tryz.sizeOf0
  v0 := Tryz.zeroValue0
  t3 := Tryz.underlying3
  a3 := Tryz.isAgg3
  z3 := Tryz.sizeOf3
  v3 := Tryz.zeroValue3
  t4 := Tryz.underlying4
  a4 := Tryz.isAgg4
  z4 := Tryz.sizeOf4
  v4 := Tryz.zeroValue4
  t9 := Tryz.underlying9
  a9 := Tryz.isAgg9
  z9 := Tryz.sizeOf9
  v9 := Tryz.zeroValue9
  t31 := Tryz.underlying54
  a31 := Tryz.isAgg54
  z31 := Tryz.sizeOf54
  v31 := Tryz.zeroValue54 }
open Go.Lib in
/-- slices.Contains at []string: "Contains reports whether v is present in s.": IT RETURNS 'Lib.containsS (the elements) v', which is true just where v is among them ('Lib.containsS_iff'); the world is as it was. ITS CALLEE slices.Index IS MET BY ITS OWN CONTRACT OFF THE SHELF (lay that first): no loop is walked here. (LAID: no walk: one application.) -/
theorem Tryz.slices_Contains_string (b off n c : Nat) (zs : List ByteArray) (x : ByteArray) (w : World) (hz : n ≤ zs.length) (hbig : n ≤ 9223372036854775807) (hc : ∀ j, j < zs.length → w.cell? ⟨b, off + j, none⟩ = some (.string (zs.getD j ByteArray.empty))) :
    Calls Tryz.prog 135 #[.slice (some ⟨b, off, none⟩) n c, .string x] w fun e w' => e = .returned (.bool (Lib.containsS (zs.take n) x)) ∧ w' = w := Any.slices_Contains_string Tryz.lays110 b off n c zs x w hz hbig hc
open Go.Lib in
/-- The same at a slice of length 0, a nil one too. (LAID: no walk: one application.) -/
theorem Tryz.slices_Contains_string_empty (a : Option Addr) (c : Nat) (x : ByteArray) (w : World) :
    Calls Tryz.prog 135 #[.slice a 0 c, .string x] w fun e w' => e = .returned (.bool false) ∧ w' = w := Any.slices_Contains_string_empty Tryz.lays110 a c x w
end Go.Proofs
namespace Go.Proofs.YtbdgblnccjpahaaGreatDoor

/-- A stream. -/
structure Sm where
  name : ByteArray
  per : Int
  dl : Int
  len : Int
/-- A message. -/
structure Ms where
  src : Int
  num : Int
  kind : Int
  d0 : Int
  d1 : Int
  d2 : Int
  d3 : Int
  deriving DecidableEq
/-- A frame. -/
structure Fr where
  a0 : Int
  a1 : Int
  a2 : Int
  a3 : Int
  a4 : Int
  a5 : Int
  a6 : Int
  a7 : Int
  deriving DecidableEq
/-- Numbers, and where they lie. -/
structure Rw where
  A : Option Addr
  c : Nat
  l : List Int
/-- A function of a net, and where its ways lie. -/
structure Fu where
  name : ByteArray
  A : Option Addr
  c : Nat
  ws : List Rw
structure Md where
  name : ByteArray
  r : Rw
structure Nt where
  ps : List ByteArray
  fs : List Fu
  ms : List Md

def cI (x : Int) : List Value := [.int .i64 x]
def cS (x : ByteArray) : List Value := [.string x]
def cSm (x : Sm) : List Value := [.string x.name, .int .i64 x.per, .int .i64 x.dl, .int .i64 x.len]
def Fr.l (f : Fr) : List Int := [f.a0, f.a1, f.a2, f.a3, f.a4, f.a5, f.a6, f.a7]
def cFr (x : Fr) : List Value := x.l.map (.int .i64)
abbrev vRw (x : Rw) : Value := .slice x.A x.l.length x.c
def cRw (x : Rw) : List Value := [vRw x]
def cFu (x : Fu) : List Value := [.string x.name, .slice x.A x.ws.length x.c]
def cMd (x : Md) : List Value := [.string x.name, vRw x.r]

abbrev vSm (x : Sm) : Value := .agg #[.string x.name, .int .i64 x.per, .int .i64 x.dl, .int .i64 x.len]
abbrev vFu (x : Fu) : Value := .agg #[.string x.name, .slice x.A x.ws.length x.c]
abbrev vMd (x : Md) : Value := .agg #[.string x.name, vRw x.r]
abbrev aMs (m : Ms) : Array Value := #[.int .i64 m.src, .int .i64 m.num, .int .i64 m.kind, .int .i64 m.d0, .int .i64 m.d1, .int .i64 m.d2, .int .i64 m.d3]
abbrev vMs (m : Ms) : Value := .agg (aMs m)
abbrev aFr (f : Fr) : Array Value := #[.int .i64 f.a0, .int .i64 f.a1, .int .i64 f.a2, .int .i64 f.a3, .int .i64 f.a4, .int .i64 f.a5, .int .i64 f.a6, .int .i64 f.a7]
abbrev vFr (f : Fr) : Value := .agg (aFr f)

/-- The first error, and its place. -/
def eachS {α : Type} (err : Nat → α → Int) : List α → Nat → Int × Int
  | [], _ => (0, 0)
  | x :: l, k => if err k x = 0 then eachS err l (k + 1) else ((k : Int), err k x)
theorem eachS_drop {α : Type} (err : Nat → α → Int) (l : List α) (k : Nat) (x : α) (hx : l[k]? = some x) :
    eachS err (l.drop k) k = if err k x = 0 then eachS err (l.drop (k + 1)) (k + 1) else ((k : Int), err k x) := by
  have hk : k < l.length := (List.getElem?_eq_some_iff.1 hx).1
  have e : l[k] = x := (List.getElem?_eq_some_iff.1 hx).2
  rw [List.drop_eq_getElem_cons hk, e]
  rfl
theorem eachS_ok {α : Type} (err : Nat → α → Int) : ∀ (l : List α) (k : Nat), (eachS err l k).2 = 0 → ∀ j x, l[j]? = some x → err (k + j) x = 0
  | [], k, _, j, x, hx => by simp at hx
  | y :: l, k, h, j, x, hx => by
    unfold eachS at h
    by_cases h0 : err k y = 0
    · rw [if_pos h0] at h
      cases j with
      | zero =>
        simp at hx
        subst hx
        exact h0
      | succ j =>
        have := eachS_ok err l (k + 1) h j x (by simpa using hx)
        rwa [Nat.add_assoc, Nat.add_comm 1 j] at this
    · rw [if_neg h0] at h
      exact absurd h h0
theorem eachS_zero {α : Type} (err : Nat → α → Int) : ∀ (l : List α) (k : Nat), (∀ j x, l[j]? = some x → err (k + j) x = 0) → eachS err l k = (0, 0)
  | [], _, _ => rfl
  | y :: l, k, h => by
    unfold eachS
    have h0 : err k y = 0 := h 0 y rfl
    rw [if_pos h0, eachS_zero err l (k + 1) fun j x hx => by
      have := h (j + 1) x (by simpa using hx)
      rwa [Nat.add_assoc, Nat.add_comm 1 j]]

def inR (n lo hi : Int) : Bool := decide (lo ≤ n) && decide (n ≤ hi)
theorem inR_iff {n lo hi : Int} : inR n lo hi = true ↔ lo ≤ n ∧ n ≤ hi := by simp [inR]
/-- Letters, and what else may stand in a name behind its first letter. -/
def letter (c : UInt8) : Bool := (decide (97 ≤ c.toNat) && decide (c.toNat ≤ 122)) || (decide (65 ≤ c.toNat) && decide (c.toNat ≤ 90))
def other (c : UInt8) : Bool := (decide (48 ≤ c.toNat) && decide (c.toNat ≤ 57)) || decide (c.toNat = 45)
def nameFrom : Nat → List UInt8 → Bool
  | _, [] => true
  | i, c :: l => (letter c || (decide (i ≠ 0) && other c)) && nameFrom (i + 1) l
def nameB (s : ByteArray) : Bool := nameFrom 0 s.data.toList && inR s.size 1 12
theorem nameFrom_drop (l : List UInt8) (k : Nat) (c : UInt8) (hx : l[k]? = some c) : nameFrom k (l.drop k) = ((letter c || (decide (k ≠ 0) && other c)) && nameFrom (k + 1) (l.drop (k + 1))) := by
  have hk : k < l.length := (List.getElem?_eq_some_iff.1 hx).1
  have e : l[k] = c := (List.getElem?_eq_some_iff.1 hx).2
  rw [List.drop_eq_getElem_cons hk, e]
  rfl
theorem letter_iff (c : UInt8) : letter c = true ↔ (97 ≤ c.toNat ∧ c.toNat ≤ 122 ∨ 65 ≤ c.toNat ∧ c.toNat ≤ 90) := by unfold letter; simp
theorem other_iff (c : UInt8) : other c = true ↔ (48 ≤ c.toNat ∧ c.toNat ≤ 57 ∨ c.toNat = 45) := by unfold other; simp
/-- An error unless a condition holds; the first error of some. -/
def unl (b : Bool) (e : Int) : Int := if b then 0 else e
def fstE : List Int → Int
  | [] => 0
  | e :: l => if e = 0 then fstE l else e
theorem fstE_drop (l : List Int) (k : Nat) (x : Int) (hx : l[k]? = some x) : fstE (l.drop k) = if x = 0 then fstE (l.drop (k + 1)) else x := by
  have hk : k < l.length := (List.getElem?_eq_some_iff.1 hx).1
  have e : l[k] = x := (List.getElem?_eq_some_iff.1 hx).2
  rw [List.drop_eq_getElem_cons hk, e]
  rfl
theorem unl_zero {b : Bool} {e : Int} (he : e ≠ 0) : unl b e = 0 ↔ b = true := by
  cases b <;> simp [unl, he]
theorem fst_cons (e : Int) (l : List Int) : fstE (e :: l) = 0 ↔ e = 0 ∧ fstE l = 0 := by
  show (if e = 0 then fstE l else e) = 0 ↔ _
  by_cases h : e = 0 <;> simp [h]
def byteB (n : Int) : Bool := inR n 0 255
def bytesE (l : List Int) : Int := (eachS (fun _ n => unl (byteB n) 2) l 0).2
def crc1 (r : Nat) : Nat := if 256 ≤ 2 * r then (2 * r) ^^^ 263 else 2 * r
def crcK : Nat → Nat → Nat
  | 0, r => r
  | k + 1, r => crcK k (crc1 r)
def remN : List Nat → Nat → Nat
  | [], r => r
  | n :: l, r => remN l (crcK 8 (r ^^^ n))
def remI (l : List Int) : Nat := remN (l.map Int.toNat) 0
def msE (m : Ms) : Int := fstE [unl ((inR m.src 0 15 && inR m.kind 0 3) && byteB m.num) 2, bytesE [m.d0, m.d1, m.d2, m.d3]]
def ms0 : Ms := ⟨0, 0, 0, 0, 0, 0, 0⟩
def fr0 : Fr := ⟨0, 0, 0, 0, 0, 0, 0, 0⟩
def frameOf (m : Ms) : Fr := ⟨m.src, m.num, m.kind, m.d0, m.d1, m.d2, m.d3, remI [m.src, m.num, m.kind, m.d0, m.d1, m.d2, m.d3]⟩
def encS (m : Ms) : Fr × Int := if msE m = 0 then (frameOf m, 0) else (fr0, msE m)
def Fr.head (f : Fr) : List Int := [f.a0, f.a1, f.a2, f.a3, f.a4, f.a5, f.a6]
def Fr.ms (f : Fr) : Ms := ⟨f.a0, f.a1, f.a2, f.a3, f.a4, f.a5, f.a6⟩
def decS (f : Fr) : Ms × Int :=
  if bytesE f.l = 0 then (if fstE [unl (decide (f.a7 = (remI f.head : Int))) 19, msE f.ms] = 0 then (f.ms, 0) else (ms0, fstE [unl (decide (f.a7 = (remI f.head : Int))) 19, msE f.ms])) else (ms0, bytesE f.l)

/-! ### Silence. -/
def prevI (l : List Int) (k : Nat) : Int := if k = 0 then -1 else l.getD (k - 1) 0
def knownB (l : List ByteArray) (s : ByteArray) : Bool := l.any fun o => o.toList == s.toList
def smErr (l : List Sm) (i : Nat) (s : Sm) : Int := fstE [unl (nameB s.name) 4, unl (!knownB ((l.take i).map (·.name)) s.name) 5, unl (inR s.per 1 60 && (inR s.dl 1 s.per && inR s.len 1 20)) 2]
def lenE (n m : Nat) : Int := fstE [unl (decide (0 < n)) 10, unl (decide ((n : Int) ≤ m)) 8]
def smsChk (l : List Sm) : Int × Int := if lenE l.length 6 = 0 then eachS (smErr l) l 0 else (0, lenE l.length 6)
def smsErr (l : List Sm) : Int := (smsChk l).2
/-- The demand of the streams ahead, and of one's own. -/
def respF (before : List Sm) (len : Int) (r : Int) : Int := (before.map fun o => o.len * ((r + o.per - 1) / o.per)).foldl (· + ·) len

/-! ### Nets. -/
def nmErr (l : List ByteArray) (i : Nat) (s : ByteArray) : Int := fstE [unl (nameB s) 4, unl (!knownB (l.take i) s) 5]
def idxErr (l : List Int) (count : Int) : Int := (eachS (fun k n => fstE [unl (inR n 0 (count - 1)) 6, unl (decide (prevI l k < n)) 9]) l 0).2
def waysE (parts : Int) (e : Int) (ws : List Rw) : Int := ws.foldl (fun e w => fstE [e, unl (decide (0 < w.l.length)) 10, idxErr w.l parts]) e
def fuErr (parts : Int) (names : List ByteArray) (i : Nat) (f : Fu) : Int :=
  waysE parts (fstE [nmErr names i f.name, unl (decide (0 < f.ws.length)) 10, unl (decide ((f.ws.length : Int) ≤ 6)) 8]) f.ws
def mdErr (funs : Int) (names : List ByteArray) (i : Nat) (m : Md) : Int := fstE [nmErr names i m.name, idxErr m.r.l funs]
def Nt.e0 (n : Nt) : Int := fstE [unl (decide (0 < n.ps.length)) 10, unl (decide (max (n.ps.length : Int) n.fs.length ≤ 10) && decide ((n.ms.length : Int) ≤ 6)) 8]
def netChk (n : Nt) : Int × Int :=
  if n.e0 = 0 then
    (if (eachS (nmErr n.ps) n.ps 0).2 = 0 then
      (if (eachS (fuErr n.ps.length (n.fs.map (·.name))) n.fs 0).2 = 0 then eachS (mdErr n.fs.length (n.ms.map (·.name))) n.ms 0
       else eachS (fuErr n.ps.length (n.fs.map (·.name))) n.fs 0)
     else eachS (nmErr n.ps) n.ps 0)
  else (0, n.e0)
def netErr (n : Nt) : Int := (netChk n).2
/-- A set of numbers as bits, the numbers of a set. -/
def setN (l : List Int) : Nat := l.foldl (fun s n => s ||| 2 ^ n.toNat) 0
def setL (s : Nat) : Nat → List Int
  | 0 => []
  | k + 1 => setL s k ++ if s.testBit k then [(k : Int)] else []
def listS (s : Nat) : List Int := setL s 10
def sizeS (s : Nat) : Nat := (listS s).length
def worksB (f : Fu) (failed : Nat) : Bool := f.ws.any fun w => setN w.l &&& failed == 0
def workN (fs : List Fu) (failed : Nat) : Nat → Nat
  | 0 => 0
  | k + 1 => match fs[k]? with
    | some f => if worksB f failed then workN fs failed k ||| 2 ^ k else workN fs failed k
    | none => workN fs failed k
def lexB : List Int → List Int → Bool
  | [], [] => false
  | [], _ :: _ => true
  | _ :: _, [] => false
  | x :: a, y :: b => if x = y then lexB a b else decide (x < y)
def smallB (s best : Nat) : Bool := decide (sizeS s < sizeS best) || (decide (sizeS s = sizeS best) && lexB (listS s) (listS best))
def cutTo (f : Fu) (best : Nat) : Nat → Nat
  | 0 => best
  | k + 1 => if smallB k (cutTo f best k) && !worksB f k then k else cutTo f best k
def cutS (f : Fu) (parts : Nat) : Nat := cutTo f (2 ^ parts - 1) (2 ^ parts)
end Go.Proofs.YtbdgblnccjpahaaGreatDoor
