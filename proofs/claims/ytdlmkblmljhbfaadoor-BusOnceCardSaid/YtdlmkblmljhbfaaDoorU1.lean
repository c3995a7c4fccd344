/-
  Small words and lemmas on worlds that every walk of this seat uses; nothing here speaks of the program's functions.
  A region that draws its order, walked in one planned order: what only reads is taken as soon as it may come up, all else comes up one at a time.
  A region that draws its order, in whatever order: each operation is walked once, knowing only what it waits for. Blocks that are made within it have numbers that depend on the order: they are ghosts.
  The world under a new name: what is known of it is that nothing old turned, and some of its blocks.
  A region that draws its order, in whatever order, within a round of a range over a function: each operation is carried out there as anywhere.
  A loop over a bound method that is an iterator: its body, walked once, goes on; a round may turn the caller's own blocks X alone.
-/
import Derived.Test.YtdlmkblmljhbfaaDoorRows
import Derived.WalkKit
import Derived.WalkSpells
import Derived.WalkLawsBesides
import Derived.Lib.Hide
import Derived.Deep.QuietTactic
import Derived.BigQuiet
import Derived.BigRegion
import Derived.Deep.RegionHeld3
import Derived.Deep.LoopGhost
import Derived.Laws.IdiomStrings
import Derived.StillTailTactics
import Derived.Lib.MinMax
import Derived.StillTail
import Derived.Deep.Cut
import Derived.LoopNIn
import Derived.RangeFuncNested
import Derived.RangeFuncCalls
import Derived.OrdersIn
import Derived.RangeFuncLeaves
namespace Go.Proofs.YtdlmkblmljhbfaaDoor
set_option linter.unusedSimpArgs false
set_option linter.unusedVariables false
open Go.RowKit

/-- The call hands back v, and nothing that lay there has turned. -/
def Ret (v : Value) (w : World) (e : Ending) (w' : World) : Prop := e = .returned v ∧ Below w.heap.size w w'
/-- The call hands back v and leaves the world as it was. -/
def Same (v : Value) (w : World) (e : Ending) (w' : World) : Prop := e = .returned v ∧ w = w'

theorem bl_refl (w : World) : Below w.heap.size w w := Below.refl _ _
theorem bl_al {w X : World} (o : Obj) (h : Below w.heap.size w X) : Below w.heap.size w (X.alloc o) := h.alloc h.size o
theorem bl_drew {w X : World} (h : Below w.heap.size w X) : Below w.heap.size w X.drew := ⟨h.os, h.tape, h.output, h.size, h.block⟩
theorem bl_drewN {w X : World} (n : Nat) (h : Below w.heap.size w X) : Below w.heap.size w (X.drewN n) := ⟨h.os, h.tape, h.output, h.size, h.block⟩
theorem bl_tr {w X Y : World} (h : Below w.heap.size w X) (h' : Below X.heap.size X Y) : Below w.heap.size w Y := h.trans (h'.mono h.size)
theorem bl_tt {X Y : World} (h' : Below X.heap.size X Y) : ∀ w : World, Below w.heap.size w X → Below w.heap.size w Y := fun _ h => bl_tr h h'
theorem bl_set {w X : World} {p : Addr} (hp : w.heap.size ≤ p.block) (v : Value) (h : Below w.heap.size w X) : Below w.heap.size w (X.setCell p v) := h.setCell hp v

theorem kcell {W W' : World} {p : Addr} {v : Value} (hb : Below W.heap.size W W') (h : W.cell? p = some v) : W'.cell? p = some v := (hb.cell (World.block_lt_of_cell? W p h)).trans h

/-- Block g is just these cells, none frozen. -/
def Blk (w : World) (g : Nat) (t : TypeId) (cs : Array Value) : Prop := w.heap[g]? = some (.cells cs t (0, 0))
theorem Blk.lt {w : World} {g : Nat} {t : TypeId} {cs : Array Value} (h : Blk w g t cs) : g < w.heap.size := by
  unfold Blk at h
  exact (Array.getElem?_eq_some_iff.1 h).1
theorem Blk.cell {w : World} {g : Nat} {t : TypeId} {cs : Array Value} (h : Blk w g t cs) (i : Nat) : w.cell? ⟨g, i, none⟩ = cs[i]? := by
  unfold Blk at h
  simp [World.cell?, h]
theorem Blk.frozen {w : World} {g : Nat} {t : TypeId} {cs : Array Value} (h : Blk w g t cs) (i : Nat) : w.frozen? ⟨g, i, none⟩ = false := by
  unfold Blk at h
  simp [World.frozen?, h]
theorem Blk.below {w w' : World} {g : Nat} {t : TypeId} {cs : Array Value} (h : Blk w g t cs) (hb : Below w.heap.size w w') : Blk w' g t cs := (hb.block g h.lt).trans h
theorem Blk.alloc {w : World} {g : Nat} {t : TypeId} {cs : Array Value} (h : Blk w g t cs) (o : Obj) : Blk (w.alloc o) g t cs := h.below (bl_al o (bl_refl w))
theorem Blk.new (w : World) (t : TypeId) (cs : Array Value) : Blk (w.alloc (.cells cs t)) w.heap.size t cs := by
  unfold Blk
  exact heap_alloc_new w _
/-- What a block of now holds in every later world. -/
theorem Blk.later {w : World} {g : Nat} {t : TypeId} {cs : Array Value} (h : Blk w g t cs) : ∀ W, Below w.heap.size w W → ∀ i, W.cell? ⟨g, i, none⟩ = cs[i]? := fun _ hb i => (h.below hb).cell i
theorem later {w : World} {p : Addr} {v : Value} (h : w.cell? p = some v) : ∀ W, Below w.heap.size w W → W.cell? p = some v := fun _ hb => kcell hb h

section
variable {P : Program} {c : Code} {Q : Exit → Act → World → Prop} {a : Act} {w : World}
variable {x y z u v r : Array Value} {S T U V X Y : TypeId}
theorem abs1 (h : ∀ w0, Below w.heap.size w w0 → Blk w0 w.heap.size S x → c.wp P Q a w0) : c.wp P Q a (w.alloc (.cells x S)) := by
  have k0 := Blk.new w S x
  exact h _ (bl_al _ (bl_refl w)) k0
theorem abs2 (h : ∀ w0, Below w.heap.size w w0 → Blk w0 w.heap.size S x → Blk w0 (w.heap.size + 1) T y → c.wp P Q a w0) : c.wp P Q a ((w.alloc (.cells x S)).alloc (.cells y T)) := by
  have k0 := Blk.new w S x
  have k1 := Blk.new (w.alloc (.cells x S)) T y
  simp only [World.size_alloc] at k1
  exact h _ (bl_al _ (bl_al _ (bl_refl w))) (k0.alloc _) k1
theorem abs3 (h : ∀ w0, Below w.heap.size w w0 → Blk w0 w.heap.size S x → Blk w0 (w.heap.size + 1) T y → Blk w0 (w.heap.size + 2) U z → c.wp P Q a w0) : c.wp P Q a (((w.alloc (.cells x S)).alloc (.cells y T)).alloc (.cells z U)) := by
  have k0 := Blk.new w S x
  have k1 := Blk.new (w.alloc (.cells x S)) T y
  have k2 := Blk.new ((w.alloc (.cells x S)).alloc (.cells y T)) U z
  simp only [World.size_alloc] at k1 k2
  exact h _ (bl_al _ (bl_al _ (bl_al _ (bl_refl w)))) ((k0.alloc _).alloc _) (k1.alloc _) k2
theorem abs4 (h : ∀ w0, Below w.heap.size w w0 → Blk w0 w.heap.size S x → Blk w0 (w.heap.size + 1) T y → Blk w0 (w.heap.size + 2) U z → Blk w0 (w.heap.size + 3) V u → c.wp P Q a w0) : c.wp P Q a ((((w.alloc (.cells x S)).alloc (.cells y T)).alloc (.cells z U)).alloc (.cells u V)) := by
  have k0 := Blk.new w S x
  have k1 := Blk.new (w.alloc (.cells x S)) T y
  have k2 := Blk.new ((w.alloc (.cells x S)).alloc (.cells y T)) U z
  have k3 := Blk.new (((w.alloc (.cells x S)).alloc (.cells y T)).alloc (.cells z U)) V u
  simp only [World.size_alloc] at k1 k2 k3
  exact h _ (bl_al _ (bl_al _ (bl_al _ (bl_al _ (bl_refl w))))) (((k0.alloc _).alloc _).alloc _) ((k1.alloc _).alloc _) (k2.alloc _) k3
theorem abs5 (h : ∀ w0, Below w.heap.size w w0 → Blk w0 w.heap.size S x → Blk w0 (w.heap.size + 1) T y → Blk w0 (w.heap.size + 2) U z → Blk w0 (w.heap.size + 3) V u → Blk w0 (w.heap.size + 4) X v → c.wp P Q a w0) : c.wp P Q a (((((w.alloc (.cells x S)).alloc (.cells y T)).alloc (.cells z U)).alloc (.cells u V)).alloc (.cells v X)) := by
  have k0 := Blk.new w S x
  have k1 := Blk.new (w.alloc (.cells x S)) T y
  have k2 := Blk.new ((w.alloc (.cells x S)).alloc (.cells y T)) U z
  have k3 := Blk.new (((w.alloc (.cells x S)).alloc (.cells y T)).alloc (.cells z U)) V u
  have k4 := Blk.new ((((w.alloc (.cells x S)).alloc (.cells y T)).alloc (.cells z U)).alloc (.cells u V)) X v
  simp only [World.size_alloc] at k1 k2 k3 k4
  exact h _ (bl_al _ (bl_al _ (bl_al _ (bl_al _ (bl_al _ (bl_refl w)))))) ((((k0.alloc _).alloc _).alloc _).alloc _) (((k1.alloc _).alloc _).alloc _) ((k2.alloc _).alloc _) (k3.alloc _) k4
theorem abs6 (h : ∀ w0, Below w.heap.size w w0 → Blk w0 w.heap.size S x → Blk w0 (w.heap.size + 1) T y → Blk w0 (w.heap.size + 2) U z → Blk w0 (w.heap.size + 3) V u → Blk w0 (w.heap.size + 4) X v → Blk w0 (w.heap.size + 5) Y r → c.wp P Q a w0) : c.wp P Q a ((((((w.alloc (.cells x S)).alloc (.cells y T)).alloc (.cells z U)).alloc (.cells u V)).alloc (.cells v X)).alloc (.cells r Y)) := by
  have k0 := Blk.new w S x
  have k1 := Blk.new (w.alloc (.cells x S)) T y
  have k2 := Blk.new ((w.alloc (.cells x S)).alloc (.cells y T)) U z
  have k3 := Blk.new (((w.alloc (.cells x S)).alloc (.cells y T)).alloc (.cells z U)) V u
  have k4 := Blk.new ((((w.alloc (.cells x S)).alloc (.cells y T)).alloc (.cells z U)).alloc (.cells u V)) X v
  have k5 := Blk.new (((((w.alloc (.cells x S)).alloc (.cells y T)).alloc (.cells z U)).alloc (.cells u V)).alloc (.cells v X)) Y r
  simp only [World.size_alloc] at k1 k2 k3 k4 k5
  exact h _ (bl_al _ (bl_al _ (bl_al _ (bl_al _ (bl_al _ (bl_al _ (bl_refl w))))))) (((((k0.alloc _).alloc _).alloc _).alloc _).alloc _) ((((k1.alloc _).alloc _).alloc _).alloc _) (((k2.alloc _).alloc _).alloc _) ((k3.alloc _).alloc _) (k4.alloc _) k5
end

/-- A slice's elements, each of so many cells, lie where its address says. -/
def Sl {α : Type} (cs : α → List Value) (sz : Nat) (w : World) (A : Option Addr) (l : List α) : Prop :=
  ∀ k x, l[k]? = some x → ∃ b off, A = some ⟨b, off, none⟩ ∧ ∀ j v, (cs x)[j]? = some v → w.cell? ⟨b, off + k * sz + j, none⟩ = some v
theorem Sl.below {α : Type} {cs : α → List Value} {sz : Nat} {w w' : World} {A : Option Addr} {l : List α} (h : Sl cs sz w A l) (hb : Below w.heap.size w w') : Sl cs sz w' A l := fun k x hx => by
  obtain ⟨b, off, e, hc⟩ := h k x hx
  exact ⟨b, off, e, fun j v hv => kcell hb (hc j v hv)⟩
theorem Sl.take {α : Type} {cs : α → List Value} {sz : Nat} {w : World} {A : Option Addr} {l : List α} (h : Sl cs sz w A l) (n : Nat) : Sl cs sz w A (l.take n) := fun k x hx => by
  rw [List.getElem?_take] at hx
  split at hx
  · exact h k x hx
  · simp at hx
theorem Sl.nil {α : Type} {cs : α → List Value} {sz : Nat} {w : World} {A : Option Addr} : Sl cs sz w A ([] : List α) := fun k x hx => by simp at hx

/-- A function value answers p of whatever element of l stands as enc x, in every later world. -/
def Preds (P : Program) (f : FuncId) (lb : Array Value) (w : World) {α : Type} (enc : α → Value) (l : List α) (p : α → Bool) : Prop :=
  ∀ x ∈ l, ∀ W : World, Below w.heap.size w W → Calls P f (#[enc x] ++ lb) W (Ret (.bool (p x)) W)
/-- The place of the first element of which p holds, from a number on; -1. -/
def idxF {α : Type} (p : α → Bool) : List α → Int → Int
  | [], _ => -1
  | x :: l, k => if p x then k else idxF p l (k + 1)
theorem idxF_ge {α : Type} (p : α → Bool) : ∀ (l : List α) (k : Int), 0 ≤ k → decide (0 ≤ idxF p l k) = l.any p
  | [], k, _ => by simp [idxF]
  | x :: l, k, hk => by
    have := idxF_ge p l (k + 1) (by omega)
    by_cases h : p x
    · simp [idxF, h, hk]
    · simp [idxF, h, this]
theorem idxF_drop {α : Type} (p : α → Bool) (l : List α) (k : Nat) (x : α) (hx : l[k]? = some x) : idxF p (l.drop k) k = if p x then (k : Int) else idxF p (l.drop (k + 1)) ((k : Int) + 1) := by
  have hk : k < l.length := (List.getElem?_eq_some_iff.1 hx).1
  have e : l[k] = x := (List.getElem?_eq_some_iff.1 hx).2
  rw [List.drop_eq_getElem_cons hk, e]
  rfl

/-- '[]byte(s)': a new block that holds the bytes. -/
theorem bytes_conv {P : Program} {src dst e : TypeId} (s : ByteArray) (hs : P.underlying src = some .string) (hd : P.underlying dst = some (.slice e)) (he : P.underlying e = some (.int .u8)) (w : World) :
    ∃ cap w1, (convert src dst (.string s)).run P w = .ok (.slice (some ⟨w.heap.size, 0, none⟩) s.size cap) w1 ∧ Below w.heap.size w w1 ∧
      ∀ (j : Nat) (c : UInt8), s.data.toList[j]? = some c → w1.cell? ⟨w.heap.size, j, none⟩ = some (.int .u8 (c.toNat : Nat)) := by
  refine ⟨_, _, run_bytes_of_string w src dst e s hs hd he, bl_al _ (bl_drew (bl_refl w)), fun j c hc => ?_⟩
  have hj : j < s.data.size := by have := (List.getElem?_eq_some_iff.1 hc).1; simpa using this
  have h1 := bytesRow_at s (grownCap w s.size 0 e) j hj
  have h2 : s.data[j] = c := by
    have := (List.getElem?_eq_some_iff.1 hc).2
    simpa using this
  rw [h2] at h1
  exact (World.cell?_alloc_mark w.drew _ _ _ j).trans h1
end Go.Proofs.YtdlmkblmljhbfaaDoor
namespace Go.Proofs.YtdlmkblmljhbfaaDoor
set_option linter.unusedSimpArgs false
set_option linter.unusedVariables false
open Go.RowKit

section
variable {P : Program} {ops : Array Oper} {Q : Exit → Act → World → Prop} {S : World → Prop}
/-- The walk of a plan: (i, true) yields its value in every world that meets S, (i, false) is carried out. -/
def PlanW (P : Program) (ops : Array Oper) (Q : Exit → Act → World → Prop) (S : World → Prop) : List (Nat × Bool) → Act → World → Prop
  | [], a, w => Q .normal a w
  | (i, true) :: l, a, w => ∃ o v, ops[i]? = some o ∧ YieldsIf P ops S o v a ∧ PlanW P ops Q S l (a.put o.dst v) w
  | (i, false) :: l, a, w => wpOp P ops Q i (fun a' w' => S w' ∧ PlanW P ops Q S l a' w') a w
/-- Whether a plan fits the region's edges. -/
def planOk (ops : Array Oper) : List (Nat × Bool) → Array Bool → Bool
  | [], listed => (Region.ready .any ops listed).isEmpty
  | (i, true) :: l, listed => Region.free .any ops listed i && ((Region.ready .any ops listed).contains i && planOk ops l (listed.setIfInBounds i true))
  | (i, false) :: l, listed => (Region.ready .any ops listed == [i]) && planOk ops l (listed.setIfInBounds i true)
theorem planW_any (hs : Region.noSelect ops = true) (hQ : ∀ c a w (d : Option Tmp) (v : Value), Q (.panic c) (a.put d v) w → Q (.panic c) a w) :
    ∀ (l : List (Nat × Bool)) (listed : Array Bool) (a : Act) (w : World), planOk ops l listed = true → S w → PlanW P ops Q S l a w → wpAnyH P .any ops Q S l.length listed a w
  | [], listed, a, w, hp, _, h => wpAnyH_done (by simpa [planOk] using hp) h _
  | (i, true) :: l, listed, a, w, hp, hS, h => by
    obtain ⟨o, v, ho, hy, hr⟩ := h
    simp only [planOk, Bool.and_eq_true] at hp
    exact wpAnyH_take ho hs hp.1 hp.2.1 (fun c a w h => hQ c a w _ _ h) hy hS (planW_any hs hQ l _ _ w hp.2.2 hS hr)
  | (i, false) :: l, listed, a, w, hp, _, h => by
    simp only [planOk, Bool.and_eq_true, beq_iff_eq] at hp
    refine wpAnyH_all (rs := [i]) hp.1 (by simp) fun j hj => ?_
    obtain rfl : j = i := by simpa using hj
    exact wpOp_mono (fun a' w' h' => ⟨h'.1, planW_any hs hQ l _ a' w' hp.2 h'.1 h'.2⟩) h
theorem wp_plan {id : Nat} {a : Act} {w : World} (l : List (Nat × Bool)) (S : World → Prop) (hm : P.follows .mixedOrders = true) (hs : Region.noSelect ops = true) (hl : (l.length == ops.size && planOk ops l (Array.replicate ops.size false)) = true)
    (hS : S w.drew) (h : PlanW P ops (NoPanic Q) S l a w.drew) : (Code.region id ops true).wp P Q a w := by
  simp only [Bool.and_eq_true, beq_iff_eq] at hl
  refine wp_region_noPanic (wp_region_held (S := S) hm ?_)
  rw [← hl.1] at *
  exact planW_any hs (fun _ _ _ _ _ h => h) l _ a w.drew hl.2 hS h
theorem PlanW.done {a : Act} {w : World} (h : Q .normal a w) : PlanW P ops (NoPanic Q) S [] a w := h
theorem PlanW.on {i : Nat} {l : List (Nat × Bool)} {a : Act} {w : World} {o : Oper} {v : Value} (hi : ops[i]? = some o) (hw : Region.wanted o (yielded ops a.tmps) = true)
    (hy : ∀ W, S W → (execOp a.eval o).run P W = .ok (.value v) W) (h : PlanW P ops Q S l (a.put o.dst v) w) : PlanW P ops Q S ((i, true) :: l) a w := ⟨o, v, hi, .inl ⟨hw, hy⟩, h⟩
theorem PlanW.off {i : Nat} {l : List (Nat × Bool)} {a : Act} {w : World} {o : Oper} (hi : ops[i]? = some o) (hw : Region.wanted o (yielded ops a.tmps) = false)
    (h : PlanW P ops Q S l (a.put o.dst undef) w) : PlanW P ops Q S ((i, true) :: l) a w := ⟨o, undef, hi, .inr ⟨hw, rfl⟩, h⟩
theorem PlanW.step {i : Nat} {l : List (Nat × Bool)} {a : Act} {w : World} {o : Oper} (hi : ops[i]? = some o) (hw : Region.wanted o (yielded ops a.tmps) = true)
    (h : ∀ K : Act → World → Prop, Shut (∀ a' w', S w' → (S w' → PlanW P ops Q S l a' w') → K a' w') → Oper.wp P o a w K Q) : PlanW P ops Q S ((i, false) :: l) a w :=
  wpOp_step hi fun K hK => by
    rw [if_pos hw]
    exact h K (fun a' w' hS hp => hK a' w' ⟨hS, hp hS⟩)
theorem PlanW.stepOff {i : Nat} {l : List (Nat × Bool)} {a : Act} {w : World} {o : Oper} (hi : ops[i]? = some o) (hw : Region.wanted o (yielded ops a.tmps) = false) (hS : S w)
    (h : PlanW P ops Q S l (a.put o.dst undef) w) : PlanW P ops Q S ((i, false) :: l) a w :=
  wpOp_step hi fun K hK => by
    rw [if_neg (by rw [hw]; decide)]
    exact hK _ _ ⟨hS, h⟩
end

/-- Since w all blocks that lay there are as they were, but for some. -/
structure BX (X : List Nat) (w W : World) : Prop where
  os : W.os = w.os
  tape : W.tape = w.tape
  output : W.output = w.output
  size : w.heap.size ≤ W.heap.size
  block : ∀ i, i < w.heap.size → i ∉ X → W.heap[i]? = w.heap[i]?
  shape : ∀ g ∈ X, ∀ t cs, Blk w g t cs → ∃ cs', Blk W g t cs' ∧ cs'.size = cs.size
theorem bx_refl (X : List Nat) (w : World) : BX X w w := ⟨rfl, rfl, rfl, Nat.le_refl _, fun _ _ _ => rfl, fun _ _ _ cs h => ⟨cs, h, rfl⟩⟩
theorem BX.step {X : List Nat} {w A B : World} (h : BX X w A) (h' : Below A.heap.size A B) : BX X w B :=
  ⟨h'.os.trans h.os, h'.tape.trans h.tape, h'.output.trans h.output, Nat.le_trans h.size h'.size, fun i hi hX => (h'.block i (Nat.lt_of_lt_of_le hi h.size)).trans (h.block i hi hX),
   fun g hg t cs hk => by obtain ⟨cs', h1, h2⟩ := h.shape g hg t cs hk; exact ⟨cs', h1.below h', h2⟩⟩
theorem bx_al {X : List Nat} {w A : World} (o : Obj) (h : BX X w A) : BX X w (A.alloc o) := h.step (bl_al o (bl_refl A))
theorem bx_drew {X : List Nat} {w A : World} (h : BX X w A) : BX X w A.drew := h.step (bl_drew (bl_refl A))
theorem bx_drewN {X : List Nat} {w A : World} (n : Nat) (h : BX X w A) : BX X w (A.drewN n) := h.step (bl_drewN n (bl_refl A))
theorem bx_tt {A B : World} (h' : Below A.heap.size A B) : ∀ (X : List Nat) (w : World), BX X w A → BX X w B := fun _ _ h => h.step h'
theorem bx_bl {w A : World} (X : List Nat) (h : Below w.heap.size w A) : BX X w A := (bx_refl X w).step h
theorem Blk.set {w : World} {g : Nat} {t : TypeId} {cs : Array Value} (h : Blk w g t cs) (i : Nat) (v : Value) : Blk (w.setCell ⟨g, i, none⟩ v) g t (cs.setIfInBounds i v) := by
  unfold Blk at h ⊢
  simp [World.setCell, Array.getElem?_modify, h]
theorem Blk.other {w : World} {g : Nat} {p : Addr} {t : TypeId} {cs : Array Value} (h : Blk w g t cs) (hne : g ≠ p.block) (v : Value) : Blk (w.setCell p v) g t cs := by
  unfold Blk at h ⊢
  rw [← h]
  exact Below.heap_setCell w p v g hne
theorem Blk.set2 {w : World} {g i j : Nat} {u v : Value} {t : TypeId} {cs cs' : Array Value} (h : Blk w g t cs) (e : (cs.setIfInBounds i v).setIfInBounds j u = cs') : Blk ((w.setCell ⟨g, i, none⟩ v).setCell ⟨g, j, none⟩ u) g t cs' := e ▸ (h.set i v).set j u
theorem Blk.set1 {w : World} {g i : Nat} {v : Value} {t : TypeId} {cs cs' : Array Value} (h : Blk w g t cs) (e : cs.setIfInBounds i v = cs') : Blk (w.setCell ⟨g, i, none⟩ v) g t cs' := e ▸ h.set i v
theorem bl_setA {w X : World} {i : Nat} (v : Value) (h : Below w.heap.size w X) : Below w.heap.size w (X.setCell ⟨w.heap.size, i, none⟩ v) := bl_set (Nat.le_refl _) v h
theorem bl_setB {w X : World} {i n : Nat} (v : Value) (h : Below w.heap.size w X) : Below w.heap.size w (X.setCell ⟨w.heap.size + n, i, none⟩ v) := bl_set (Nat.le_add_right _ _) v h
theorem Blk.row {w : World} {g : Nat} {t : TypeId} {cs : Array Value} (h : Blk w g t cs) (vs : Array Value) : Blk (w.setRow g vs) g t vs := setRow_heap w g cs vs t _ h
theorem Blk.rowOther {w : World} {g g' : Nat} {t : TypeId} {cs : Array Value} (h : Blk w g t cs) (hne : g ≠ g') (vs : Array Value) : Blk (w.setRow g' vs) g t cs := (setRow_other w g' g vs hne).trans h
theorem bx_set {X : List Nat} {w A : World} {g i : Nat} (hp : g ∈ X ∨ w.heap.size ≤ g) (v : Value) (h : BX X w A) : BX X w (A.setCell ⟨g, i, none⟩ v) :=
  ⟨h.os, h.tape, h.output, by simpa [World.setCell] using h.size, fun k hi hX => (Below.heap_setCell A ⟨g, i, none⟩ v k (by
    intro he
    have he : k = g := he
    rcases hp with hp | hp
    · exact hX (he ▸ hp)
    · omega)).trans (h.block k hi hX),
   fun g' hg t cs hk => by
    obtain ⟨cs', h1, h2⟩ := h.shape g' hg t cs hk
    by_cases he : g' = g
    · subst he; exact ⟨_, h1.set i v, by simpa using h2⟩
    · exact ⟨cs', h1.other (p := ⟨g, i, none⟩) he v, h2⟩⟩
theorem bx_row {X : List Nat} {w A : World} {g : Nat} {t : TypeId} {old cells : Array Value} (hg : g ∈ X) (hk : Blk w g t old) (hs : old.size = cells.size) (h : BX X w A) : BX X w (A.setRow g cells) :=
  ⟨h.os, h.tape, h.output, by simpa using h.size, fun k hi hX => (setRow_other A g k cells (fun e => hX (e ▸ hg))).trans (h.block k hi hX),
   fun g' hg' t' cs hk' => by
    obtain ⟨cs', h1, h2⟩ := h.shape g' hg' t' cs hk'
    by_cases he : g' = g
    · subst he
      refine ⟨cells, h1.row cells, ?_⟩
      unfold Blk at hk hk'
      rw [hk] at hk'
      injection hk' with hk'
      injection hk' with e _ _
      rw [← e, hs]
    · exact ⟨cs', h1.rowOther he cells, h2⟩⟩
/-- A whole variable is stored into a block that the region sets apart. -/
theorem wp_store_keep {P : Program} {o : Oper} {a : Act} {w0 w : World} {K : Act → World → Prop} {Q : Exit → Act → World → Prop} {X : List Nat} {ty : TypeId} {x y : Operand} (ho : o.op = .store ty x y)
    {g : Nat} {cells old : Array Value} {t : TypeId} (hx : a.eval x = .pointer (some ⟨g, 0, none⟩)) (hy : a.eval y = .agg cells) (hb : BX X w0 w) (hk : Blk w0 g t old) (hg : g ∈ X)
    (hi : (P.info? ty).map (·.size) = some cells.size) (hold : old.size = cells.size) (h1 : cells.all (·.oneCell') = true)
    (h : Blk (w.setRow g cells) g t cells → BX X w0 (w.setRow g cells) → K (a.put o.dst undef) (w.setRow g cells)) : o.wp P a w K Q := by
  obtain ⟨cs', h2, h3⟩ := hb.shape g hg t old hk
  exact wp_store_row ty x y ho g cells hx hy t cs' h2 hi (h3.trans hold) h1 (h (h2.row cells) (bx_row hg hk hold hb))
theorem bx_set1 {g i : Nat} {X : List Nat} {w A : World} (v : Value) (h : BX (g :: X) w A) : BX (g :: X) w (A.setCell ⟨g, i, none⟩ v) := bx_set (.inl (by simp)) v h
theorem bx_set2 {g g' i : Nat} {X : List Nat} {w A : World} (v : Value) (h : BX (g' :: g :: X) w A) : BX (g' :: g :: X) w (A.setCell ⟨g, i, none⟩ v) := bx_set (.inl (by simp)) v h
theorem bx_set3 {g g' g'' i : Nat} {X : List Nat} {w A : World} (v : Value) (h : BX (g'' :: g' :: g :: X) w A) : BX (g'' :: g' :: g :: X) w (A.setCell ⟨g, i, none⟩ v) := bx_set (.inl (by simp)) v h
theorem BX.below {X : List Nat} {w0 w A : World} (hX : ∀ g ∈ X, w0.heap.size ≤ g) (hb : Below w0.heap.size w0 w) (h : BX X w A) : Below w0.heap.size w0 A :=
  ⟨h.os.trans hb.os, h.tape.trans hb.tape, h.output.trans hb.output, Nat.le_trans hb.size h.size, fun i hi => (h.block i (Nat.lt_of_lt_of_le hi hb.size) (fun hm => by have := hX i hm; omega)).trans (hb.block i hi)⟩
theorem Blk.drew {w : World} {g : Nat} {t : TypeId} {cs : Array Value} (h : Blk w g t cs) : Blk w.drew g t cs := h
theorem Blk.drewN {w : World} {g : Nat} {t : TypeId} {cs : Array Value} (h : Blk w g t cs) (n : Nat) : Blk (w.drewN n) g t cs := h
theorem Blk.newAt {w : World} {g : Nat} {t : TypeId} {cs : Array Value} (h : g = w.heap.size) : Blk (w.alloc (.cells cs t)) g t cs := h ▸ Blk.new w t cs
theorem absR {P : Program} {c : Code} {Q : Exit → Act → World → Prop} {n : Nat} {a : Act} {w : World} {C : World → Prop} (hC : C w) (h : ∀ w0, C w0 → c.rounds P Q n a w0) : c.rounds P Q n a w := h w hC
theorem absC {P : Program} {c : Code} {Q : Exit → Act → World → Prop} {a : Act} {w : World} {C : World → Prop} (hC : C w) (h : ∀ w0, C w0 → c.wp P Q a w0) : c.wp P Q a w := h w hC
/-- A region whose last operations alone write: all else is read in one world, in the text's order. -/
theorem wp_tailC {P : Program} {id : Nat} {Q : Exit → Act → World → Prop} {a : Act} {w : World} {l : List Oper} {C : World → Prop} (n : Nat) (hm : P.follows .mixedOrders = true) (hB : Region.lexTailB .any l.toArray n = true) (hC : C w.drew)
    (h : ∀ W, C W → wpStill P l.toArray W (fun a' => wpList P l.toArray Q (l.drop n) a' W) (l.take n) a) : (Code.region id l.toArray true).wp P Q a w := wp_region_still_tail n hm hB (h w.drew hC)
theorem Blk.keep {X : List Nat} {w W : World} {g : Nat} {t : TypeId} {cs : Array Value} (h : Blk w g t cs) (hX : g ∉ X) (hb : BX X w W) : Blk W g t cs := (hb.block g h.lt hX).trans h
theorem Blk.laterX {w : World} {g : Nat} {t : TypeId} {cs : Array Value} (h : Blk w g t cs) {X : List Nat} (hX : g ∉ X) : ∀ W, BX X w W → ∀ i, W.cell? ⟨g, i, none⟩ = cs[i]? := fun _ hb i => (h.keep hX hb).cell i
/-- At a function's return: the world under a new name, one of its blocks known. -/
theorem ret1 {P : Program} {fn : Func} {R : Ending → World → Prop} {a : Act} {w : World} {g : Nat} {t : TypeId} {cs : Array Value} {C : World → Prop} (hk : Blk w g t cs) (hC : C w)
    (h : ∀ wf, Blk wf g t cs → C wf → bodyPost P fn R .ret a wf) : bodyPost P fn R .ret a w := h w hk hC
end Go.Proofs.YtdlmkblmljhbfaaDoor
namespace Go.Proofs.YtdlmkblmljhbfaaDoor
set_option linter.unusedSimpArgs false
set_option linter.unusedVariables false
open Go.RowKit

structure Gh where
  n : Nat
  v : Value
  A : Option Addr
  c : Nat
/-- What an operation leaves: its value, a fact on the world, the blocks that it makes. -/
structure Sp where
  val : (Nat → Gh) → Value
  R : (Nat → Gh) → World → Prop
  bl : Gh → List Nat
def gh0 : Gh := ⟨0, undef, none, 0⟩
def sp0 : Sp := ⟨fun _ => undef, fun _ _ => True, fun _ => []⟩
def spAt (h : List Sp) (j : Nat) : Sp := h.getD j sp0
def putD (a : Act) : List (Option Tmp) → Nat → (Nat → Value) → Act
  | [], _, _ => a
  | d :: l, k, u => putD (a.put d (u k)) l (k + 1) u
def up {α : Type} (u : Nat → α) (i : Nat) (v : α) : Nat → α := fun j => if j = i then v else u j
def Known1 (h : List Sp) (γ : Nat → Gh) (u : Nat → Value) (w0 W : World) (j : Nat) : Prop :=
  u j = (spAt h j).val γ ∧ (spAt h j).R γ W ∧ ∀ x ∈ (spAt h j).bl (γ j), w0.heap.size ≤ x ∧ x < W.heap.size
def Known (h : List Sp) (γ : Nat → Gh) (u : Nat → Value) (w0 W : World) : List Nat → Prop
  | [] => True
  | j :: l => Known1 h γ u w0 W j ∧ Known h γ u w0 W l
theorem Known.of {h : List Sp} {γ : Nat → Gh} {u : Nat → Value} {w0 W : World} : ∀ {l : List Nat}, (∀ j ∈ l, Known1 h γ u w0 W j) → Known h γ u w0 W l
  | [], _ => trivial
  | j :: l, H => ⟨H j (by simp), Known.of fun k hk => H k (by simp [hk])⟩
def look : List Sp → Nat → (Sp → Prop) → Prop
  | [], _, f => f sp0
  | s :: _, 0, f => f s
  | _ :: l, k + 1, f => look l k f
theorem look_eq : ∀ (h : List Sp) (j : Nat) (f : Sp → Prop), look h j f = f (spAt h j)
  | [], _, _ => rfl
  | _ :: _, 0, _ => rfl
  | _ :: l, k + 1, f => by rw [look, look_eq l k f]; rfl
/-- As Known, in a form that unfolds by itself. -/
def KnownL (h : List Sp) (γ : Nat → Gh) (u : Nat → Value) (w0 W : World) : List Nat → Prop
  | [] => True
  | j :: l => look h j (fun s => u j = s.val γ ∧ s.R γ W ∧ ∀ x ∈ s.bl (γ j), w0.heap.size ≤ x ∧ x < W.heap.size) ∧ KnownL h γ u w0 W l
theorem Known.toL {h : List Sp} {γ : Nat → Gh} {u : Nat → Value} {w0 W : World} : ∀ {l : List Nat}, Known h γ u w0 W l → KnownL h γ u w0 W l
  | [], _ => trivial
  | j :: l, H => ⟨by rw [look_eq]; exact H.1, Known.toL H.2⟩
def Cong (C : List Nat) (i : Nat) (s : Sp) : Prop := ∀ γ γ' : Nat → Gh, (∀ j, j = i ∨ j ∈ C → γ j = γ' j) → s.val γ = s.val γ' ∧ ∀ W, s.R γ W → s.R γ' W
def OpW (P : Program) (ops : Array Oper) (Q : Exit → Act → World → Prop) (i : Nat) (o : Oper) (s : Sp) (γ : Nat → Gh) (a : Act) (W : World) : Prop :=
  wpOp P ops Q i (fun a' W' => ∃ g, a' = a.put o.dst (s.val (up γ i g)) ∧ Below W.heap.size W W' ∧ s.R (up γ i g) W' ∧ ∀ x ∈ s.bl g, W.heap.size ≤ x ∧ x < W'.heap.size) a W
/-- An operation that only reads, and reads nothing that the region stores. -/
def LateOK (P : Program) (ops : Array Oper) (w0 : World) (A : (Nat → Value) → Act) (X : (Nat → Gh) → List Nat) (D : List (List Nat)) (h : List Sp) (i : Nat) (s : Sp) : Prop :=
  ∀ γ u Wm W, Below w0.heap.size w0 Wm → Known h γ u w0 Wm (D.getD i []) → BX (X γ) Wm W → ∃ o, ops[i]? = some o ∧
    ((Region.wanted o (yielded ops (A u).tmps) = true ∧ (execOp (A u).eval o).run P W = .ok (.value (s.val γ)) W) ∨ (Region.wanted o (yielded ops (A u).tmps) = false ∧ s.val γ = undef))
structure Parts where
  tail : List Nat
  late : List Nat
  ds : List (Option Tmp)
  C : List (List Nat)
  D : List (List Nat)
def OpOK (P : Program) (ops : Array Oper) (Q : Exit → Act → World → Prop) (w0 : World) (A : (Nat → Value) → Act) (X : (Nat → Gh) → List Nat) (p : Parts) (h : List Sp) (i : Nat) (s : Sp) : Prop :=
  Cong (p.C.getD i []) i s ∧ (∀ γ W W', Below W.heap.size W W' → s.R γ W → s.R γ W') ∧
  (∀ γ u W, Below w0.heap.size w0 W → Known h γ u w0 W (p.D.getD i []) → ∃ o, ops[i]? = some o ∧ OpW P ops Q i o s γ (A u) W) ∧
  (p.late.contains i = true → s.bl = (fun _ => []) ∧ s.R = (fun _ _ => True) ∧ LateOK P ops w0 A X p.D h i s)
def heads (n : Nat) (tail : List Nat) : List Nat := (List.range n).filter fun i => !tail.contains i
def Fin (P : Program) (ops : Array Oper) (Q : Exit → Act → World → Prop) (w0 : World) (A : (Nat → Value) → Act) (X : (Nat → Gh) → List Nat) (p : Parts) (h : List Sp) : Prop :=
  ∀ γ u W, Below w0.heap.size w0 W → Known h γ u w0 W (heads ops.size p.tail) →
    (∀ i j, !p.tail.contains i → !p.tail.contains j → i < ops.size → j < ops.size → i ≠ j → ∀ x ∈ (spAt h i).bl (γ i), ∀ y ∈ (spAt h j).bl (γ j), x ≠ y) →
    PlanW P ops Q (fun W' => BX (X γ) W W') (p.tail.map fun t => (t, false)) (A u) W
def RGW (P : Program) (ops : Array Oper) (Q : Exit → Act → World → Prop) (w0 : World) (A : (Nat → Value) → Act) (X : (Nat → Gh) → List Nat) (p : Parts) : Nat → List Sp → Prop
  | 0, h => Fin P ops Q w0 A X p h
  | k + 1, h => ∃ s, (p.tail.contains h.length = false → OpOK P ops Q w0 A X p h h.length s) ∧ RGW P ops Q w0 A X p k (h ++ [s])

def headA (n : Nat) (tail : List Nat) : Array Bool := ((List.range n).map fun i => !tail.contains i).toArray
/-- Whether the lists fit the region's edges. -/
def anyOk (ops : Array Oper) (p : Parts) : Bool :=
  decide (p.ds.length = ops.size) && Region.noSelect ops
  && (List.range ops.size).all (fun i => p.tail.contains i || match ops[i]? with
    | none => false
    | some o => decide (o.dst = p.ds.getD i none)
      && o.after.all (fun e => !Region.binds .any e || (decide (e.on < i) && !p.tail.contains e.on && (p.late.contains i || !p.late.contains e.on)))
      && (p.D.getD i []).all (fun j => (p.C.getD i []).contains j && decide (j < i)))
  && (List.range ops.size).all (fun i => match ops[i]? with
    | none => false
    | some o => (p.C.getD i []).all (fun j => o.after.any fun e => Region.binds .any e && (decide (e.on = j) || (!p.tail.contains e.on && (p.C.getD e.on []).contains j))))
  && (List.range ops.size).all (fun i => (List.range ops.size).all fun j => decide (i = j) || (p.ds.getD i none).isNone || decide (p.ds.getD i none ≠ p.ds.getD j none))
  && (match p.tail with
    | [] => true
    | t :: l => (List.range ops.size).all (fun i => p.tail.contains i || p.late.contains i || (p.C.getD t []).contains i) && (l.all fun t' => match ops[t']? with
      | none => false
      | some o => o.after.any fun e => Region.binds .any e && p.tail.contains e.on))
  && (p.late.all fun i => match ops[i]? with
    | none => false
    | some oi => (p.late ++ p.tail).all fun j => decide (i = j) || match ops[j]? with
      | none => true
      | some oj => (oj.after.any fun e => Region.binds .any e && decide (e.on = i)) || ((oi.after.any fun e => Region.binds .any e && decide (e.on = j)) || oi.apart ops oj))
  && (p.late.all fun i => !p.tail.contains i && decide (i < ops.size)) && (p.tail.all fun i => decide (i < ops.size))
  && planOk ops (p.tail.map fun t => (t, false)) (headA ops.size p.tail)
  && decide ((List.range ops.size).countP (fun j => !p.tail.contains j) + p.tail.length = ops.size)

section
variable {P : Program} {ops : Array Oper} {Q : Exit → Act → World → Prop}

theorem putD_put : ∀ (l : List (Option Tmp)) (a : Act) (k : Nat) (u : Nat → Value) (d : Option Tmp) (v : Value), (∀ x ∈ l, d.isSome → x ≠ d) → (putD a l k u).put d v = putD (a.put d v) l k u
  | [], _, _, _, _, _, _ => rfl
  | x :: l, a, k, u, d, v, h => by
    unfold putD
    rw [putD_put l _ _ _ _ _ (fun y hy => h y (by simp [hy])), Act.put_comm]
    intro t hx hd
    exact h x (by simp) (by simp [hd]) (by rw [hx, hd])
theorem putD_congr : ∀ (l : List (Option Tmp)) (a : Act) (k : Nat) (u u' : Nat → Value), (∀ j, k ≤ j → u j = u' j) → putD a l k u = putD a l k u'
  | [], _, _, _, _, _ => rfl
  | x :: l, a, k, u, u', h => by
    unfold putD
    rw [h k (Nat.le_refl k)]
    exact putD_congr l _ _ _ _ fun j hj => h j (by omega)
theorem put_put (a : Act) (d : Option Tmp) (u v : Value) : (a.put d u).put d v = a.put d v := by
  cases d <;> simp [Act.put]
theorem putD_up : ∀ (l : List (Option Tmp)) (a : Act) (k i : Nat) (u : Nat → Value) (v : Value), (∀ p q, p < l.length → q < l.length → p ≠ q → (l.getD p none).isSome → l.getD p none ≠ l.getD q none) →
    k ≤ i → i - k < l.length → (putD a l k u).put (l.getD (i - k) none) v = putD a l k (up u i v)
  | [], _, _, _, _, _, _, _, h => by simp at h
  | x :: l, a, k, i, u, v, hd, hk, hi => by
    unfold putD
    by_cases e : i = k
    · subst e
      simp only [Nat.sub_self, List.getD_cons_zero]
      rw [putD_put l _ _ _ x v, put_put]
      · simp only [up, if_true]
        refine putD_congr l _ _ _ _ fun j hj => ?_
        have : j ≠ i := by omega
        simp [up, this]
      · intro y hy hs e
        obtain ⟨m, hm, rfl⟩ := List.getElem_of_mem hy
        have := hd 0 (m + 1) (by simp) (by simp; omega) (by omega) (by simpa using hs)
        simp [hm] at this
        exact this e.symm
    · have h1 : i - k = (i - (k + 1)) + 1 := by omega
      rw [h1, List.getD_cons_succ]
      have h2 : up u i v k = u k := by unfold up; rw [if_neg (by omega)]
      rw [h2]
      exact putD_up l _ (k + 1) i u v (fun p q hp hq hne hs => by
        have := hd (p + 1) (q + 1) (by simp; omega) (by simp; omega) (by omega)
        simp only [List.getD_cons_succ] at this
        exact this hs) (by omega) (by simp at hi; omega)
theorem putD_old : ∀ (l : List (Option Tmp)) (a : Act) (k : Nat) (u : Nat → Value), (∀ j, j < l.length → u (k + j) = match l.getD j none with | some t => a.tmps.getD t undef | none => undef) → putD a l k u = a
  | [], _, _, _, _ => rfl
  | x :: l, a, k, u, h => by
    unfold putD
    have h0 := h 0 (by simp)
    simp only [Nat.add_zero, List.getD_cons_zero] at h0
    have e : a.put x (u k) = a := by
      rw [h0]
      cases x with
      | none => rfl
      | some t =>
        simp only [Act.put]
        congr 1
        apply Array.ext
        · simp
        · intro i h1 h2
          have h2' : i < a.tmps.size := by simpa using h1
          by_cases e : t = i
          · subst e
            simp [h2']
          · rw [Array.getElem_setIfInBounds_ne (h := e)]
    rw [e]
    refine putD_old l a (k + 1) u fun j hj => ?_
    have := h (j + 1) (by simp; omega)
    simp only [List.getD_cons_succ] at this
    rw [← this]
    congr 1
    omega

theorem cnt_set {p q : Nat → Bool} {i : Nat} (h : ∀ j, j ≠ i → p j = q j) (hp : p i = true) (hq : q i = false) : ∀ n, (List.range n).countP p = (List.range n).countP q + (if i < n then 1 else 0)
  | 0 => rfl
  | n + 1 => by
    rw [List.range_succ, List.countP_append, List.countP_append, cnt_set h hp hq n]
    simp only [List.countP_cons, List.countP_nil]
    by_cases e : n = i
    · subst e; simp [hp, hq]
    · rw [h n e]
      by_cases hi : i < n
      · simp only [hi, show i < n + 1 by omega, if_true]; omega
      · simp only [hi, show ¬ i < n + 1 by omega, if_false]; omega

structure AnyF (ops : Array Oper) (p : Parts) : Prop where
  len : p.ds.length = ops.size
  sel : Region.noSelect ops = true
  dst : ∀ i, i < ops.size → p.tail.contains i = false → ∃ o, ops[i]? = some o ∧ o.dst = p.ds.getD i none ∧
    (∀ e ∈ o.after, Region.binds .any e = true → e.on < i ∧ p.tail.contains e.on = false ∧ (p.late.contains i = true ∨ p.late.contains e.on = false)) ∧ ∀ j ∈ p.D.getD i [], j ∈ p.C.getD i [] ∧ j < i
  cl : ∀ i, i < ops.size → ∃ o, ops[i]? = some o ∧ ∀ j ∈ p.C.getD i [], ∃ e ∈ o.after, Region.binds .any e = true ∧ (e.on = j ∨ (p.tail.contains e.on = false ∧ j ∈ p.C.getD e.on []))
  dis : ∀ i j, i < p.ds.length → j < p.ds.length → i ≠ j → (p.ds.getD i none).isSome → p.ds.getD i none ≠ p.ds.getD j none
  tl : ∀ t l, p.tail = t :: l → (∀ i, i < ops.size → p.tail.contains i = false → p.late.contains i = false → i ∈ p.C.getD t []) ∧
    ∀ t' ∈ l, ∃ o, ops[t']? = some o ∧ ∃ e ∈ o.after, Region.binds .any e = true ∧ p.tail.contains e.on = true
  lt : ∀ i, p.late.contains i = true → ∃ oi, ops[i]? = some oi ∧ ∀ j, (p.late.contains j = true ∨ p.tail.contains j = true) → j ≠ i → ∀ oj, ops[j]? = some oj → (∃ e ∈ oj.after, Region.binds .any e = true ∧ e.on = i) ∨ (∃ e ∈ oi.after, Region.binds .any e = true ∧ e.on = j) ∨ oi.apart ops oj = true
  lin : ∀ i, p.late.contains i = true → p.tail.contains i = false ∧ i < ops.size
  tin : ∀ i, p.tail.contains i = true → i < ops.size
  plan : planOk ops (p.tail.map fun t => (t, false)) (headA ops.size p.tail) = true
  cnt : (List.range ops.size).countP (fun j => !p.tail.contains j) + p.tail.length = ops.size
theorem anyOk_spec {p : Parts} (h : anyOk ops p = true) : AnyF ops p := by
  unfold anyOk at h
  simp only [Bool.and_eq_true, decide_eq_true_eq] at h
  obtain ⟨⟨⟨⟨⟨⟨⟨⟨⟨⟨h1, h2⟩, h3⟩, h4⟩, h5⟩, h6⟩, h7⟩, h8⟩, h9⟩, h10⟩, h11⟩ := h
  refine ⟨h1, h2, fun i hi ht => ?_, fun i hi => ?_, fun i j hi hj hne hs e => ?_, fun t l e => ?_, fun i hi => ?_, fun i hi => ?_, fun i hi => ?_, h10, h11⟩
  · have h := List.all_eq_true.1 h3 i (List.mem_range.2 hi)
    rw [ht, Bool.false_or] at h
    split at h
    · cases h
    · rename_i o ho
      simp only [Bool.and_eq_true, decide_eq_true_eq] at h
      obtain ⟨⟨a1, a2⟩, a4⟩ := h
      refine ⟨o, ho, a1, fun e he hb => ?_, fun j hj => ?_⟩
      · have := Array.all_eq_true'.1 a2 e he
        simp only [hb, Bool.not_true, Bool.false_or, Bool.and_eq_true, Bool.or_eq_true, decide_eq_true_eq, Bool.not_eq_true'] at this
        exact ⟨this.1.1, this.1.2, this.2⟩
      · have := List.all_eq_true.1 a4 j hj
        simpa [List.contains_iff_mem] using this
  · have h := List.all_eq_true.1 h4 i (List.mem_range.2 hi)
    split at h
    · cases h
    · rename_i o ho
      refine ⟨o, ho, fun j hj => ?_⟩
      have := List.all_eq_true.1 h j hj
      obtain ⟨e, he, hh⟩ := Array.any_eq_true'.1 this
      simp only [Bool.and_eq_true, Bool.or_eq_true, decide_eq_true_eq, List.contains_iff_mem, Bool.not_eq_true'] at hh
      exact ⟨e, he, hh.1, hh.2⟩
  · have h := List.all_eq_true.1 (List.all_eq_true.1 h5 i (List.mem_range.2 (by omega))) j (List.mem_range.2 (by omega))
    simp only [Bool.or_eq_true, decide_eq_true_eq] at h
    rcases h with (h | h) | h
    · exact hne h
    · rw [Option.isNone_iff_eq_none] at h; rw [h] at hs; cases hs
    · exact h e
  · rw [e] at h6
    simp only [Bool.and_eq_true] at h6
    rw [← e] at h6
    refine ⟨fun i hi h1 h2 => ?_, fun t' ht => ?_⟩
    · have := List.all_eq_true.1 h6.1 i (List.mem_range.2 hi)
      rw [h1, h2, Bool.false_or, Bool.false_or, List.contains_iff_mem] at this
      exact this
    · have := List.all_eq_true.1 h6.2 t' ht
      split at this
      · cases this
      · rename_i o ho
        obtain ⟨e, he, hh⟩ := Array.any_eq_true'.1 this
        simp only [Bool.and_eq_true] at hh
        exact ⟨o, ho, e, he, hh⟩
  · have := List.all_eq_true.1 h7 i (List.contains_iff_mem.1 hi)
    split at this
    · cases this
    · rename_i oi hoi
      refine ⟨oi, hoi, fun j hj hne oj hoj => ?_⟩
      have := List.all_eq_true.1 this j (by
        rw [List.mem_append]
        exact hj.imp List.contains_iff_mem.1 List.contains_iff_mem.1)
      simp only [hoj, Bool.or_eq_true, decide_eq_true_eq] at this
      rcases this with h | h | h | h
      · exact absurd h.symm hne
      · obtain ⟨e, he, hh⟩ := Array.any_eq_true'.1 h
        simp only [Bool.and_eq_true, decide_eq_true_eq] at hh
        exact .inl ⟨e, he, hh⟩
      · obtain ⟨e, he, hh⟩ := Array.any_eq_true'.1 h
        simp only [Bool.and_eq_true, decide_eq_true_eq] at hh
        exact .inr (.inl ⟨e, he, hh⟩)
      · exact .inr (.inr h)
  · have := List.all_eq_true.1 h8 i (List.contains_iff_mem.1 hi)
    simpa using this
  · have := List.all_eq_true.1 h9 i (List.contains_iff_mem.1 hi)
    simpa using this

structure LInv (ops : Array Oper) (p : Parts) (listed : Array Bool) : Prop where
  size : listed.size = ops.size
  closed : ∀ j oj, ops[j]? = some oj → listed.getD j false = true → ∀ e ∈ oj.after, Region.binds .any e = true → listed.getD e.on false = true
  tail : ∀ t, p.tail.contains t = true → listed.getD t true = false
theorem LInv.set {p : Parts} {i : Nat} {listed : Array Bool} (inv : LInv ops p listed) (hi : i ∈ Region.ready .any ops listed) (hin : p.tail.contains i = false) : LInv ops p (listed.setIfInBounds i true) := by
  obtain ⟨_, oi, hoi, hall⟩ := mem_ready.1 hi
  refine ⟨by simp [inv.size], fun j oj hj hl e he hb => ?_, fun t ht => by rw [getD_set_ne true (fun e => by rw [e, ht] at hin; cases hin)]; exact inv.tail t ht⟩
  by_cases hij : i = j
  · subst hij
    obtain rfl : oj = oi := Option.some.inj (hj.symm.trans hoi)
    exact getD_set_true (hall e he hb)
  · rw [getD_set_ne false hij] at hl
    exact getD_set_true (inv.closed j oj hj hl e he hb)

theorem AnyF.closed_C {p : Parts} (F : AnyF ops p) {listed : Array Bool} (inv : LInv ops p listed) :
    ∀ i, i < ops.size → p.tail.contains i = false → (∀ o, ops[i]? = some o → ∀ e ∈ o.after, Region.binds .any e = true → listed.getD e.on false = true) → ∀ j ∈ p.C.getD i [], listed.getD j false = true := by
  intro i
  induction i using Nat.strongRecOn with
  | _ i ih =>
    intro hi hti hall j hj
    obtain ⟨o, ho, hC⟩ := F.cl i hi
    obtain ⟨o', ho', _, hb, _⟩ := F.dst i hi hti
    obtain rfl : o = o' := Option.some.inj (ho.symm.trans ho')
    obtain ⟨e, he, hbe, hon⟩ := hC j hj
    have hl := hall o ho e he hbe
    rcases hon with hon | ⟨ht, hon⟩
    · rw [← hon]; exact hl
    · have hlt := (hb e he hbe).1
      exact ih e.on hlt (by omega) ht (fun o' ho' e' he' hb' => inv.closed e.on o' ho' hl e' he' hb') j hon
/-- While an operation of the main part is open, no tail comes up. -/
theorem AnyF.tail_waits {p : Parts} (F : AnyF ops p) {listed : Array Bool} (inv : LInv ops p listed) {i : Nat} (hi : i < ops.size) (hti : p.tail.contains i = false) (hla : p.late.contains i = false)
    (hun : listed.getD i true = false) (t : Nat) (ht : p.tail.contains t = true) : t ∉ Region.ready .any ops listed := by
  intro hr
  obtain ⟨_, ot, hot, hall⟩ := mem_ready.1 hr
  cases e : p.tail with
  | nil => rw [e] at ht; cases ht
  | cons t1 l =>
    obtain ⟨h1, h2⟩ := F.tl t1 l e
    by_cases htt : t = t1
    · subst htt
      have hmem := h1 i hi hti hla
      obtain ⟨o, ho, hC⟩ := F.cl t (F.tin t ht)
      obtain rfl : o = ot := Option.some.inj (ho.symm.trans hot)
      obtain ⟨e', he', hbe, hon⟩ := hC i hmem
      have hl := hall e' he' hbe
      have hfin : listed.getD i false = true := by
        rcases hon with hon | ⟨hte, hon⟩
        · rw [← hon]; exact hl
        · have hlt : e'.on < ops.size := by
            rcases Nat.lt_or_ge e'.on listed.size with h | h
            · rw [← inv.size]; exact h
            · simp [Array.getElem?_eq_none h] at hl
          exact F.closed_C inv e'.on hlt hte (fun o' ho' e'' he'' hb'' => inv.closed e'.on o' ho' hl e'' he'' hb'') i hon
      rw [getD_both hun] at hfin
      cases hfin
    · have hmem : t ∈ l := by
        have := List.contains_iff_mem.1 ht
        rw [e] at this
        exact (List.mem_cons.1 this).resolve_left htt
      obtain ⟨o, ho, e', he', hb', hte⟩ := h2 t hmem
      obtain rfl : o = ot := Option.some.inj (ho.symm.trans hot)
      have := hall e' he' hb'
      rw [getD_both (inv.tail _ hte)] at this
      cases this

def OkAt (P : Program) (ops : Array Oper) (Q : Exit → Act → World → Prop) (w0 : World) (A : (Nat → Value) → Act) (X : (Nat → Gh) → List Nat) (p : Parts) (hs : List Sp) (i : Nat) : Prop := OpOK P ops Q w0 A X p hs i (spAt hs i)
theorem Known.mem {h : List Sp} {γ : Nat → Gh} {u : Nat → Value} {w0 W : World} : ∀ {l : List Nat}, Known h γ u w0 W l → ∀ j ∈ l, Known1 h γ u w0 W j
  | [], _, j, hj => by cases hj
  | k :: l, H, j, hj => by
    rcases List.mem_cons.1 hj with rfl | hj
    · exact H.1
    · exact Known.mem H.2 j hj
theorem spAt_app (h : List Sp) (s : Sp) (j : Nat) (hj : j < h.length) : spAt (h ++ [s]) j = spAt h j := by
  simp [spAt, List.getElem?_append_left hj]
theorem spAt_last (h : List Sp) (s : Sp) : spAt (h ++ [s]) h.length = s := by simp [spAt]
theorem RGW_all {w0 : World} {A : (Nat → Value) → Act} {X : (Nat → Gh) → List Nat} {p : Parts} (F : AnyF ops p) :
    ∀ (k : Nat) (h : List Sp), h.length + k = ops.size → RGW P ops Q w0 A X p k h →
      ∃ hs, (∀ j, j < h.length → spAt hs j = spAt h j) ∧ (∀ i, h.length ≤ i → i < ops.size → p.tail.contains i = false → OkAt P ops Q w0 A X p hs i) ∧ Fin P ops Q w0 A X p hs
  | 0, h, hk, H => ⟨h, fun _ _ => rfl, fun i h1 h2 => by omega, H⟩
  | k + 1, h, hk, ⟨s, hop, H⟩ => by
    obtain ⟨hs, e, ok, fin⟩ := RGW_all F k (h ++ [s]) (by simp; omega) H
    have el : spAt hs h.length = s := (e h.length (by simp)).trans (spAt_last h s)
    have ej : ∀ j, j < h.length → spAt hs j = spAt h j := fun j hj => (e j (by simp; omega)).trans (spAt_app h s j hj)
    refine ⟨hs, ej, fun i h1 h2 h3 => ?_, fin⟩
    by_cases hi : i = h.length
    · subst hi
      obtain ⟨c1, c2, c3, c4⟩ := hop h3
      have tr : ∀ γ u W, Known hs γ u w0 W (p.D.getD h.length []) → Known h γ u w0 W (p.D.getD h.length []) := fun γ u W hkn => Known.of fun j hj => by
        have := hkn.mem j hj
        obtain ⟨_, _, _, _, hD⟩ := F.dst h.length h2 h3
        unfold Known1 at this ⊢
        rw [ej j (hD j hj).2] at this
        exact this
      unfold OkAt OpOK LateOK
      rw [el]
      exact ⟨c1, c2, fun γ u W hb hkn => c3 γ u W hb (tr γ u W hkn), fun hl => ⟨(c4 hl).1, (c4 hl).2.1, fun γ u Wm W hb hkn hx => (c4 hl).2.2 γ u Wm W hb (tr γ u Wm hkn) hx⟩⟩
    · exact ok i (by simp; omega) h2 h3

def Inv (ops : Array Oper) (p : Parts) (hs : List Sp) (w0 : World) (a0 : Act) (listed : Array Bool) (γ : Nat → Gh) (u : Nat → Value) (a : Act) (W : World) : Prop :=
  Below w0.heap.size w0 W ∧ a = putD a0 p.ds 0 u ∧ (∀ j, p.tail.contains j = false → j < ops.size → listed.getD j false = true → Known1 hs γ u w0 W j) ∧
    ∀ i j, p.tail.contains i = false → p.tail.contains j = false → i < ops.size → j < ops.size → i ≠ j → listed.getD i false = true → listed.getD j false = true → ∀ x ∈ (spAt hs i).bl (γ i), ∀ y ∈ (spAt hs j).bl (γ j), x ≠ y

theorem listed_set {listed : Array Bool} {i j : Nat} (h : (listed.setIfInBounds i true).getD j false = true) : j = i ∨ listed.getD j false = true := by
  by_cases e : i = j
  · exact .inl e.symm
  · rw [getD_set_ne false e] at h
    exact .inr h

theorem inv_up {p : Parts} {hs : List Sp} {w0 : World} {a0 : Act} {A : (Nat → Value) → Act} {X : (Nat → Gh) → List Nat} (F : AnyF ops p)
    (ok : ∀ i, i < ops.size → p.tail.contains i = false → OkAt P ops Q w0 A X p hs i) {listed : Array Bool} {γ : Nat → Gh} {u : Nat → Value} {a : Act} {W W' : World} (inv : LInv ops p listed) (I : Inv ops p hs w0 a0 listed γ u a W)
    {i : Nat} {o : Oper} (hi : i < ops.size) (hti : p.tail.contains i = false) (hun : listed.getD i true = false) (ho : ops[i]? = some o) (g : Gh)
    (hb' : Below W.heap.size W W') (hR : (spAt hs i).R (up γ i g) W') (hbl : ∀ x ∈ (spAt hs i).bl g, W.heap.size ≤ x ∧ x < W'.heap.size) :
    Inv ops p hs w0 a0 (listed.setIfInBounds i true) (up γ i g) (up u i ((spAt hs i).val (up γ i g))) (a.put o.dst ((spAt hs i).val (up γ i g))) W' := by
  obtain ⟨hb, ha, hkn, hdis⟩ := I
  obtain ⟨o', ho', hdst, _, hD⟩ := F.dst i hi hti
  obtain rfl : o = o' := Option.some.inj (ho.symm.trans ho')
  have hCl : ∀ j, p.tail.contains j = false → j < ops.size → listed.getD j false = true → ∀ k ∈ p.C.getD j [], listed.getD k false = true := fun j htj hj hl =>
    F.closed_C inv j hj htj fun o' ho' => inv.closed j o' ho' hl
  have hni : ∀ j, listed.getD j false = true → j ≠ i := fun j hj e => by rw [e, getD_both hun] at hj; cases hj
  refine ⟨hb.trans (hb'.mono hb.size), ?_, fun j htj hj hl => ?_, fun q r htq htr hq hr hne hlq hlr x hx y hy => ?_⟩
  · rw [ha, hdst]
    have := putD_up p.ds a0 0 i u ((spAt hs i).val (up γ i g)) F.dis (Nat.zero_le _) (by rw [F.len]; omega)
    simpa using this
  · rcases listed_set hl with rfl | hl
    · exact ⟨by simp [up], hR, fun x hx => by
        have : x ∈ (spAt hs j).bl g := by simpa [up] using hx
        have := hbl x this
        exact ⟨Nat.le_trans hb.size this.1, this.2⟩⟩
    · have hji := hni j hl
      obtain ⟨k1, k2, k3⟩ := hkn j htj hj hl
      have hcg := (ok j hj htj).1 γ (up γ i g) (fun k hk => by
        have : k ≠ i := by
          rcases hk with rfl | hk
          · exact hji
          · exact hni k (hCl j htj hj hl k hk)
        simp [up, this])
      refine ⟨?_, hcg.2 _ ((ok j hj htj).2.1 γ W W' hb' k2), fun x hx => ?_⟩
      · rw [← hcg.1, ← k1]; simp [up, hji]
      · have := k3 x (by simpa [up, hji] using hx)
        exact ⟨this.1, Nat.lt_of_lt_of_le this.2 hb'.size⟩
  · rcases listed_set hlq with rfl | hlq'
    · have hr' := (listed_set hlr).resolve_left (fun e => hne e.symm)
      have hri := hni r hr'
      have := (hkn r htr hr hr').2.2 y (by simpa [up, hri] using hy)
      have := hbl x (by simpa [up] using hx)
      omega
    · have hqi := hni q hlq'
      rcases listed_set hlr with rfl | hlr'
      · have := (hkn q htq hq hlq').2.2 x (by simpa [up, hqi] using hx)
        have := hbl y (by simpa [up] using hy)
        omega
      · have hri := hni r hlr'
        exact hdis q r htq htr hq hr hne hlq' hlr' x (by simpa [up, hqi] using hx) y (by simpa [up, hri] using hy)

theorem inv_known {p : Parts} {hs : List Sp} {w0 : World} {a0 : Act} (F : AnyF ops p) {listed : Array Bool} {γ : Nat → Gh} {u : Nat → Value} {a : Act} {W : World} (inv : LInv ops p listed) (I : Inv ops p hs w0 a0 listed γ u a W)
    {i : Nat} {o : Oper} (hi : i < ops.size) (hti : p.tail.contains i = false) (ho : ops[i]? = some o) (hall : ∀ e ∈ o.after, Region.binds .any e = true → listed.getD e.on false = true) : Known hs γ u w0 W (p.D.getD i []) := by
  obtain ⟨hb, ha, hkn, hdis⟩ := I
  obtain ⟨o', ho', hdst, hbk, hD⟩ := F.dst i hi hti
  have hCi := F.closed_C inv i hi hti fun o' ho' => by
    obtain rfl : o = o' := Option.some.inj (ho.symm.trans ho')
    exact hall
  refine Known.of fun j hj => ?_
  have hl := hCi j (hD j hj).1
  refine hkn j ?_ (by have := (hD j hj).2; omega) hl
  cases htj : p.tail.contains j with
  | false => rfl
  | true => rw [getD_both (inv.tail j htj)] at hl; cases hl

theorem inv_step {p : Parts} {hs : List Sp} {w0 : World} {a0 : Act} {A : (Nat → Value) → Act} {X : (Nat → Gh) → List Nat} (F : AnyF ops p) (hA : ∀ u, putD a0 p.ds 0 u = A u)
    (ok : ∀ i, i < ops.size → p.tail.contains i = false → OkAt P ops Q w0 A X p hs i) {listed : Array Bool} {γ : Nat → Gh} {u : Nat → Value} {a : Act} {W : World} (inv : LInv ops p listed) (I : Inv ops p hs w0 a0 listed γ u a W)
    {i : Nat} (hti : p.tail.contains i = false) (hr : i ∈ Region.ready .any ops listed) :
    wpOp P ops Q i (fun a' W' => ∃ γ' u', Inv ops p hs w0 a0 (listed.setIfInBounds i true) γ' u' a' W') a W := by
  obtain ⟨hun, o, ho, hall⟩ := mem_ready.1 hr
  have hi : i < ops.size := (Array.getElem?_eq_some_iff.1 ho).1
  obtain ⟨o', ho', hop⟩ := (ok i hi hti).2.2.1 γ u W I.1 (inv_known F inv I hi hti ho hall)
  obtain rfl : o = o' := Option.some.inj (ho.symm.trans ho')
  rw [← hA, ← I.2.1] at hop
  unfold OpW at hop
  refine wpOp_mono (fun a' W' hp => ?_) hop
  obtain ⟨g, e, hb', hR, hbl⟩ := hp
  rw [e]
  exact ⟨_, _, inv_up F ok inv I hi hti hun ho g hb' hR hbl⟩

def cntp (n : Nat) (p : Parts) (listed : Array Bool) : Nat := (List.range n).countP fun j => !listed.getD j true && !p.tail.contains j
theorem cntp_set {n : Nat} {p : Parts} {listed : Array Bool} {i : Nat} (hi : i < n) (hs : i < listed.size) (hti : p.tail.contains i = false) (hun : listed.getD i true = false) : cntp n p listed = cntp n p (listed.setIfInBounds i true) + 1 := by
  have := cnt_set (p := fun j => !listed.getD j true && !p.tail.contains j) (q := fun j => !(listed.setIfInBounds i true).getD j true && !p.tail.contains j) (i := i) (fun j hj => by simp only [getD_set_ne true (Ne.symm hj)]) (by rw [hun, hti]; rfl) (by simp [hs]) n
  rw [if_pos hi] at this
  exact this
theorem headA_at {n j : Nat} (tail : List Nat) (d : Bool) (h : j < n) : (headA n tail).getD j d = !tail.contains j := by
  simp [headA, h, -List.contains_eq_mem]
theorem headA_get {n j : Nat} (tail : List Nat) (h : j < (headA n tail).size) : (headA n tail)[j] = !tail.contains j := by
  simp [headA, -List.contains_eq_mem]
theorem cntp_zero {p : Parts} {listed : Array Bool} (inv : LInv ops p listed) (h : cntp ops.size p listed = 0) : listed = headA ops.size p.tail := by
  have hall : ∀ j, j < ops.size → p.tail.contains j = false → listed.getD j true = true := fun j hj ht => by
    have := List.countP_eq_zero.1 h j (List.mem_range.2 hj)
    rw [ht] at this
    simpa using this
  apply Array.ext
  · simp [headA, inv.size]
  · intro j h1 h2
    have hj : j < ops.size := by rw [← inv.size]; exact h1
    cases ht : p.tail.contains j with
    | false =>
      have := hall j hj ht
      simp [h1] at this
      rw [headA_get, ht, this]; rfl
    | true =>
      have := inv.tail j ht
      simp [h1] at this
      rw [headA_get, ht, this]; rfl
theorem cntp_pos {n : Nat} {p : Parts} {listed : Array Bool} (h : cntp n p listed ≠ 0) : ∃ j, j < n ∧ p.tail.contains j = false ∧ listed.getD j true = false := by
  obtain ⟨j, hj, hp⟩ := List.countP_pos_iff.1 (Nat.pos_of_ne_zero h)
  simp only [Bool.and_eq_true, Bool.not_eq_true'] at hp
  exact ⟨j, List.mem_range.1 hj, hp.2, hp.1⟩
/-- The first open operation of the head may come up. -/
theorem ready_first {p : Parts} (F : AnyF ops p) {listed : Array Bool} (inv : LInv ops p listed) : ∀ j, j < ops.size → p.tail.contains j = false → listed.getD j true = false → ∃ i, i ≤ j ∧ p.tail.contains i = false ∧ i ∈ Region.ready .any ops listed := by
  intro j
  induction j using Nat.strongRecOn with
  | _ j ih =>
    intro hj htj hun
    obtain ⟨o, ho, _, hb, _⟩ := F.dst j hj htj
    by_cases hall : ∀ e ∈ o.after, Region.binds .any e = true → listed.getD e.on false = true
    · exact ⟨j, Nat.le_refl j, htj, mem_ready.2 ⟨hun, o, ho, hall⟩⟩
    · have ⟨e, he⟩ := Classical.not_forall.1 hall
      have ⟨he1, he2⟩ := Classical.not_imp.1 he
      have ⟨he3, he4⟩ := Classical.not_imp.1 he2
      obtain ⟨hlt, ht, _⟩ := hb e he1 he3
      obtain ⟨i, h1, h2, h3⟩ := ih e.on hlt (by omega) ht (getD_in (by rw [inv.size]; omega) (by simpa using he4))
      exact ⟨i, by omega, h2, h3⟩

section
variable {p : Parts} {hs : List Sp} {w0 : World} {a0 : Act} {A : (Nat → Value) → Act} {X : (Nat → Gh) → List Nat}
theorem any_late (F : AnyF ops p) (hQ : ∀ c a w (d : Option Tmp) (v : Value), Q (.panic c) (a.put d v) w → Q (.panic c) a w) (hA : ∀ u, putD a0 p.ds 0 u = A u)
    (ok : ∀ i, i < ops.size → p.tail.contains i = false → OkAt P ops Q w0 A X p hs i) (fin : Fin P ops Q w0 A X p hs) (γ : Nat → Gh) (W : World) :
    ∀ (f : Nat) (listed : Array Bool) (u : Nat → Value) (a : Act), LInv ops p listed → cntp ops.size p listed = f →
      (∀ i, i < ops.size → p.tail.contains i = false → p.late.contains i = false → listed.getD i true = true) →
      (∀ i, i < ops.size → p.late.contains i = true → listed.getD i true = false → (spAt hs i).bl = fun _ => []) → Inv ops p hs w0 a0 listed γ u a W →
      wpAnyH P .any ops Q (fun W' => BX (X γ) W W') (f + p.tail.length) listed a W
  | 0, listed, u, a, inv, hc, _, _, I => by
    have e := cntp_zero inv hc
    have hl : ∀ j, j < ops.size → p.tail.contains j = false → listed.getD j false = true := fun j hj ht => by
      rw [e, headA_at _ _ hj, ht]; rfl
    obtain ⟨hb, ha, hkn, hdis⟩ := I
    have h1 := fin γ u W hb (Known.of fun j hj => by
      unfold heads at hj
      simp only [List.mem_filter, List.mem_range, Bool.not_eq_true'] at hj
      exact hkn j hj.2 hj.1 (hl j hj.1 hj.2)) (fun i j hti htj hi hj hne => hdis i j (by simpa using hti) (by simpa using htj) hi hj hne (hl i hi (by simpa using hti)) (hl j hj (by simpa using htj)))
    rw [← hA, ← ha] at h1
    have := planW_any F.sel (fun c a w d v => hQ c a w d v) (p.tail.map fun t => (t, false)) listed a W (by rw [e]; exact F.plan) (bx_refl _ _) h1
    simpa using this
  | f + 1, listed, u, a, inv, hc, hmain, hlb, I => by
    obtain ⟨j, hj, htj, hun⟩ := cntp_pos (n := ops.size) (p := p) (listed := listed) (by omega)
    obtain ⟨i, _, hti, hr⟩ := ready_first F inv j hj htj hun
    obtain ⟨huni, o, ho, hall⟩ := mem_ready.1 hr
    have hi : i < ops.size := (Array.getElem?_eq_some_iff.1 ho).1
    have hla : p.late.contains i = true := by
      cases h : p.late.contains i with
      | true => rfl
      | false => rw [hmain i hi hti h] at huni; cases huni
    have hkn := inv_known F inv I hi hti ho hall
    have hok := ((ok i hi hti).2.2.2 hla).2.2
    have hS : YieldsIf P ops (fun W' => BX (X γ) W W') o ((spAt hs i).val γ) a := by
      have h0 := hok γ u W W I.1 hkn (bx_refl _ _)
      obtain ⟨o', ho', h⟩ := h0
      obtain rfl : o = o' := Option.some.inj (ho.symm.trans ho')
      rw [← hA, ← I.2.1] at h
      rcases h with ⟨hw, _⟩ | ⟨hw, e⟩
      · refine .inl ⟨hw, fun W' hW' => ?_⟩
        obtain ⟨o', ho', h⟩ := hok γ u W W' I.1 hkn hW'
        obtain rfl : o = o' := Option.some.inj (ho.symm.trans ho')
        rw [← hA, ← I.2.1] at h
        rcases h with ⟨_, h⟩ | ⟨hw', _⟩
        · exact h
        · rw [hw] at hw'; cases hw'
      · exact .inr ⟨hw, e⟩
    have hR : (spAt hs i).R = fun _ _ => True := ((ok i hi hti).2.2.2 hla).2.1
    have hB := hlb i hi hla huni
    obtain ⟨oi, hoi, hap⟩ := F.lt i hla
    obtain rfl : o = oi := Option.some.inj (ho.symm.trans hoi)
    have hself : up γ i (γ i) = γ := by
      funext k
      unfold up
      split
      · rename_i e; rw [e]
      · rfl
    have I' := inv_up (W' := W) F ok inv I hi hti huni ho (γ i) (Below.refl _ _) (by rw [hR]; trivial) (by rw [hB]; intro x hx; cases hx)
    rw [hself] at I'
    have hlt : i < listed.size := by rw [inv.size]; exact hi
    rw [show f + 1 + p.tail.length = (f + p.tail.length) + 1 by omega]
    refine wpAnyH_first ho (Region.noSelect_spec F.sel) (fun c a w h => hQ c a w _ _ h) _ listed a W (fun k ok' hk hki hunk hno => ?_) hr hS (bx_refl _ _)
      (any_late F hQ hA ok fin γ W f _ _ _ (inv.set hr hti) (by have := cntp_set hi hlt hti huni; omega) (fun k hk h1 h2 => ?_) (fun k hk h1 h2 => ?_) I')
    · have hkl : p.late.contains k = true ∨ p.tail.contains k = true := by
        cases h1 : p.late.contains k with
        | true => exact .inl rfl
        | false =>
          cases h2 : p.tail.contains k with
          | true => exact .inr rfl
          | false => rw [hmain k (Array.getElem?_eq_some_iff.1 hk).1 h2 h1] at hunk; cases hunk
      rcases hap k hkl hki ok' hk with ⟨e, he, hb, hon⟩ | ⟨e, he, hb, hon⟩ | h
      · exact absurd hon (hno e he hb)
      · have := hall e he hb
        rw [hon, getD_both hunk] at this
        cases this
      · exact h
    · have := hmain k hk h1 h2
      have hne : i ≠ k := fun e => by rw [e, h2] at hla; cases hla
      rw [getD_set_ne true hne]; exact this
    · refine hlb k hk h1 ?_
      by_cases hne : i = k
      · rw [← hne] at h2; simp [hlt] at h2
      · rw [getD_set_ne true hne] at h2; exact h2

theorem any_head (F : AnyF ops p) (hQ : ∀ c a w (d : Option Tmp) (v : Value), Q (.panic c) (a.put d v) w → Q (.panic c) a w) (hA : ∀ u, putD a0 p.ds 0 u = A u)
    (ok : ∀ i, i < ops.size → p.tail.contains i = false → OkAt P ops Q w0 A X p hs i) (fin : Fin P ops Q w0 A X p hs) (hlb : ∀ i, i < ops.size → p.late.contains i = true → (spAt hs i).bl = fun _ => []) :
    ∀ (f : Nat) (listed : Array Bool) (γ : Nat → Gh) (u : Nat → Value) (a : Act) (W : World), LInv ops p listed → cntp ops.size p listed = f → Inv ops p hs w0 a0 listed γ u a W →
      wpAny P .any ops Q (f + p.tail.length) listed a W := by
  intro f
  induction f with
  | zero =>
    intro listed γ u a W inv hc I
    refine wpAny_of_held (S := fun W' => BX (X γ) W W') _ _ _ _ (any_late F hQ hA ok fin γ W 0 listed u a inv hc (fun i hi h1 h2 => ?_) (fun i hi h1 _ => hlb i hi h1) I)
    have e := cntp_zero inv hc
    rw [e, headA_at _ _ hi, h1]; rfl
  | succ f ih =>
    intro listed γ u a W inv hc I
    by_cases hm : ∀ i, i < ops.size → p.tail.contains i = false → p.late.contains i = false → listed.getD i true = true
    · exact wpAny_of_held (S := fun W' => BX (X γ) W W') _ _ _ _ (any_late F hQ hA ok fin γ W (f + 1) listed u a inv hc hm (fun i hi h1 _ => hlb i hi h1) I)
    · have ⟨i0, hm1⟩ := Classical.not_forall.1 hm
      have ⟨hi0, hm2⟩ := Classical.not_imp.1 hm1
      have ⟨ht0, hm3⟩ := Classical.not_imp.1 hm2
      have ⟨hl0, hm4⟩ := Classical.not_imp.1 hm3
      have hu0 : listed.getD i0 true = false := by simpa using hm4
      rw [show f + 1 + p.tail.length = (f + p.tail.length) + 1 by omega]
      refine ⟨fun h => ?_, fun i hr => ?_⟩
      · obtain ⟨i, _, _, hr⟩ := ready_first F inv i0 hi0 ht0 hu0
        rw [h] at hr
        cases hr
      · have hti : p.tail.contains i = false := by
          cases h : p.tail.contains i with
          | false => rfl
          | true => exact absurd hr (F.tail_waits inv hi0 ht0 hl0 hu0 i h)
        obtain ⟨huni, o, ho, _⟩ := mem_ready.1 hr
        have hi : i < ops.size := (Array.getElem?_eq_some_iff.1 ho).1
        have hlt : i < listed.size := by rw [inv.size]; exact hi
        refine wpOp_mono (fun a' W' h' => ?_) (inv_step F hA ok inv I hti hr)
        obtain ⟨γ', u', h'⟩ := h'
        exact ih _ γ' u' a' W' (inv.set hr hti) (by have := cntp_set hi hlt hti huni; omega) h'

end
theorem wpAny_rg {Q : Exit → Act → World → Prop} {a0 : Act} {w w0 : World} {l : List Oper} {A : (Nat → Value) → Act} (p : Parts) (X : (Nat → Gh) → List Nat)
    (hB : anyOk l.toArray p = true) (hb : Below w0.heap.size w0 w.drew) (hA : ∀ u, putD a0 p.ds 0 u = A u) (h : RGW P l.toArray (NoPanic Q) w0 A X p l.toArray.size []) :
    wpAny P .any l.toArray (NoPanic Q) l.toArray.size (Array.replicate l.toArray.size false) a0 w.drew := by
  have F := anyOk_spec hB
  obtain ⟨hs, _, ok, fin⟩ := RGW_all F _ [] (by simp) h
  have inv0 : LInv l.toArray p (Array.replicate l.toArray.size false) :=
    ⟨by simp, fun j oj _ hl => (by rw [getD_replicate_false] at hl; cases hl), fun t ht => getD_in (by have := F.tin t ht; simpa using this) (getD_replicate_false _ _)⟩
  have hc : cntp l.toArray.size p (Array.replicate l.toArray.size false) = (List.range l.toArray.size).countP (fun j => !p.tail.contains j) := by
    unfold cntp
    refine List.countP_congr fun j hj => ?_
    have : j < l.length := by have := List.mem_range.1 hj; simpa using this
    simp [this]
  have := any_head (P := P) (Q := NoPanic Q) F (fun _ _ _ _ _ h => h) hA (fun i hi ht => ok i (Nat.zero_le _) hi ht) fin (fun i hi hl => ((ok i (Nat.zero_le _) hi (F.lin i hl).1).2.2.2 hl).1) _ _ (fun _ => gh0) (fun j => match p.ds.getD j none with | some t => a0.tmps.getD t undef | none => undef) a0 w.drew inv0 hc
    ⟨hb, (putD_old p.ds a0 0 _ fun j _ => by simp).symm, fun j _ _ hl => (by rw [getD_replicate_false] at hl; cases hl), fun i j _ _ _ _ _ hl => (by rw [getD_replicate_false] at hl; cases hl)⟩
  rw [F.cnt] at this
  exact this
/-- The walk of a region in whatever order. -/
theorem wp_any {id : Nat} {a0 : Act} {w w0 : World} {l : List Oper} {A : (Nat → Value) → Act} (p : Parts) (X : (Nat → Gh) → List Nat) (hm : P.follows .mixedOrders = true)
    (hB : anyOk l.toArray p = true) (hb : Below w0.heap.size w0 w.drew) (hA : ∀ u, putD a0 p.ds 0 u = A u) (h : RGW P l.toArray (NoPanic Q) w0 A X p l.toArray.size []) :
    (Code.region id l.toArray true).wp P Q a0 w :=
  wp_region_noPanic (wp_region_any hm (wpAny_rg p X hB hb hA h))

section
variable {w0 : World} {A : (Nat → Value) → Act} {X : (Nat → Gh) → List Nat} {p : Parts} {k i : Nat} {h : List Sp} {o : Oper} {val : (Nat → Gh) → Value}
theorem shut_in {p : Prop} (h : p) : Shut p := h
theorem up_self (γ : Nat → Gh) (i : Nat) : up γ i (γ i) = γ := by
  funext k
  unfold up
  split
  · rename_i e; rw [e]
  · rfl
theorem RGW.skip (hn : h.length = i) (ht : p.tail.contains i = true) (H : RGW P ops Q w0 A X p k (h ++ [sp0])) : RGW P ops Q w0 A X p (k + 1) h :=
  ⟨sp0, fun h' => (by rw [hn, ht] at h'; cases h'), H⟩
theorem opW_on {γ : Nat → Gh} {u : Nat → Value} {W : World} {R : (Nat → Gh) → World → Prop} (hi : ops[i]? = some o) (hR : R γ W)
    (hw : Region.wanted o (yielded ops (A u).tmps) = true) (hv : (execOp (A u).eval o).run P W = .ok (.value (val γ)) W) : OpW P ops Q i o ⟨val, R, fun _ => []⟩ γ (A u) W := by
  unfold OpW wpOp
  simp only [hi]
  rw [if_pos hw]
  refine .inl ?_
  unfold Oper.wp
  simp only [hv, Oper.upon]
  refine ⟨γ i, ?_, Below.refl _ _, ?_, fun x hx => by cases hx⟩
  · rw [up_self]
  · rw [up_self]; exact hR
theorem opW_off {γ : Nat → Gh} {u : Nat → Value} {W : World} (hi : ops[i]? = some o)
    (hw : Region.wanted o (yielded ops (A u).tmps) = false) : OpW P ops Q i o ⟨fun _ => undef, fun _ _ => True, fun _ => []⟩ γ (A u) W := by
  unfold OpW wpOp
  simp only [hi]
  rw [if_neg (by rw [hw]; decide)]
  exact ⟨γ i, by simp, Below.refl _ _, by simp, by simp⟩
theorem RGW.on (hn : h.length = i) (hi : ops[i]? = some o) (hop : ∀ γ u W, Below w0.heap.size w0 W → KnownL h γ u w0 W (p.D.getD i []) → Region.wanted o (yielded ops (A u).tmps) = true ∧ (execOp (A u).eval o).run P W = .ok (.value (val γ)) W)
    (hc : ∀ γ γ' : Nat → Gh, (∀ j, j = i ∨ j ∈ p.C.getD i [] → γ j = γ' j) → val γ = val γ') (hl : p.late.contains i = false)
    (H : RGW P ops Q w0 A X p k (h ++ [⟨val, fun _ _ => True, fun _ => []⟩])) : RGW P ops Q w0 A X p (k + 1) h := by
  subst hn
  exact ⟨_, fun _ => ⟨fun γ γ' hg => ⟨hc γ γ' hg, fun _ h => h⟩, fun _ _ _ _ h => h, fun γ u W hb hk => ⟨o, hi, opW_on (R := fun _ _ => True) hi trivial (hop γ u W hb hk.toL).1 (hop γ u W hb hk.toL).2⟩, fun h => by rw [hl] at h; cases h⟩, H⟩
theorem RGW.off (hn : h.length = i) (hi : ops[i]? = some o) (hop : ∀ γ u W, Below w0.heap.size w0 W → KnownL h γ u w0 W (p.D.getD i []) → Region.wanted o (yielded ops (A u).tmps) = false)
    (hl : p.late.contains i = false)
    (H : RGW P ops Q w0 A X p k (h ++ [⟨fun _ => undef, fun _ _ => True, fun _ => []⟩])) : RGW P ops Q w0 A X p (k + 1) h := by
  subst hn
  exact ⟨_, fun _ => ⟨fun γ γ' hg => ⟨rfl, fun _ h => h⟩, fun _ _ _ _ h => h, fun γ u W hb hk => ⟨o, hi, opW_off hi (hop γ u W hb hk.toL)⟩, fun h => by rw [hl] at h; cases h⟩, H⟩
theorem RGW.onL (hn : h.length = i) (hi : ops[i]? = some o) (hop : ∀ γ u Wm W, Below w0.heap.size w0 Wm → KnownL h γ u w0 Wm (p.D.getD i []) → BX (X γ) Wm W → Region.wanted o (yielded ops (A u).tmps) = true ∧ (execOp (A u).eval o).run P W = .ok (.value (val γ)) W)
    (hc : ∀ γ γ' : Nat → Gh, (∀ j, j = i ∨ j ∈ p.C.getD i [] → γ j = γ' j) → val γ = val γ')
    (H : RGW P ops Q w0 A X p k (h ++ [⟨val, fun _ _ => True, fun _ => []⟩])) : RGW P ops Q w0 A X p (k + 1) h := by
  subst hn
  exact ⟨_, fun _ => ⟨fun γ γ' hg => ⟨hc γ γ' hg, fun _ h => h⟩, fun _ _ _ _ h => h, fun γ u W hb hk => ⟨o, hi, opW_on (R := fun _ _ => True) hi trivial (hop γ u W W hb hk.toL (bx_refl _ _)).1 (hop γ u W W hb hk.toL (bx_refl _ _)).2⟩,
    fun _ => ⟨rfl, rfl, fun γ u Wm W hb hk hx => ⟨o, hi, .inl (hop γ u Wm W hb hk.toL hx)⟩⟩⟩, H⟩
theorem RGW.offL (hn : h.length = i) (hi : ops[i]? = some o) (hop : ∀ γ u Wm W, Below w0.heap.size w0 Wm → KnownL h γ u w0 Wm (p.D.getD i []) → BX (X γ) Wm W → Region.wanted o (yielded ops (A u).tmps) = false)
    (H : RGW P ops Q w0 A X p k (h ++ [⟨fun _ => undef, fun _ _ => True, fun _ => []⟩])) : RGW P ops Q w0 A X p (k + 1) h := by
  subst hn
  exact ⟨_, fun _ => ⟨fun γ γ' hg => ⟨rfl, fun _ h => h⟩, fun _ _ _ _ h => h, fun γ u W hb hk => ⟨o, hi, opW_off hi (hop γ u W W hb hk.toL (bx_refl _ _))⟩,
    fun _ => ⟨rfl, rfl, fun γ u Wm W hb hk hx => ⟨o, hi, .inr ⟨hop γ u Wm W hb hk.toL hx, rfl⟩⟩⟩⟩, H⟩
/-- Any operation that meets a specification with a ghost. -/
theorem RGW.gh (s : Sp) (hn : h.length = i) (hi : ops[i]? = some o)
    (hop : ∀ γ u W, Below w0.heap.size w0 W → KnownL h γ u w0 W (p.D.getD i []) → Region.wanted o (yielded ops (A u).tmps) = true ∧
      ∀ K : Act → World → Prop, Shut (∀ g v W', v = s.val (up γ i g) → Below W.heap.size W W' → s.R (up γ i g) W' → (∀ x ∈ s.bl g, W.heap.size ≤ x ∧ x < W'.heap.size) → K ((A u).put o.dst v) W') → Oper.wp P o (A u) W K Q)
    (hc : Cong (p.C.getD i []) i s) (hm : ∀ γ W W', Below W.heap.size W W' → s.R γ W → s.R γ W') (hl : p.late.contains i = false)
    (H : RGW P ops Q w0 A X p k (h ++ [s])) : RGW P ops Q w0 A X p (k + 1) h := by
  subst hn
  refine ⟨s, fun _ => ⟨hc, hm, fun γ u W hb hk => ⟨o, hi, ?_⟩, fun h => by rw [hl] at h; cases h⟩, H⟩
  obtain ⟨hw, hx⟩ := hop γ u W hb hk.toL
  unfold OpW wpOp
  simp only [hi]
  rw [if_pos hw]
  exact .inl (hx _ (shut_in fun g v W' hv hb' hR hbl => ⟨g, by rw [hv], hb', hR, hbl⟩))
theorem RGW.call (hn : h.length = i) (hi : ops[i]? = some o)
    (hop : ∀ γ u W, Below w0.heap.size w0 W → KnownL h γ u w0 W (p.D.getD i []) → Region.wanted o (yielded ops (A u).tmps) = true ∧
      ∀ K : Act → World → Prop, Shut (∀ v W', v = val γ → Below W.heap.size W W' → K ((A u).put o.dst v) W') → Oper.wp P o (A u) W K Q)
    (hc : ∀ γ γ' : Nat → Gh, (∀ j, j = i ∨ j ∈ p.C.getD i [] → γ j = γ' j) → val γ = val γ') (hl : p.late.contains i = false)
    (H : RGW P ops Q w0 A X p k (h ++ [⟨val, fun _ _ => True, fun _ => []⟩])) : RGW P ops Q w0 A X p (k + 1) h := by
  subst hn
  refine ⟨_, fun _ => ⟨fun γ γ' hg => ⟨hc γ γ' hg, fun _ h => h⟩, fun _ _ _ _ h => h, fun γ u W hb hk => ⟨o, hi, ?_⟩, fun h => by rw [hl] at h; cases h⟩, H⟩
  obtain ⟨hw, hx⟩ := hop γ u W hb hk.toL
  unfold OpW wpOp
  simp only [hi]
  rw [if_pos hw]
  exact .inl (hx _ (shut_in fun v W' hv hb' => ⟨γ h.length, by rw [up_self, hv], hb', trivial, fun x hx => by cases hx⟩))
/-- A new block. -/
theorem RGW.alloc {t : TypeId} {cs : (Nat → Gh) → Array Value} (hn : h.length = i) (hi : ops[i]? = some o)
    (hop : ∀ γ u W, Below w0.heap.size w0 W → KnownL h γ u w0 W (p.D.getD i []) → Region.wanted o (yielded ops (A u).tmps) = true ∧
      ∀ K : Act → World → Prop, Shut (∀ v W', v = .pointer (some ⟨W.heap.size, 0, none⟩) → W' = W.alloc (.cells (cs γ) t) → K ((A u).put o.dst v) W') → Oper.wp P o (A u) W K Q)
    (hc : ∀ γ γ' : Nat → Gh, (∀ j, j ≠ i → j ∈ p.C.getD i [] → γ j = γ' j) → cs γ = cs γ') (hl : p.late.contains i = false) (hni : (p.C.getD i []).contains i = false)
    (H : RGW P ops Q w0 A X p k (h ++ [⟨fun γ => .pointer (some ⟨(γ i).n, 0, none⟩), fun γ W => Blk W (γ i).n t (cs γ), fun g => [g.n]⟩])) : RGW P ops Q w0 A X p (k + 1) h := by
  refine RGW.gh _ hn hi (fun γ u W hb hk => ⟨(hop γ u W hb hk).1, fun K hK => (hop γ u W hb hk).2 K (shut_in fun v W' hv hW => ?_)⟩) (fun γ γ' hg => ?_) (fun γ W W' hb hR => Blk.below hR hb) hl H
  · subst hW
    refine hK.out ⟨W.heap.size, undef, none, 0⟩ v _ (by simp [up, hv]) (bl_al _ (bl_refl W)) ?_ (fun x hx => ?_)
    · have : cs (up γ i ⟨W.heap.size, undef, none, 0⟩) = cs γ := hc _ _ fun j hj _ => by simp [up, hj]
      dsimp only
      rw [this]
      simpa [up] using Blk.new W t (cs γ)
    · have : x = W.heap.size := by simpa using hx
      subst this
      simp
  · have h1 := hg i (.inl rfl)
    have h2 : cs γ = cs γ' := hc γ γ' fun j _ hj => hg j (.inr hj)
    exact ⟨by dsimp only; rw [h1], fun W hR => by dsimp only at hR ⊢; rw [← h1, ← h2]; exact hR⟩
/-- A new block, and a slice of it. -/
theorem RGW.bslice {t : TypeId} {cs : (Nat → Gh) → Array Value} {m c : Nat} (hn : h.length = i) (hi : ops[i]? = some o)
    (hop : ∀ γ u W, Below w0.heap.size w0 W → KnownL h γ u w0 W (p.D.getD i []) → Region.wanted o (yielded ops (A u).tmps) = true ∧
      ∀ K : Act → World → Prop, Shut (∀ v W', v = .slice (some ⟨W.heap.size, 0, none⟩) m c → W' = W.alloc (.cells (cs γ) t) → K ((A u).put o.dst v) W') → Oper.wp P o (A u) W K Q)
    (hc : ∀ γ γ' : Nat → Gh, (∀ j, j ≠ i → j ∈ p.C.getD i [] → γ j = γ' j) → cs γ = cs γ') (hl : p.late.contains i = false) (hni : (p.C.getD i []).contains i = false)
    (H : RGW P ops Q w0 A X p k (h ++ [⟨fun γ => .slice (some ⟨(γ i).n, 0, none⟩) m c, fun γ W => Blk W (γ i).n t (cs γ), fun g => [g.n]⟩])) : RGW P ops Q w0 A X p (k + 1) h := by
  refine RGW.gh _ hn hi (fun γ u W hb hk => ⟨(hop γ u W hb hk).1, fun K hK => (hop γ u W hb hk).2 K (shut_in fun v W' hv hW => ?_)⟩) (fun γ γ' hg => ?_) (fun γ W W' hb hR => Blk.below hR hb) hl H
  · subst hW
    refine hK.out ⟨W.heap.size, undef, none, 0⟩ v _ (by simp [up, hv]) (bl_al _ (bl_refl W)) ?_ (fun x hx => ?_)
    · have : cs (up γ i ⟨W.heap.size, undef, none, 0⟩) = cs γ := hc _ _ fun j hj _ => by simp [up, hj]
      dsimp only
      rw [this]
      simpa [up] using Blk.new W t (cs γ)
    · have : x = W.heap.size := by simpa using hx
      subst this
      simp
  · have h1 := hg i (.inl rfl)
    have h2 : cs γ = cs γ' := hc γ γ' fun j _ hj => hg j (.inr hj)
    exact ⟨by dsimp only; rw [h1], fun W hR => by dsimp only at hR ⊢; rw [← h1, ← h2]; exact hR⟩
theorem RGW.fin (H : ∀ γ u W, Below w0.heap.size w0 W → KnownL h γ u w0 W (heads ops.size p.tail) →
    (∀ i j, !p.tail.contains i → !p.tail.contains j → i < ops.size → j < ops.size → i ≠ j → look h i (fun s => look h j (fun s' => ∀ x ∈ s.bl (γ i), ∀ y ∈ s'.bl (γ j), x ≠ y))) →
    PlanW P ops Q (fun W' => BX (X γ) W W') (p.tail.map fun t => (t, false)) (A u) W) : RGW P ops Q w0 A X p 0 h := fun γ u W hb hk hd => H γ u W hb hk.toL (fun i j h1 h2 h3 h4 h5 => by rw [look_eq, look_eq]; exact hd i j h1 h2 h3 h4 h5)
end
end
theorem Blk.laterF {w : World} {g : Nat} {t : TypeId} {cs : Array Value} (h : Blk w g t cs) : ∀ W, Below w.heap.size w W → ∀ i, W.frozen? ⟨g, i, none⟩ = false := fun _ hb i => (h.below hb).frozen i
theorem Blk.set6 {w : World} {g : Nat} {t : TypeId} {a0 a1 a2 a3 a4 a5 v0 v1 v2 v3 v4 v5 : Value} (h : Blk w g t #[a0, a1, a2, a3, a4, a5]) :
    Blk ((((((w.setCell ⟨g, 0, none⟩ v0).setCell ⟨g, 1, none⟩ v1).setCell ⟨g, 2, none⟩ v2).setCell ⟨g, 3, none⟩ v3).setCell ⟨g, 4, none⟩ v4).setCell ⟨g, 5, none⟩ v5) g t #[v0, v1, v2, v3, v4, v5] :=
  (((((h.set 0 v0).set 1 v1).set 2 v2).set 3 v3).set 4 v4).set 5 v5
theorem bl_set6 {w W : World} {g : Nat} {v0 v1 v2 v3 v4 v5 : Value} (hg : w.heap.size ≤ g) (h : Below w.heap.size w W) :
    Below w.heap.size w ((((((W.setCell ⟨g, 0, none⟩ v0).setCell ⟨g, 1, none⟩ v1).setCell ⟨g, 2, none⟩ v2).setCell ⟨g, 3, none⟩ v3).setCell ⟨g, 4, none⟩ v4).setCell ⟨g, 5, none⟩ v5) :=
  bl_set hg v5 (bl_set hg v4 (bl_set hg v3 (bl_set hg v2 (bl_set hg v1 (bl_set hg v0 h)))))
theorem bl_row {w X : World} {g : Nat} (hg : w.heap.size ≤ g) (cs : Array Value) (h : Below w.heap.size w X) : Below w.heap.size w (X.setRow g cs) :=
  h.trans ⟨rfl, rfl, rfl, by simp [World.setRow], fun k hk => setRow_other X g k cs (by omega)⟩
theorem Blk.laterN {w : World} {g : Nat} {t : TypeId} {cs : Array Value} (h : Blk w g t cs) : ∀ (X : List Nat) W, BX X w W → g ∉ X → ∀ i, W.cell? ⟨g, i, none⟩ = cs[i]? := fun _ _ hb hX i => (h.keep hX hb).cell i
/- Short names for the closing steps. -/
abbrev jA := @bl_refl
abbrev jB := @bl_al
abbrev jC := @bl_drew
abbrev jD := @bl_drewN
abbrev jE := @bl_set
abbrev jF := @bl_row
abbrev jG := @bx_refl
abbrev jH := @bx_set
abbrev jI := @bx_drew
abbrev jJ := @bx_al
abbrev jK := @bx_drewN
abbrev jL := @Blk.newAt
abbrev jM := @Blk.alloc
abbrev jN := @Blk.drew
abbrev jO := @Blk.drewN
abbrev jP := @Blk.set
abbrev jQ := @Blk.other
abbrev jR := @Blk.row
abbrev jS := @Blk.rowOther
abbrev jT := @Blk.below
theorem gA {α : Type} {l : List α} {i : Nat} : l.toArray[i]? = l[i]? := List.getElem?_toArray
theorem gB {α : Type} {a : α} {l : List α} {i : Nat} : (a :: l)[i + 1]? = l[i]? := List.getElem?_cons_succ
theorem gC {α : Type} {a : α} {l : List α} : (a :: l)[0]? = some a := List.getElem?_cons_zero
theorem nA {α : Type} {l : List α} : [] ++ l = l := rfl
theorem cA {α : Type} {a : α} {l m : List α} : (a :: l) ++ m = a :: (l ++ m) := rfl
end Go.Proofs.YtdlmkblmljhbfaaDoor
namespace Go.Proofs.YtdlmkblmljhbfaaDoor
set_option linter.unusedSimpArgs false
set_option linter.unusedVariables false
open Go.RowKit
section
variable {P : Program} {w0 w : World} {a : Act}

theorem absX1 {G : World → Prop} {g0 : Nat} {t0 : TypeId} {c0 : Array Value} (hb : Below w0.heap.size w0 w) (k0 : Blk w g0 t0 c0) (h : ∀ W, Below w0.heap.size w0 W → Blk W g0 t0 c0 → G W) : G w := h w hb k0
theorem absK1 {c : Code} {Q : Exit → Act → World → Prop} {X : List Nat} {g0 : Nat} {t0 : TypeId} {c0 : Array Value} (hb : BX X w0 w) (k0 : Blk w g0 t0 c0) (h : ∀ W, BX X w0 W → Blk W g0 t0 c0 → c.wp P Q a W) : c.wp P Q a w := h w hb k0
theorem absB1 {c : Code} {Q : Exit → Act → World → Prop} {g0 : Nat} {t0 : TypeId} {c0 : Array Value} (hb : Below w0.heap.size w0 w) (k0 : Blk w g0 t0 c0) (h : ∀ W, Below w0.heap.size w0 W → Blk W g0 t0 c0 → c.wp P Q a W) : c.wp P Q a w := h w hb k0
theorem absRK1 {c : Code} {Q : Exit → Act → World → Prop} {m : Nat} {X : List Nat} {g0 : Nat} {t0 : TypeId} {c0 : Array Value} (hb : BX X w0 w) (k0 : Blk w g0 t0 c0) (h : ∀ W, BX X w0 W → Blk W g0 t0 c0 → c.rounds P Q m a W) : c.rounds P Q m a w := h w hb k0
theorem absRB1 {c : Code} {Q : Exit → Act → World → Prop} {m : Nat} {g0 : Nat} {t0 : TypeId} {c0 : Array Value} (hb : Below w0.heap.size w0 w) (k0 : Blk w g0 t0 c0) (h : ∀ W, Below w0.heap.size w0 W → Blk W g0 t0 c0 → c.rounds P Q m a W) : c.rounds P Q m a w := h w hb k0
theorem absIK1 {F : Fence} {n : Nat} {c : Code} {Q : Exit → Act → World → Prop} {X : List Nat} {g0 : Nat} {t0 : TypeId} {c0 : Array Value} (hb : BX X w0 w) (k0 : Blk w g0 t0 c0) (h : ∀ W, BX X w0 W → Blk W g0 t0 c0 → c.wpIn F n P Q a W) : c.wpIn F n P Q a w := h w hb k0
theorem absIB1 {F : Fence} {n : Nat} {c : Code} {Q : Exit → Act → World → Prop} {g0 : Nat} {t0 : TypeId} {c0 : Array Value} (hb : Below w0.heap.size w0 w) (k0 : Blk w g0 t0 c0) (h : ∀ W, Below w0.heap.size w0 W → Blk W g0 t0 c0 → c.wpIn F n P Q a W) : c.wpIn F n P Q a w := h w hb k0
theorem absJK1 {F : Fence} {n : Nat} {c : Code} {Q : Exit → Act → World → Prop} {m : Nat} {X : List Nat} {g0 : Nat} {t0 : TypeId} {c0 : Array Value} (hb : BX X w0 w) (k0 : Blk w g0 t0 c0) (h : ∀ W, BX X w0 W → Blk W g0 t0 c0 → c.roundsIn F n P Q m a W) : c.roundsIn F n P Q m a w := h w hb k0
theorem absJB1 {F : Fence} {n : Nat} {c : Code} {Q : Exit → Act → World → Prop} {m : Nat} {g0 : Nat} {t0 : TypeId} {c0 : Array Value} (hb : Below w0.heap.size w0 w) (k0 : Blk w g0 t0 c0) (h : ∀ W, Below w0.heap.size w0 W → Blk W g0 t0 c0 → c.roundsIn F n P Q m a W) : c.roundsIn F n P Q m a w := h w hb k0
theorem absTK1 {K : Act → World → Prop} {Q : Exit → Act → World → Prop} {x : Exit} {X : List Nat} {g0 : Nat} {t0 : TypeId} {c0 : Array Value} (hb : BX X w0 w) (k0 : Blk w g0 t0 c0) (h : ∀ W, BX X w0 W → Blk W g0 t0 c0 → Exit.then K Q x a W) : Exit.then K Q x a w := h w hb k0
theorem absTB1 {K : Act → World → Prop} {Q : Exit → Act → World → Prop} {x : Exit} {g0 : Nat} {t0 : TypeId} {c0 : Array Value} (hb : Below w0.heap.size w0 w) (k0 : Blk w g0 t0 c0) (h : ∀ W, Below w0.heap.size w0 W → Blk W g0 t0 c0 → Exit.then K Q x a W) : Exit.then K Q x a w := h w hb k0
theorem absPB1 {fn : Func} {R : Ending → World → Prop} {x : Exit} {g0 : Nat} {t0 : TypeId} {c0 : Array Value} (hb : Below w0.heap.size w0 w) (k0 : Blk w g0 t0 c0) (h : ∀ W, Below w0.heap.size w0 W → Blk W g0 t0 c0 → bodyPost P fn R x a W) : bodyPost P fn R x a w := h w hb k0
theorem absX2 {G : World → Prop} {g0 g1 : Nat} {t0 t1 : TypeId} {c0 c1 : Array Value} (hb : Below w0.heap.size w0 w) (k0 : Blk w g0 t0 c0) (k1 : Blk w g1 t1 c1) (h : ∀ W, Below w0.heap.size w0 W → Blk W g0 t0 c0 → Blk W g1 t1 c1 → G W) : G w := h w hb k0 k1
theorem absK2 {c : Code} {Q : Exit → Act → World → Prop} {X : List Nat} {g0 g1 : Nat} {t0 t1 : TypeId} {c0 c1 : Array Value} (hb : BX X w0 w) (k0 : Blk w g0 t0 c0) (k1 : Blk w g1 t1 c1) (h : ∀ W, BX X w0 W → Blk W g0 t0 c0 → Blk W g1 t1 c1 → c.wp P Q a W) : c.wp P Q a w := h w hb k0 k1
theorem absB2 {c : Code} {Q : Exit → Act → World → Prop} {g0 g1 : Nat} {t0 t1 : TypeId} {c0 c1 : Array Value} (hb : Below w0.heap.size w0 w) (k0 : Blk w g0 t0 c0) (k1 : Blk w g1 t1 c1) (h : ∀ W, Below w0.heap.size w0 W → Blk W g0 t0 c0 → Blk W g1 t1 c1 → c.wp P Q a W) : c.wp P Q a w := h w hb k0 k1
theorem absRK2 {c : Code} {Q : Exit → Act → World → Prop} {m : Nat} {X : List Nat} {g0 g1 : Nat} {t0 t1 : TypeId} {c0 c1 : Array Value} (hb : BX X w0 w) (k0 : Blk w g0 t0 c0) (k1 : Blk w g1 t1 c1) (h : ∀ W, BX X w0 W → Blk W g0 t0 c0 → Blk W g1 t1 c1 → c.rounds P Q m a W) : c.rounds P Q m a w := h w hb k0 k1
theorem absRB2 {c : Code} {Q : Exit → Act → World → Prop} {m : Nat} {g0 g1 : Nat} {t0 t1 : TypeId} {c0 c1 : Array Value} (hb : Below w0.heap.size w0 w) (k0 : Blk w g0 t0 c0) (k1 : Blk w g1 t1 c1) (h : ∀ W, Below w0.heap.size w0 W → Blk W g0 t0 c0 → Blk W g1 t1 c1 → c.rounds P Q m a W) : c.rounds P Q m a w := h w hb k0 k1
theorem absIK2 {F : Fence} {n : Nat} {c : Code} {Q : Exit → Act → World → Prop} {X : List Nat} {g0 g1 : Nat} {t0 t1 : TypeId} {c0 c1 : Array Value} (hb : BX X w0 w) (k0 : Blk w g0 t0 c0) (k1 : Blk w g1 t1 c1) (h : ∀ W, BX X w0 W → Blk W g0 t0 c0 → Blk W g1 t1 c1 → c.wpIn F n P Q a W) : c.wpIn F n P Q a w := h w hb k0 k1
theorem absIB2 {F : Fence} {n : Nat} {c : Code} {Q : Exit → Act → World → Prop} {g0 g1 : Nat} {t0 t1 : TypeId} {c0 c1 : Array Value} (hb : Below w0.heap.size w0 w) (k0 : Blk w g0 t0 c0) (k1 : Blk w g1 t1 c1) (h : ∀ W, Below w0.heap.size w0 W → Blk W g0 t0 c0 → Blk W g1 t1 c1 → c.wpIn F n P Q a W) : c.wpIn F n P Q a w := h w hb k0 k1
theorem absJK2 {F : Fence} {n : Nat} {c : Code} {Q : Exit → Act → World → Prop} {m : Nat} {X : List Nat} {g0 g1 : Nat} {t0 t1 : TypeId} {c0 c1 : Array Value} (hb : BX X w0 w) (k0 : Blk w g0 t0 c0) (k1 : Blk w g1 t1 c1) (h : ∀ W, BX X w0 W → Blk W g0 t0 c0 → Blk W g1 t1 c1 → c.roundsIn F n P Q m a W) : c.roundsIn F n P Q m a w := h w hb k0 k1
theorem absJB2 {F : Fence} {n : Nat} {c : Code} {Q : Exit → Act → World → Prop} {m : Nat} {g0 g1 : Nat} {t0 t1 : TypeId} {c0 c1 : Array Value} (hb : Below w0.heap.size w0 w) (k0 : Blk w g0 t0 c0) (k1 : Blk w g1 t1 c1) (h : ∀ W, Below w0.heap.size w0 W → Blk W g0 t0 c0 → Blk W g1 t1 c1 → c.roundsIn F n P Q m a W) : c.roundsIn F n P Q m a w := h w hb k0 k1
theorem absTK2 {K : Act → World → Prop} {Q : Exit → Act → World → Prop} {x : Exit} {X : List Nat} {g0 g1 : Nat} {t0 t1 : TypeId} {c0 c1 : Array Value} (hb : BX X w0 w) (k0 : Blk w g0 t0 c0) (k1 : Blk w g1 t1 c1) (h : ∀ W, BX X w0 W → Blk W g0 t0 c0 → Blk W g1 t1 c1 → Exit.then K Q x a W) : Exit.then K Q x a w := h w hb k0 k1
theorem absTB2 {K : Act → World → Prop} {Q : Exit → Act → World → Prop} {x : Exit} {g0 g1 : Nat} {t0 t1 : TypeId} {c0 c1 : Array Value} (hb : Below w0.heap.size w0 w) (k0 : Blk w g0 t0 c0) (k1 : Blk w g1 t1 c1) (h : ∀ W, Below w0.heap.size w0 W → Blk W g0 t0 c0 → Blk W g1 t1 c1 → Exit.then K Q x a W) : Exit.then K Q x a w := h w hb k0 k1
theorem absPB2 {fn : Func} {R : Ending → World → Prop} {x : Exit} {g0 g1 : Nat} {t0 t1 : TypeId} {c0 c1 : Array Value} (hb : Below w0.heap.size w0 w) (k0 : Blk w g0 t0 c0) (k1 : Blk w g1 t1 c1) (h : ∀ W, Below w0.heap.size w0 W → Blk W g0 t0 c0 → Blk W g1 t1 c1 → bodyPost P fn R x a W) : bodyPost P fn R x a w := h w hb k0 k1
theorem absX3 {G : World → Prop} {g0 g1 g2 : Nat} {t0 t1 t2 : TypeId} {c0 c1 c2 : Array Value} (hb : Below w0.heap.size w0 w) (k0 : Blk w g0 t0 c0) (k1 : Blk w g1 t1 c1) (k2 : Blk w g2 t2 c2) (h : ∀ W, Below w0.heap.size w0 W → Blk W g0 t0 c0 → Blk W g1 t1 c1 → Blk W g2 t2 c2 → G W) : G w := h w hb k0 k1 k2
theorem absK3 {c : Code} {Q : Exit → Act → World → Prop} {X : List Nat} {g0 g1 g2 : Nat} {t0 t1 t2 : TypeId} {c0 c1 c2 : Array Value} (hb : BX X w0 w) (k0 : Blk w g0 t0 c0) (k1 : Blk w g1 t1 c1) (k2 : Blk w g2 t2 c2) (h : ∀ W, BX X w0 W → Blk W g0 t0 c0 → Blk W g1 t1 c1 → Blk W g2 t2 c2 → c.wp P Q a W) : c.wp P Q a w := h w hb k0 k1 k2
theorem absB3 {c : Code} {Q : Exit → Act → World → Prop} {g0 g1 g2 : Nat} {t0 t1 t2 : TypeId} {c0 c1 c2 : Array Value} (hb : Below w0.heap.size w0 w) (k0 : Blk w g0 t0 c0) (k1 : Blk w g1 t1 c1) (k2 : Blk w g2 t2 c2) (h : ∀ W, Below w0.heap.size w0 W → Blk W g0 t0 c0 → Blk W g1 t1 c1 → Blk W g2 t2 c2 → c.wp P Q a W) : c.wp P Q a w := h w hb k0 k1 k2
theorem absRK3 {c : Code} {Q : Exit → Act → World → Prop} {m : Nat} {X : List Nat} {g0 g1 g2 : Nat} {t0 t1 t2 : TypeId} {c0 c1 c2 : Array Value} (hb : BX X w0 w) (k0 : Blk w g0 t0 c0) (k1 : Blk w g1 t1 c1) (k2 : Blk w g2 t2 c2) (h : ∀ W, BX X w0 W → Blk W g0 t0 c0 → Blk W g1 t1 c1 → Blk W g2 t2 c2 → c.rounds P Q m a W) : c.rounds P Q m a w := h w hb k0 k1 k2
theorem absRB3 {c : Code} {Q : Exit → Act → World → Prop} {m : Nat} {g0 g1 g2 : Nat} {t0 t1 t2 : TypeId} {c0 c1 c2 : Array Value} (hb : Below w0.heap.size w0 w) (k0 : Blk w g0 t0 c0) (k1 : Blk w g1 t1 c1) (k2 : Blk w g2 t2 c2) (h : ∀ W, Below w0.heap.size w0 W → Blk W g0 t0 c0 → Blk W g1 t1 c1 → Blk W g2 t2 c2 → c.rounds P Q m a W) : c.rounds P Q m a w := h w hb k0 k1 k2
theorem absIK3 {F : Fence} {n : Nat} {c : Code} {Q : Exit → Act → World → Prop} {X : List Nat} {g0 g1 g2 : Nat} {t0 t1 t2 : TypeId} {c0 c1 c2 : Array Value} (hb : BX X w0 w) (k0 : Blk w g0 t0 c0) (k1 : Blk w g1 t1 c1) (k2 : Blk w g2 t2 c2) (h : ∀ W, BX X w0 W → Blk W g0 t0 c0 → Blk W g1 t1 c1 → Blk W g2 t2 c2 → c.wpIn F n P Q a W) : c.wpIn F n P Q a w := h w hb k0 k1 k2
theorem absIB3 {F : Fence} {n : Nat} {c : Code} {Q : Exit → Act → World → Prop} {g0 g1 g2 : Nat} {t0 t1 t2 : TypeId} {c0 c1 c2 : Array Value} (hb : Below w0.heap.size w0 w) (k0 : Blk w g0 t0 c0) (k1 : Blk w g1 t1 c1) (k2 : Blk w g2 t2 c2) (h : ∀ W, Below w0.heap.size w0 W → Blk W g0 t0 c0 → Blk W g1 t1 c1 → Blk W g2 t2 c2 → c.wpIn F n P Q a W) : c.wpIn F n P Q a w := h w hb k0 k1 k2
theorem absJK3 {F : Fence} {n : Nat} {c : Code} {Q : Exit → Act → World → Prop} {m : Nat} {X : List Nat} {g0 g1 g2 : Nat} {t0 t1 t2 : TypeId} {c0 c1 c2 : Array Value} (hb : BX X w0 w) (k0 : Blk w g0 t0 c0) (k1 : Blk w g1 t1 c1) (k2 : Blk w g2 t2 c2) (h : ∀ W, BX X w0 W → Blk W g0 t0 c0 → Blk W g1 t1 c1 → Blk W g2 t2 c2 → c.roundsIn F n P Q m a W) : c.roundsIn F n P Q m a w := h w hb k0 k1 k2
theorem absJB3 {F : Fence} {n : Nat} {c : Code} {Q : Exit → Act → World → Prop} {m : Nat} {g0 g1 g2 : Nat} {t0 t1 t2 : TypeId} {c0 c1 c2 : Array Value} (hb : Below w0.heap.size w0 w) (k0 : Blk w g0 t0 c0) (k1 : Blk w g1 t1 c1) (k2 : Blk w g2 t2 c2) (h : ∀ W, Below w0.heap.size w0 W → Blk W g0 t0 c0 → Blk W g1 t1 c1 → Blk W g2 t2 c2 → c.roundsIn F n P Q m a W) : c.roundsIn F n P Q m a w := h w hb k0 k1 k2
theorem absTK3 {K : Act → World → Prop} {Q : Exit → Act → World → Prop} {x : Exit} {X : List Nat} {g0 g1 g2 : Nat} {t0 t1 t2 : TypeId} {c0 c1 c2 : Array Value} (hb : BX X w0 w) (k0 : Blk w g0 t0 c0) (k1 : Blk w g1 t1 c1) (k2 : Blk w g2 t2 c2) (h : ∀ W, BX X w0 W → Blk W g0 t0 c0 → Blk W g1 t1 c1 → Blk W g2 t2 c2 → Exit.then K Q x a W) : Exit.then K Q x a w := h w hb k0 k1 k2
theorem absTB3 {K : Act → World → Prop} {Q : Exit → Act → World → Prop} {x : Exit} {g0 g1 g2 : Nat} {t0 t1 t2 : TypeId} {c0 c1 c2 : Array Value} (hb : Below w0.heap.size w0 w) (k0 : Blk w g0 t0 c0) (k1 : Blk w g1 t1 c1) (k2 : Blk w g2 t2 c2) (h : ∀ W, Below w0.heap.size w0 W → Blk W g0 t0 c0 → Blk W g1 t1 c1 → Blk W g2 t2 c2 → Exit.then K Q x a W) : Exit.then K Q x a w := h w hb k0 k1 k2
theorem absPB3 {fn : Func} {R : Ending → World → Prop} {x : Exit} {g0 g1 g2 : Nat} {t0 t1 t2 : TypeId} {c0 c1 c2 : Array Value} (hb : Below w0.heap.size w0 w) (k0 : Blk w g0 t0 c0) (k1 : Blk w g1 t1 c1) (k2 : Blk w g2 t2 c2) (h : ∀ W, Below w0.heap.size w0 W → Blk W g0 t0 c0 → Blk W g1 t1 c1 → Blk W g2 t2 c2 → bodyPost P fn R x a W) : bodyPost P fn R x a w := h w hb k0 k1 k2
theorem absX4 {G : World → Prop} {g0 g1 g2 g3 : Nat} {t0 t1 t2 t3 : TypeId} {c0 c1 c2 c3 : Array Value} (hb : Below w0.heap.size w0 w) (k0 : Blk w g0 t0 c0) (k1 : Blk w g1 t1 c1) (k2 : Blk w g2 t2 c2) (k3 : Blk w g3 t3 c3) (h : ∀ W, Below w0.heap.size w0 W → Blk W g0 t0 c0 → Blk W g1 t1 c1 → Blk W g2 t2 c2 → Blk W g3 t3 c3 → G W) : G w := h w hb k0 k1 k2 k3
theorem absK4 {c : Code} {Q : Exit → Act → World → Prop} {X : List Nat} {g0 g1 g2 g3 : Nat} {t0 t1 t2 t3 : TypeId} {c0 c1 c2 c3 : Array Value} (hb : BX X w0 w) (k0 : Blk w g0 t0 c0) (k1 : Blk w g1 t1 c1) (k2 : Blk w g2 t2 c2) (k3 : Blk w g3 t3 c3) (h : ∀ W, BX X w0 W → Blk W g0 t0 c0 → Blk W g1 t1 c1 → Blk W g2 t2 c2 → Blk W g3 t3 c3 → c.wp P Q a W) : c.wp P Q a w := h w hb k0 k1 k2 k3
theorem absB4 {c : Code} {Q : Exit → Act → World → Prop} {g0 g1 g2 g3 : Nat} {t0 t1 t2 t3 : TypeId} {c0 c1 c2 c3 : Array Value} (hb : Below w0.heap.size w0 w) (k0 : Blk w g0 t0 c0) (k1 : Blk w g1 t1 c1) (k2 : Blk w g2 t2 c2) (k3 : Blk w g3 t3 c3) (h : ∀ W, Below w0.heap.size w0 W → Blk W g0 t0 c0 → Blk W g1 t1 c1 → Blk W g2 t2 c2 → Blk W g3 t3 c3 → c.wp P Q a W) : c.wp P Q a w := h w hb k0 k1 k2 k3
theorem absRK4 {c : Code} {Q : Exit → Act → World → Prop} {m : Nat} {X : List Nat} {g0 g1 g2 g3 : Nat} {t0 t1 t2 t3 : TypeId} {c0 c1 c2 c3 : Array Value} (hb : BX X w0 w) (k0 : Blk w g0 t0 c0) (k1 : Blk w g1 t1 c1) (k2 : Blk w g2 t2 c2) (k3 : Blk w g3 t3 c3) (h : ∀ W, BX X w0 W → Blk W g0 t0 c0 → Blk W g1 t1 c1 → Blk W g2 t2 c2 → Blk W g3 t3 c3 → c.rounds P Q m a W) : c.rounds P Q m a w := h w hb k0 k1 k2 k3
theorem absRB4 {c : Code} {Q : Exit → Act → World → Prop} {m : Nat} {g0 g1 g2 g3 : Nat} {t0 t1 t2 t3 : TypeId} {c0 c1 c2 c3 : Array Value} (hb : Below w0.heap.size w0 w) (k0 : Blk w g0 t0 c0) (k1 : Blk w g1 t1 c1) (k2 : Blk w g2 t2 c2) (k3 : Blk w g3 t3 c3) (h : ∀ W, Below w0.heap.size w0 W → Blk W g0 t0 c0 → Blk W g1 t1 c1 → Blk W g2 t2 c2 → Blk W g3 t3 c3 → c.rounds P Q m a W) : c.rounds P Q m a w := h w hb k0 k1 k2 k3
theorem absIK4 {F : Fence} {n : Nat} {c : Code} {Q : Exit → Act → World → Prop} {X : List Nat} {g0 g1 g2 g3 : Nat} {t0 t1 t2 t3 : TypeId} {c0 c1 c2 c3 : Array Value} (hb : BX X w0 w) (k0 : Blk w g0 t0 c0) (k1 : Blk w g1 t1 c1) (k2 : Blk w g2 t2 c2) (k3 : Blk w g3 t3 c3) (h : ∀ W, BX X w0 W → Blk W g0 t0 c0 → Blk W g1 t1 c1 → Blk W g2 t2 c2 → Blk W g3 t3 c3 → c.wpIn F n P Q a W) : c.wpIn F n P Q a w := h w hb k0 k1 k2 k3
theorem absIB4 {F : Fence} {n : Nat} {c : Code} {Q : Exit → Act → World → Prop} {g0 g1 g2 g3 : Nat} {t0 t1 t2 t3 : TypeId} {c0 c1 c2 c3 : Array Value} (hb : Below w0.heap.size w0 w) (k0 : Blk w g0 t0 c0) (k1 : Blk w g1 t1 c1) (k2 : Blk w g2 t2 c2) (k3 : Blk w g3 t3 c3) (h : ∀ W, Below w0.heap.size w0 W → Blk W g0 t0 c0 → Blk W g1 t1 c1 → Blk W g2 t2 c2 → Blk W g3 t3 c3 → c.wpIn F n P Q a W) : c.wpIn F n P Q a w := h w hb k0 k1 k2 k3
theorem absJK4 {F : Fence} {n : Nat} {c : Code} {Q : Exit → Act → World → Prop} {m : Nat} {X : List Nat} {g0 g1 g2 g3 : Nat} {t0 t1 t2 t3 : TypeId} {c0 c1 c2 c3 : Array Value} (hb : BX X w0 w) (k0 : Blk w g0 t0 c0) (k1 : Blk w g1 t1 c1) (k2 : Blk w g2 t2 c2) (k3 : Blk w g3 t3 c3) (h : ∀ W, BX X w0 W → Blk W g0 t0 c0 → Blk W g1 t1 c1 → Blk W g2 t2 c2 → Blk W g3 t3 c3 → c.roundsIn F n P Q m a W) : c.roundsIn F n P Q m a w := h w hb k0 k1 k2 k3
theorem absJB4 {F : Fence} {n : Nat} {c : Code} {Q : Exit → Act → World → Prop} {m : Nat} {g0 g1 g2 g3 : Nat} {t0 t1 t2 t3 : TypeId} {c0 c1 c2 c3 : Array Value} (hb : Below w0.heap.size w0 w) (k0 : Blk w g0 t0 c0) (k1 : Blk w g1 t1 c1) (k2 : Blk w g2 t2 c2) (k3 : Blk w g3 t3 c3) (h : ∀ W, Below w0.heap.size w0 W → Blk W g0 t0 c0 → Blk W g1 t1 c1 → Blk W g2 t2 c2 → Blk W g3 t3 c3 → c.roundsIn F n P Q m a W) : c.roundsIn F n P Q m a w := h w hb k0 k1 k2 k3
theorem absTK4 {K : Act → World → Prop} {Q : Exit → Act → World → Prop} {x : Exit} {X : List Nat} {g0 g1 g2 g3 : Nat} {t0 t1 t2 t3 : TypeId} {c0 c1 c2 c3 : Array Value} (hb : BX X w0 w) (k0 : Blk w g0 t0 c0) (k1 : Blk w g1 t1 c1) (k2 : Blk w g2 t2 c2) (k3 : Blk w g3 t3 c3) (h : ∀ W, BX X w0 W → Blk W g0 t0 c0 → Blk W g1 t1 c1 → Blk W g2 t2 c2 → Blk W g3 t3 c3 → Exit.then K Q x a W) : Exit.then K Q x a w := h w hb k0 k1 k2 k3
theorem absTB4 {K : Act → World → Prop} {Q : Exit → Act → World → Prop} {x : Exit} {g0 g1 g2 g3 : Nat} {t0 t1 t2 t3 : TypeId} {c0 c1 c2 c3 : Array Value} (hb : Below w0.heap.size w0 w) (k0 : Blk w g0 t0 c0) (k1 : Blk w g1 t1 c1) (k2 : Blk w g2 t2 c2) (k3 : Blk w g3 t3 c3) (h : ∀ W, Below w0.heap.size w0 W → Blk W g0 t0 c0 → Blk W g1 t1 c1 → Blk W g2 t2 c2 → Blk W g3 t3 c3 → Exit.then K Q x a W) : Exit.then K Q x a w := h w hb k0 k1 k2 k3
theorem absPB4 {fn : Func} {R : Ending → World → Prop} {x : Exit} {g0 g1 g2 g3 : Nat} {t0 t1 t2 t3 : TypeId} {c0 c1 c2 c3 : Array Value} (hb : Below w0.heap.size w0 w) (k0 : Blk w g0 t0 c0) (k1 : Blk w g1 t1 c1) (k2 : Blk w g2 t2 c2) (k3 : Blk w g3 t3 c3) (h : ∀ W, Below w0.heap.size w0 W → Blk W g0 t0 c0 → Blk W g1 t1 c1 → Blk W g2 t2 c2 → Blk W g3 t3 c3 → bodyPost P fn R x a W) : bodyPost P fn R x a w := h w hb k0 k1 k2 k3
theorem absX5 {G : World → Prop} {g0 g1 g2 g3 g4 : Nat} {t0 t1 t2 t3 t4 : TypeId} {c0 c1 c2 c3 c4 : Array Value} (hb : Below w0.heap.size w0 w) (k0 : Blk w g0 t0 c0) (k1 : Blk w g1 t1 c1) (k2 : Blk w g2 t2 c2) (k3 : Blk w g3 t3 c3) (k4 : Blk w g4 t4 c4) (h : ∀ W, Below w0.heap.size w0 W → Blk W g0 t0 c0 → Blk W g1 t1 c1 → Blk W g2 t2 c2 → Blk W g3 t3 c3 → Blk W g4 t4 c4 → G W) : G w := h w hb k0 k1 k2 k3 k4
theorem absK5 {c : Code} {Q : Exit → Act → World → Prop} {X : List Nat} {g0 g1 g2 g3 g4 : Nat} {t0 t1 t2 t3 t4 : TypeId} {c0 c1 c2 c3 c4 : Array Value} (hb : BX X w0 w) (k0 : Blk w g0 t0 c0) (k1 : Blk w g1 t1 c1) (k2 : Blk w g2 t2 c2) (k3 : Blk w g3 t3 c3) (k4 : Blk w g4 t4 c4) (h : ∀ W, BX X w0 W → Blk W g0 t0 c0 → Blk W g1 t1 c1 → Blk W g2 t2 c2 → Blk W g3 t3 c3 → Blk W g4 t4 c4 → c.wp P Q a W) : c.wp P Q a w := h w hb k0 k1 k2 k3 k4
theorem absB5 {c : Code} {Q : Exit → Act → World → Prop} {g0 g1 g2 g3 g4 : Nat} {t0 t1 t2 t3 t4 : TypeId} {c0 c1 c2 c3 c4 : Array Value} (hb : Below w0.heap.size w0 w) (k0 : Blk w g0 t0 c0) (k1 : Blk w g1 t1 c1) (k2 : Blk w g2 t2 c2) (k3 : Blk w g3 t3 c3) (k4 : Blk w g4 t4 c4) (h : ∀ W, Below w0.heap.size w0 W → Blk W g0 t0 c0 → Blk W g1 t1 c1 → Blk W g2 t2 c2 → Blk W g3 t3 c3 → Blk W g4 t4 c4 → c.wp P Q a W) : c.wp P Q a w := h w hb k0 k1 k2 k3 k4
theorem absRK5 {c : Code} {Q : Exit → Act → World → Prop} {m : Nat} {X : List Nat} {g0 g1 g2 g3 g4 : Nat} {t0 t1 t2 t3 t4 : TypeId} {c0 c1 c2 c3 c4 : Array Value} (hb : BX X w0 w) (k0 : Blk w g0 t0 c0) (k1 : Blk w g1 t1 c1) (k2 : Blk w g2 t2 c2) (k3 : Blk w g3 t3 c3) (k4 : Blk w g4 t4 c4) (h : ∀ W, BX X w0 W → Blk W g0 t0 c0 → Blk W g1 t1 c1 → Blk W g2 t2 c2 → Blk W g3 t3 c3 → Blk W g4 t4 c4 → c.rounds P Q m a W) : c.rounds P Q m a w := h w hb k0 k1 k2 k3 k4
theorem absRB5 {c : Code} {Q : Exit → Act → World → Prop} {m : Nat} {g0 g1 g2 g3 g4 : Nat} {t0 t1 t2 t3 t4 : TypeId} {c0 c1 c2 c3 c4 : Array Value} (hb : Below w0.heap.size w0 w) (k0 : Blk w g0 t0 c0) (k1 : Blk w g1 t1 c1) (k2 : Blk w g2 t2 c2) (k3 : Blk w g3 t3 c3) (k4 : Blk w g4 t4 c4) (h : ∀ W, Below w0.heap.size w0 W → Blk W g0 t0 c0 → Blk W g1 t1 c1 → Blk W g2 t2 c2 → Blk W g3 t3 c3 → Blk W g4 t4 c4 → c.rounds P Q m a W) : c.rounds P Q m a w := h w hb k0 k1 k2 k3 k4
theorem absIK5 {F : Fence} {n : Nat} {c : Code} {Q : Exit → Act → World → Prop} {X : List Nat} {g0 g1 g2 g3 g4 : Nat} {t0 t1 t2 t3 t4 : TypeId} {c0 c1 c2 c3 c4 : Array Value} (hb : BX X w0 w) (k0 : Blk w g0 t0 c0) (k1 : Blk w g1 t1 c1) (k2 : Blk w g2 t2 c2) (k3 : Blk w g3 t3 c3) (k4 : Blk w g4 t4 c4) (h : ∀ W, BX X w0 W → Blk W g0 t0 c0 → Blk W g1 t1 c1 → Blk W g2 t2 c2 → Blk W g3 t3 c3 → Blk W g4 t4 c4 → c.wpIn F n P Q a W) : c.wpIn F n P Q a w := h w hb k0 k1 k2 k3 k4
theorem absIB5 {F : Fence} {n : Nat} {c : Code} {Q : Exit → Act → World → Prop} {g0 g1 g2 g3 g4 : Nat} {t0 t1 t2 t3 t4 : TypeId} {c0 c1 c2 c3 c4 : Array Value} (hb : Below w0.heap.size w0 w) (k0 : Blk w g0 t0 c0) (k1 : Blk w g1 t1 c1) (k2 : Blk w g2 t2 c2) (k3 : Blk w g3 t3 c3) (k4 : Blk w g4 t4 c4) (h : ∀ W, Below w0.heap.size w0 W → Blk W g0 t0 c0 → Blk W g1 t1 c1 → Blk W g2 t2 c2 → Blk W g3 t3 c3 → Blk W g4 t4 c4 → c.wpIn F n P Q a W) : c.wpIn F n P Q a w := h w hb k0 k1 k2 k3 k4
theorem absJK5 {F : Fence} {n : Nat} {c : Code} {Q : Exit → Act → World → Prop} {m : Nat} {X : List Nat} {g0 g1 g2 g3 g4 : Nat} {t0 t1 t2 t3 t4 : TypeId} {c0 c1 c2 c3 c4 : Array Value} (hb : BX X w0 w) (k0 : Blk w g0 t0 c0) (k1 : Blk w g1 t1 c1) (k2 : Blk w g2 t2 c2) (k3 : Blk w g3 t3 c3) (k4 : Blk w g4 t4 c4) (h : ∀ W, BX X w0 W → Blk W g0 t0 c0 → Blk W g1 t1 c1 → Blk W g2 t2 c2 → Blk W g3 t3 c3 → Blk W g4 t4 c4 → c.roundsIn F n P Q m a W) : c.roundsIn F n P Q m a w := h w hb k0 k1 k2 k3 k4
theorem absJB5 {F : Fence} {n : Nat} {c : Code} {Q : Exit → Act → World → Prop} {m : Nat} {g0 g1 g2 g3 g4 : Nat} {t0 t1 t2 t3 t4 : TypeId} {c0 c1 c2 c3 c4 : Array Value} (hb : Below w0.heap.size w0 w) (k0 : Blk w g0 t0 c0) (k1 : Blk w g1 t1 c1) (k2 : Blk w g2 t2 c2) (k3 : Blk w g3 t3 c3) (k4 : Blk w g4 t4 c4) (h : ∀ W, Below w0.heap.size w0 W → Blk W g0 t0 c0 → Blk W g1 t1 c1 → Blk W g2 t2 c2 → Blk W g3 t3 c3 → Blk W g4 t4 c4 → c.roundsIn F n P Q m a W) : c.roundsIn F n P Q m a w := h w hb k0 k1 k2 k3 k4
theorem absTK5 {K : Act → World → Prop} {Q : Exit → Act → World → Prop} {x : Exit} {X : List Nat} {g0 g1 g2 g3 g4 : Nat} {t0 t1 t2 t3 t4 : TypeId} {c0 c1 c2 c3 c4 : Array Value} (hb : BX X w0 w) (k0 : Blk w g0 t0 c0) (k1 : Blk w g1 t1 c1) (k2 : Blk w g2 t2 c2) (k3 : Blk w g3 t3 c3) (k4 : Blk w g4 t4 c4) (h : ∀ W, BX X w0 W → Blk W g0 t0 c0 → Blk W g1 t1 c1 → Blk W g2 t2 c2 → Blk W g3 t3 c3 → Blk W g4 t4 c4 → Exit.then K Q x a W) : Exit.then K Q x a w := h w hb k0 k1 k2 k3 k4
theorem absTB5 {K : Act → World → Prop} {Q : Exit → Act → World → Prop} {x : Exit} {g0 g1 g2 g3 g4 : Nat} {t0 t1 t2 t3 t4 : TypeId} {c0 c1 c2 c3 c4 : Array Value} (hb : Below w0.heap.size w0 w) (k0 : Blk w g0 t0 c0) (k1 : Blk w g1 t1 c1) (k2 : Blk w g2 t2 c2) (k3 : Blk w g3 t3 c3) (k4 : Blk w g4 t4 c4) (h : ∀ W, Below w0.heap.size w0 W → Blk W g0 t0 c0 → Blk W g1 t1 c1 → Blk W g2 t2 c2 → Blk W g3 t3 c3 → Blk W g4 t4 c4 → Exit.then K Q x a W) : Exit.then K Q x a w := h w hb k0 k1 k2 k3 k4
theorem absPB5 {fn : Func} {R : Ending → World → Prop} {x : Exit} {g0 g1 g2 g3 g4 : Nat} {t0 t1 t2 t3 t4 : TypeId} {c0 c1 c2 c3 c4 : Array Value} (hb : Below w0.heap.size w0 w) (k0 : Blk w g0 t0 c0) (k1 : Blk w g1 t1 c1) (k2 : Blk w g2 t2 c2) (k3 : Blk w g3 t3 c3) (k4 : Blk w g4 t4 c4) (h : ∀ W, Below w0.heap.size w0 W → Blk W g0 t0 c0 → Blk W g1 t1 c1 → Blk W g2 t2 c2 → Blk W g3 t3 c3 → Blk W g4 t4 c4 → bodyPost P fn R x a W) : bodyPost P fn R x a w := h w hb k0 k1 k2 k3 k4
theorem absX6 {G : World → Prop} {g0 g1 g2 g3 g4 g5 : Nat} {t0 t1 t2 t3 t4 t5 : TypeId} {c0 c1 c2 c3 c4 c5 : Array Value} (hb : Below w0.heap.size w0 w) (k0 : Blk w g0 t0 c0) (k1 : Blk w g1 t1 c1) (k2 : Blk w g2 t2 c2) (k3 : Blk w g3 t3 c3) (k4 : Blk w g4 t4 c4) (k5 : Blk w g5 t5 c5) (h : ∀ W, Below w0.heap.size w0 W → Blk W g0 t0 c0 → Blk W g1 t1 c1 → Blk W g2 t2 c2 → Blk W g3 t3 c3 → Blk W g4 t4 c4 → Blk W g5 t5 c5 → G W) : G w := h w hb k0 k1 k2 k3 k4 k5
theorem absK6 {c : Code} {Q : Exit → Act → World → Prop} {X : List Nat} {g0 g1 g2 g3 g4 g5 : Nat} {t0 t1 t2 t3 t4 t5 : TypeId} {c0 c1 c2 c3 c4 c5 : Array Value} (hb : BX X w0 w) (k0 : Blk w g0 t0 c0) (k1 : Blk w g1 t1 c1) (k2 : Blk w g2 t2 c2) (k3 : Blk w g3 t3 c3) (k4 : Blk w g4 t4 c4) (k5 : Blk w g5 t5 c5) (h : ∀ W, BX X w0 W → Blk W g0 t0 c0 → Blk W g1 t1 c1 → Blk W g2 t2 c2 → Blk W g3 t3 c3 → Blk W g4 t4 c4 → Blk W g5 t5 c5 → c.wp P Q a W) : c.wp P Q a w := h w hb k0 k1 k2 k3 k4 k5
theorem absB6 {c : Code} {Q : Exit → Act → World → Prop} {g0 g1 g2 g3 g4 g5 : Nat} {t0 t1 t2 t3 t4 t5 : TypeId} {c0 c1 c2 c3 c4 c5 : Array Value} (hb : Below w0.heap.size w0 w) (k0 : Blk w g0 t0 c0) (k1 : Blk w g1 t1 c1) (k2 : Blk w g2 t2 c2) (k3 : Blk w g3 t3 c3) (k4 : Blk w g4 t4 c4) (k5 : Blk w g5 t5 c5) (h : ∀ W, Below w0.heap.size w0 W → Blk W g0 t0 c0 → Blk W g1 t1 c1 → Blk W g2 t2 c2 → Blk W g3 t3 c3 → Blk W g4 t4 c4 → Blk W g5 t5 c5 → c.wp P Q a W) : c.wp P Q a w := h w hb k0 k1 k2 k3 k4 k5
theorem absRK6 {c : Code} {Q : Exit → Act → World → Prop} {m : Nat} {X : List Nat} {g0 g1 g2 g3 g4 g5 : Nat} {t0 t1 t2 t3 t4 t5 : TypeId} {c0 c1 c2 c3 c4 c5 : Array Value} (hb : BX X w0 w) (k0 : Blk w g0 t0 c0) (k1 : Blk w g1 t1 c1) (k2 : Blk w g2 t2 c2) (k3 : Blk w g3 t3 c3) (k4 : Blk w g4 t4 c4) (k5 : Blk w g5 t5 c5) (h : ∀ W, BX X w0 W → Blk W g0 t0 c0 → Blk W g1 t1 c1 → Blk W g2 t2 c2 → Blk W g3 t3 c3 → Blk W g4 t4 c4 → Blk W g5 t5 c5 → c.rounds P Q m a W) : c.rounds P Q m a w := h w hb k0 k1 k2 k3 k4 k5
theorem absRB6 {c : Code} {Q : Exit → Act → World → Prop} {m : Nat} {g0 g1 g2 g3 g4 g5 : Nat} {t0 t1 t2 t3 t4 t5 : TypeId} {c0 c1 c2 c3 c4 c5 : Array Value} (hb : Below w0.heap.size w0 w) (k0 : Blk w g0 t0 c0) (k1 : Blk w g1 t1 c1) (k2 : Blk w g2 t2 c2) (k3 : Blk w g3 t3 c3) (k4 : Blk w g4 t4 c4) (k5 : Blk w g5 t5 c5) (h : ∀ W, Below w0.heap.size w0 W → Blk W g0 t0 c0 → Blk W g1 t1 c1 → Blk W g2 t2 c2 → Blk W g3 t3 c3 → Blk W g4 t4 c4 → Blk W g5 t5 c5 → c.rounds P Q m a W) : c.rounds P Q m a w := h w hb k0 k1 k2 k3 k4 k5
theorem absIK6 {F : Fence} {n : Nat} {c : Code} {Q : Exit → Act → World → Prop} {X : List Nat} {g0 g1 g2 g3 g4 g5 : Nat} {t0 t1 t2 t3 t4 t5 : TypeId} {c0 c1 c2 c3 c4 c5 : Array Value} (hb : BX X w0 w) (k0 : Blk w g0 t0 c0) (k1 : Blk w g1 t1 c1) (k2 : Blk w g2 t2 c2) (k3 : Blk w g3 t3 c3) (k4 : Blk w g4 t4 c4) (k5 : Blk w g5 t5 c5) (h : ∀ W, BX X w0 W → Blk W g0 t0 c0 → Blk W g1 t1 c1 → Blk W g2 t2 c2 → Blk W g3 t3 c3 → Blk W g4 t4 c4 → Blk W g5 t5 c5 → c.wpIn F n P Q a W) : c.wpIn F n P Q a w := h w hb k0 k1 k2 k3 k4 k5
theorem absIB6 {F : Fence} {n : Nat} {c : Code} {Q : Exit → Act → World → Prop} {g0 g1 g2 g3 g4 g5 : Nat} {t0 t1 t2 t3 t4 t5 : TypeId} {c0 c1 c2 c3 c4 c5 : Array Value} (hb : Below w0.heap.size w0 w) (k0 : Blk w g0 t0 c0) (k1 : Blk w g1 t1 c1) (k2 : Blk w g2 t2 c2) (k3 : Blk w g3 t3 c3) (k4 : Blk w g4 t4 c4) (k5 : Blk w g5 t5 c5) (h : ∀ W, Below w0.heap.size w0 W → Blk W g0 t0 c0 → Blk W g1 t1 c1 → Blk W g2 t2 c2 → Blk W g3 t3 c3 → Blk W g4 t4 c4 → Blk W g5 t5 c5 → c.wpIn F n P Q a W) : c.wpIn F n P Q a w := h w hb k0 k1 k2 k3 k4 k5
theorem absJK6 {F : Fence} {n : Nat} {c : Code} {Q : Exit → Act → World → Prop} {m : Nat} {X : List Nat} {g0 g1 g2 g3 g4 g5 : Nat} {t0 t1 t2 t3 t4 t5 : TypeId} {c0 c1 c2 c3 c4 c5 : Array Value} (hb : BX X w0 w) (k0 : Blk w g0 t0 c0) (k1 : Blk w g1 t1 c1) (k2 : Blk w g2 t2 c2) (k3 : Blk w g3 t3 c3) (k4 : Blk w g4 t4 c4) (k5 : Blk w g5 t5 c5) (h : ∀ W, BX X w0 W → Blk W g0 t0 c0 → Blk W g1 t1 c1 → Blk W g2 t2 c2 → Blk W g3 t3 c3 → Blk W g4 t4 c4 → Blk W g5 t5 c5 → c.roundsIn F n P Q m a W) : c.roundsIn F n P Q m a w := h w hb k0 k1 k2 k3 k4 k5
theorem absJB6 {F : Fence} {n : Nat} {c : Code} {Q : Exit → Act → World → Prop} {m : Nat} {g0 g1 g2 g3 g4 g5 : Nat} {t0 t1 t2 t3 t4 t5 : TypeId} {c0 c1 c2 c3 c4 c5 : Array Value} (hb : Below w0.heap.size w0 w) (k0 : Blk w g0 t0 c0) (k1 : Blk w g1 t1 c1) (k2 : Blk w g2 t2 c2) (k3 : Blk w g3 t3 c3) (k4 : Blk w g4 t4 c4) (k5 : Blk w g5 t5 c5) (h : ∀ W, Below w0.heap.size w0 W → Blk W g0 t0 c0 → Blk W g1 t1 c1 → Blk W g2 t2 c2 → Blk W g3 t3 c3 → Blk W g4 t4 c4 → Blk W g5 t5 c5 → c.roundsIn F n P Q m a W) : c.roundsIn F n P Q m a w := h w hb k0 k1 k2 k3 k4 k5
theorem absTK6 {K : Act → World → Prop} {Q : Exit → Act → World → Prop} {x : Exit} {X : List Nat} {g0 g1 g2 g3 g4 g5 : Nat} {t0 t1 t2 t3 t4 t5 : TypeId} {c0 c1 c2 c3 c4 c5 : Array Value} (hb : BX X w0 w) (k0 : Blk w g0 t0 c0) (k1 : Blk w g1 t1 c1) (k2 : Blk w g2 t2 c2) (k3 : Blk w g3 t3 c3) (k4 : Blk w g4 t4 c4) (k5 : Blk w g5 t5 c5) (h : ∀ W, BX X w0 W → Blk W g0 t0 c0 → Blk W g1 t1 c1 → Blk W g2 t2 c2 → Blk W g3 t3 c3 → Blk W g4 t4 c4 → Blk W g5 t5 c5 → Exit.then K Q x a W) : Exit.then K Q x a w := h w hb k0 k1 k2 k3 k4 k5
theorem absTB6 {K : Act → World → Prop} {Q : Exit → Act → World → Prop} {x : Exit} {g0 g1 g2 g3 g4 g5 : Nat} {t0 t1 t2 t3 t4 t5 : TypeId} {c0 c1 c2 c3 c4 c5 : Array Value} (hb : Below w0.heap.size w0 w) (k0 : Blk w g0 t0 c0) (k1 : Blk w g1 t1 c1) (k2 : Blk w g2 t2 c2) (k3 : Blk w g3 t3 c3) (k4 : Blk w g4 t4 c4) (k5 : Blk w g5 t5 c5) (h : ∀ W, Below w0.heap.size w0 W → Blk W g0 t0 c0 → Blk W g1 t1 c1 → Blk W g2 t2 c2 → Blk W g3 t3 c3 → Blk W g4 t4 c4 → Blk W g5 t5 c5 → Exit.then K Q x a W) : Exit.then K Q x a w := h w hb k0 k1 k2 k3 k4 k5
theorem absPB6 {fn : Func} {R : Ending → World → Prop} {x : Exit} {g0 g1 g2 g3 g4 g5 : Nat} {t0 t1 t2 t3 t4 t5 : TypeId} {c0 c1 c2 c3 c4 c5 : Array Value} (hb : Below w0.heap.size w0 w) (k0 : Blk w g0 t0 c0) (k1 : Blk w g1 t1 c1) (k2 : Blk w g2 t2 c2) (k3 : Blk w g3 t3 c3) (k4 : Blk w g4 t4 c4) (k5 : Blk w g5 t5 c5) (h : ∀ W, Below w0.heap.size w0 W → Blk W g0 t0 c0 → Blk W g1 t1 c1 → Blk W g2 t2 c2 → Blk W g3 t3 c3 → Blk W g4 t4 c4 → Blk W g5 t5 c5 → bodyPost P fn R x a W) : bodyPost P fn R x a w := h w hb k0 k1 k2 k3 k4 k5
theorem absX7 {G : World → Prop} {g0 g1 g2 g3 g4 g5 g6 : Nat} {t0 t1 t2 t3 t4 t5 t6 : TypeId} {c0 c1 c2 c3 c4 c5 c6 : Array Value} (hb : Below w0.heap.size w0 w) (k0 : Blk w g0 t0 c0) (k1 : Blk w g1 t1 c1) (k2 : Blk w g2 t2 c2) (k3 : Blk w g3 t3 c3) (k4 : Blk w g4 t4 c4) (k5 : Blk w g5 t5 c5) (k6 : Blk w g6 t6 c6) (h : ∀ W, Below w0.heap.size w0 W → Blk W g0 t0 c0 → Blk W g1 t1 c1 → Blk W g2 t2 c2 → Blk W g3 t3 c3 → Blk W g4 t4 c4 → Blk W g5 t5 c5 → Blk W g6 t6 c6 → G W) : G w := h w hb k0 k1 k2 k3 k4 k5 k6
theorem absK7 {c : Code} {Q : Exit → Act → World → Prop} {X : List Nat} {g0 g1 g2 g3 g4 g5 g6 : Nat} {t0 t1 t2 t3 t4 t5 t6 : TypeId} {c0 c1 c2 c3 c4 c5 c6 : Array Value} (hb : BX X w0 w) (k0 : Blk w g0 t0 c0) (k1 : Blk w g1 t1 c1) (k2 : Blk w g2 t2 c2) (k3 : Blk w g3 t3 c3) (k4 : Blk w g4 t4 c4) (k5 : Blk w g5 t5 c5) (k6 : Blk w g6 t6 c6) (h : ∀ W, BX X w0 W → Blk W g0 t0 c0 → Blk W g1 t1 c1 → Blk W g2 t2 c2 → Blk W g3 t3 c3 → Blk W g4 t4 c4 → Blk W g5 t5 c5 → Blk W g6 t6 c6 → c.wp P Q a W) : c.wp P Q a w := h w hb k0 k1 k2 k3 k4 k5 k6
theorem absB7 {c : Code} {Q : Exit → Act → World → Prop} {g0 g1 g2 g3 g4 g5 g6 : Nat} {t0 t1 t2 t3 t4 t5 t6 : TypeId} {c0 c1 c2 c3 c4 c5 c6 : Array Value} (hb : Below w0.heap.size w0 w) (k0 : Blk w g0 t0 c0) (k1 : Blk w g1 t1 c1) (k2 : Blk w g2 t2 c2) (k3 : Blk w g3 t3 c3) (k4 : Blk w g4 t4 c4) (k5 : Blk w g5 t5 c5) (k6 : Blk w g6 t6 c6) (h : ∀ W, Below w0.heap.size w0 W → Blk W g0 t0 c0 → Blk W g1 t1 c1 → Blk W g2 t2 c2 → Blk W g3 t3 c3 → Blk W g4 t4 c4 → Blk W g5 t5 c5 → Blk W g6 t6 c6 → c.wp P Q a W) : c.wp P Q a w := h w hb k0 k1 k2 k3 k4 k5 k6
theorem absRK7 {c : Code} {Q : Exit → Act → World → Prop} {m : Nat} {X : List Nat} {g0 g1 g2 g3 g4 g5 g6 : Nat} {t0 t1 t2 t3 t4 t5 t6 : TypeId} {c0 c1 c2 c3 c4 c5 c6 : Array Value} (hb : BX X w0 w) (k0 : Blk w g0 t0 c0) (k1 : Blk w g1 t1 c1) (k2 : Blk w g2 t2 c2) (k3 : Blk w g3 t3 c3) (k4 : Blk w g4 t4 c4) (k5 : Blk w g5 t5 c5) (k6 : Blk w g6 t6 c6) (h : ∀ W, BX X w0 W → Blk W g0 t0 c0 → Blk W g1 t1 c1 → Blk W g2 t2 c2 → Blk W g3 t3 c3 → Blk W g4 t4 c4 → Blk W g5 t5 c5 → Blk W g6 t6 c6 → c.rounds P Q m a W) : c.rounds P Q m a w := h w hb k0 k1 k2 k3 k4 k5 k6
theorem absRB7 {c : Code} {Q : Exit → Act → World → Prop} {m : Nat} {g0 g1 g2 g3 g4 g5 g6 : Nat} {t0 t1 t2 t3 t4 t5 t6 : TypeId} {c0 c1 c2 c3 c4 c5 c6 : Array Value} (hb : Below w0.heap.size w0 w) (k0 : Blk w g0 t0 c0) (k1 : Blk w g1 t1 c1) (k2 : Blk w g2 t2 c2) (k3 : Blk w g3 t3 c3) (k4 : Blk w g4 t4 c4) (k5 : Blk w g5 t5 c5) (k6 : Blk w g6 t6 c6) (h : ∀ W, Below w0.heap.size w0 W → Blk W g0 t0 c0 → Blk W g1 t1 c1 → Blk W g2 t2 c2 → Blk W g3 t3 c3 → Blk W g4 t4 c4 → Blk W g5 t5 c5 → Blk W g6 t6 c6 → c.rounds P Q m a W) : c.rounds P Q m a w := h w hb k0 k1 k2 k3 k4 k5 k6
theorem absIK7 {F : Fence} {n : Nat} {c : Code} {Q : Exit → Act → World → Prop} {X : List Nat} {g0 g1 g2 g3 g4 g5 g6 : Nat} {t0 t1 t2 t3 t4 t5 t6 : TypeId} {c0 c1 c2 c3 c4 c5 c6 : Array Value} (hb : BX X w0 w) (k0 : Blk w g0 t0 c0) (k1 : Blk w g1 t1 c1) (k2 : Blk w g2 t2 c2) (k3 : Blk w g3 t3 c3) (k4 : Blk w g4 t4 c4) (k5 : Blk w g5 t5 c5) (k6 : Blk w g6 t6 c6) (h : ∀ W, BX X w0 W → Blk W g0 t0 c0 → Blk W g1 t1 c1 → Blk W g2 t2 c2 → Blk W g3 t3 c3 → Blk W g4 t4 c4 → Blk W g5 t5 c5 → Blk W g6 t6 c6 → c.wpIn F n P Q a W) : c.wpIn F n P Q a w := h w hb k0 k1 k2 k3 k4 k5 k6
theorem absIB7 {F : Fence} {n : Nat} {c : Code} {Q : Exit → Act → World → Prop} {g0 g1 g2 g3 g4 g5 g6 : Nat} {t0 t1 t2 t3 t4 t5 t6 : TypeId} {c0 c1 c2 c3 c4 c5 c6 : Array Value} (hb : Below w0.heap.size w0 w) (k0 : Blk w g0 t0 c0) (k1 : Blk w g1 t1 c1) (k2 : Blk w g2 t2 c2) (k3 : Blk w g3 t3 c3) (k4 : Blk w g4 t4 c4) (k5 : Blk w g5 t5 c5) (k6 : Blk w g6 t6 c6) (h : ∀ W, Below w0.heap.size w0 W → Blk W g0 t0 c0 → Blk W g1 t1 c1 → Blk W g2 t2 c2 → Blk W g3 t3 c3 → Blk W g4 t4 c4 → Blk W g5 t5 c5 → Blk W g6 t6 c6 → c.wpIn F n P Q a W) : c.wpIn F n P Q a w := h w hb k0 k1 k2 k3 k4 k5 k6
theorem absJK7 {F : Fence} {n : Nat} {c : Code} {Q : Exit → Act → World → Prop} {m : Nat} {X : List Nat} {g0 g1 g2 g3 g4 g5 g6 : Nat} {t0 t1 t2 t3 t4 t5 t6 : TypeId} {c0 c1 c2 c3 c4 c5 c6 : Array Value} (hb : BX X w0 w) (k0 : Blk w g0 t0 c0) (k1 : Blk w g1 t1 c1) (k2 : Blk w g2 t2 c2) (k3 : Blk w g3 t3 c3) (k4 : Blk w g4 t4 c4) (k5 : Blk w g5 t5 c5) (k6 : Blk w g6 t6 c6) (h : ∀ W, BX X w0 W → Blk W g0 t0 c0 → Blk W g1 t1 c1 → Blk W g2 t2 c2 → Blk W g3 t3 c3 → Blk W g4 t4 c4 → Blk W g5 t5 c5 → Blk W g6 t6 c6 → c.roundsIn F n P Q m a W) : c.roundsIn F n P Q m a w := h w hb k0 k1 k2 k3 k4 k5 k6
theorem absJB7 {F : Fence} {n : Nat} {c : Code} {Q : Exit → Act → World → Prop} {m : Nat} {g0 g1 g2 g3 g4 g5 g6 : Nat} {t0 t1 t2 t3 t4 t5 t6 : TypeId} {c0 c1 c2 c3 c4 c5 c6 : Array Value} (hb : Below w0.heap.size w0 w) (k0 : Blk w g0 t0 c0) (k1 : Blk w g1 t1 c1) (k2 : Blk w g2 t2 c2) (k3 : Blk w g3 t3 c3) (k4 : Blk w g4 t4 c4) (k5 : Blk w g5 t5 c5) (k6 : Blk w g6 t6 c6) (h : ∀ W, Below w0.heap.size w0 W → Blk W g0 t0 c0 → Blk W g1 t1 c1 → Blk W g2 t2 c2 → Blk W g3 t3 c3 → Blk W g4 t4 c4 → Blk W g5 t5 c5 → Blk W g6 t6 c6 → c.roundsIn F n P Q m a W) : c.roundsIn F n P Q m a w := h w hb k0 k1 k2 k3 k4 k5 k6
theorem absTK7 {K : Act → World → Prop} {Q : Exit → Act → World → Prop} {x : Exit} {X : List Nat} {g0 g1 g2 g3 g4 g5 g6 : Nat} {t0 t1 t2 t3 t4 t5 t6 : TypeId} {c0 c1 c2 c3 c4 c5 c6 : Array Value} (hb : BX X w0 w) (k0 : Blk w g0 t0 c0) (k1 : Blk w g1 t1 c1) (k2 : Blk w g2 t2 c2) (k3 : Blk w g3 t3 c3) (k4 : Blk w g4 t4 c4) (k5 : Blk w g5 t5 c5) (k6 : Blk w g6 t6 c6) (h : ∀ W, BX X w0 W → Blk W g0 t0 c0 → Blk W g1 t1 c1 → Blk W g2 t2 c2 → Blk W g3 t3 c3 → Blk W g4 t4 c4 → Blk W g5 t5 c5 → Blk W g6 t6 c6 → Exit.then K Q x a W) : Exit.then K Q x a w := h w hb k0 k1 k2 k3 k4 k5 k6
theorem absTB7 {K : Act → World → Prop} {Q : Exit → Act → World → Prop} {x : Exit} {g0 g1 g2 g3 g4 g5 g6 : Nat} {t0 t1 t2 t3 t4 t5 t6 : TypeId} {c0 c1 c2 c3 c4 c5 c6 : Array Value} (hb : Below w0.heap.size w0 w) (k0 : Blk w g0 t0 c0) (k1 : Blk w g1 t1 c1) (k2 : Blk w g2 t2 c2) (k3 : Blk w g3 t3 c3) (k4 : Blk w g4 t4 c4) (k5 : Blk w g5 t5 c5) (k6 : Blk w g6 t6 c6) (h : ∀ W, Below w0.heap.size w0 W → Blk W g0 t0 c0 → Blk W g1 t1 c1 → Blk W g2 t2 c2 → Blk W g3 t3 c3 → Blk W g4 t4 c4 → Blk W g5 t5 c5 → Blk W g6 t6 c6 → Exit.then K Q x a W) : Exit.then K Q x a w := h w hb k0 k1 k2 k3 k4 k5 k6
theorem absPB7 {fn : Func} {R : Ending → World → Prop} {x : Exit} {g0 g1 g2 g3 g4 g5 g6 : Nat} {t0 t1 t2 t3 t4 t5 t6 : TypeId} {c0 c1 c2 c3 c4 c5 c6 : Array Value} (hb : Below w0.heap.size w0 w) (k0 : Blk w g0 t0 c0) (k1 : Blk w g1 t1 c1) (k2 : Blk w g2 t2 c2) (k3 : Blk w g3 t3 c3) (k4 : Blk w g4 t4 c4) (k5 : Blk w g5 t5 c5) (k6 : Blk w g6 t6 c6) (h : ∀ W, Below w0.heap.size w0 W → Blk W g0 t0 c0 → Blk W g1 t1 c1 → Blk W g2 t2 c2 → Blk W g3 t3 c3 → Blk W g4 t4 c4 → Blk W g5 t5 c5 → Blk W g6 t6 c6 → bodyPost P fn R x a W) : bodyPost P fn R x a w := h w hb k0 k1 k2 k3 k4 k5 k6
theorem absX8 {G : World → Prop} {g0 g1 g2 g3 g4 g5 g6 g7 : Nat} {t0 t1 t2 t3 t4 t5 t6 t7 : TypeId} {c0 c1 c2 c3 c4 c5 c6 c7 : Array Value} (hb : Below w0.heap.size w0 w) (k0 : Blk w g0 t0 c0) (k1 : Blk w g1 t1 c1) (k2 : Blk w g2 t2 c2) (k3 : Blk w g3 t3 c3) (k4 : Blk w g4 t4 c4) (k5 : Blk w g5 t5 c5) (k6 : Blk w g6 t6 c6) (k7 : Blk w g7 t7 c7) (h : ∀ W, Below w0.heap.size w0 W → Blk W g0 t0 c0 → Blk W g1 t1 c1 → Blk W g2 t2 c2 → Blk W g3 t3 c3 → Blk W g4 t4 c4 → Blk W g5 t5 c5 → Blk W g6 t6 c6 → Blk W g7 t7 c7 → G W) : G w := h w hb k0 k1 k2 k3 k4 k5 k6 k7
theorem absK8 {c : Code} {Q : Exit → Act → World → Prop} {X : List Nat} {g0 g1 g2 g3 g4 g5 g6 g7 : Nat} {t0 t1 t2 t3 t4 t5 t6 t7 : TypeId} {c0 c1 c2 c3 c4 c5 c6 c7 : Array Value} (hb : BX X w0 w) (k0 : Blk w g0 t0 c0) (k1 : Blk w g1 t1 c1) (k2 : Blk w g2 t2 c2) (k3 : Blk w g3 t3 c3) (k4 : Blk w g4 t4 c4) (k5 : Blk w g5 t5 c5) (k6 : Blk w g6 t6 c6) (k7 : Blk w g7 t7 c7) (h : ∀ W, BX X w0 W → Blk W g0 t0 c0 → Blk W g1 t1 c1 → Blk W g2 t2 c2 → Blk W g3 t3 c3 → Blk W g4 t4 c4 → Blk W g5 t5 c5 → Blk W g6 t6 c6 → Blk W g7 t7 c7 → c.wp P Q a W) : c.wp P Q a w := h w hb k0 k1 k2 k3 k4 k5 k6 k7
theorem absB8 {c : Code} {Q : Exit → Act → World → Prop} {g0 g1 g2 g3 g4 g5 g6 g7 : Nat} {t0 t1 t2 t3 t4 t5 t6 t7 : TypeId} {c0 c1 c2 c3 c4 c5 c6 c7 : Array Value} (hb : Below w0.heap.size w0 w) (k0 : Blk w g0 t0 c0) (k1 : Blk w g1 t1 c1) (k2 : Blk w g2 t2 c2) (k3 : Blk w g3 t3 c3) (k4 : Blk w g4 t4 c4) (k5 : Blk w g5 t5 c5) (k6 : Blk w g6 t6 c6) (k7 : Blk w g7 t7 c7) (h : ∀ W, Below w0.heap.size w0 W → Blk W g0 t0 c0 → Blk W g1 t1 c1 → Blk W g2 t2 c2 → Blk W g3 t3 c3 → Blk W g4 t4 c4 → Blk W g5 t5 c5 → Blk W g6 t6 c6 → Blk W g7 t7 c7 → c.wp P Q a W) : c.wp P Q a w := h w hb k0 k1 k2 k3 k4 k5 k6 k7
theorem absRK8 {c : Code} {Q : Exit → Act → World → Prop} {m : Nat} {X : List Nat} {g0 g1 g2 g3 g4 g5 g6 g7 : Nat} {t0 t1 t2 t3 t4 t5 t6 t7 : TypeId} {c0 c1 c2 c3 c4 c5 c6 c7 : Array Value} (hb : BX X w0 w) (k0 : Blk w g0 t0 c0) (k1 : Blk w g1 t1 c1) (k2 : Blk w g2 t2 c2) (k3 : Blk w g3 t3 c3) (k4 : Blk w g4 t4 c4) (k5 : Blk w g5 t5 c5) (k6 : Blk w g6 t6 c6) (k7 : Blk w g7 t7 c7) (h : ∀ W, BX X w0 W → Blk W g0 t0 c0 → Blk W g1 t1 c1 → Blk W g2 t2 c2 → Blk W g3 t3 c3 → Blk W g4 t4 c4 → Blk W g5 t5 c5 → Blk W g6 t6 c6 → Blk W g7 t7 c7 → c.rounds P Q m a W) : c.rounds P Q m a w := h w hb k0 k1 k2 k3 k4 k5 k6 k7
theorem absRB8 {c : Code} {Q : Exit → Act → World → Prop} {m : Nat} {g0 g1 g2 g3 g4 g5 g6 g7 : Nat} {t0 t1 t2 t3 t4 t5 t6 t7 : TypeId} {c0 c1 c2 c3 c4 c5 c6 c7 : Array Value} (hb : Below w0.heap.size w0 w) (k0 : Blk w g0 t0 c0) (k1 : Blk w g1 t1 c1) (k2 : Blk w g2 t2 c2) (k3 : Blk w g3 t3 c3) (k4 : Blk w g4 t4 c4) (k5 : Blk w g5 t5 c5) (k6 : Blk w g6 t6 c6) (k7 : Blk w g7 t7 c7) (h : ∀ W, Below w0.heap.size w0 W → Blk W g0 t0 c0 → Blk W g1 t1 c1 → Blk W g2 t2 c2 → Blk W g3 t3 c3 → Blk W g4 t4 c4 → Blk W g5 t5 c5 → Blk W g6 t6 c6 → Blk W g7 t7 c7 → c.rounds P Q m a W) : c.rounds P Q m a w := h w hb k0 k1 k2 k3 k4 k5 k6 k7
theorem absIK8 {F : Fence} {n : Nat} {c : Code} {Q : Exit → Act → World → Prop} {X : List Nat} {g0 g1 g2 g3 g4 g5 g6 g7 : Nat} {t0 t1 t2 t3 t4 t5 t6 t7 : TypeId} {c0 c1 c2 c3 c4 c5 c6 c7 : Array Value} (hb : BX X w0 w) (k0 : Blk w g0 t0 c0) (k1 : Blk w g1 t1 c1) (k2 : Blk w g2 t2 c2) (k3 : Blk w g3 t3 c3) (k4 : Blk w g4 t4 c4) (k5 : Blk w g5 t5 c5) (k6 : Blk w g6 t6 c6) (k7 : Blk w g7 t7 c7) (h : ∀ W, BX X w0 W → Blk W g0 t0 c0 → Blk W g1 t1 c1 → Blk W g2 t2 c2 → Blk W g3 t3 c3 → Blk W g4 t4 c4 → Blk W g5 t5 c5 → Blk W g6 t6 c6 → Blk W g7 t7 c7 → c.wpIn F n P Q a W) : c.wpIn F n P Q a w := h w hb k0 k1 k2 k3 k4 k5 k6 k7
theorem absIB8 {F : Fence} {n : Nat} {c : Code} {Q : Exit → Act → World → Prop} {g0 g1 g2 g3 g4 g5 g6 g7 : Nat} {t0 t1 t2 t3 t4 t5 t6 t7 : TypeId} {c0 c1 c2 c3 c4 c5 c6 c7 : Array Value} (hb : Below w0.heap.size w0 w) (k0 : Blk w g0 t0 c0) (k1 : Blk w g1 t1 c1) (k2 : Blk w g2 t2 c2) (k3 : Blk w g3 t3 c3) (k4 : Blk w g4 t4 c4) (k5 : Blk w g5 t5 c5) (k6 : Blk w g6 t6 c6) (k7 : Blk w g7 t7 c7) (h : ∀ W, Below w0.heap.size w0 W → Blk W g0 t0 c0 → Blk W g1 t1 c1 → Blk W g2 t2 c2 → Blk W g3 t3 c3 → Blk W g4 t4 c4 → Blk W g5 t5 c5 → Blk W g6 t6 c6 → Blk W g7 t7 c7 → c.wpIn F n P Q a W) : c.wpIn F n P Q a w := h w hb k0 k1 k2 k3 k4 k5 k6 k7
theorem absJK8 {F : Fence} {n : Nat} {c : Code} {Q : Exit → Act → World → Prop} {m : Nat} {X : List Nat} {g0 g1 g2 g3 g4 g5 g6 g7 : Nat} {t0 t1 t2 t3 t4 t5 t6 t7 : TypeId} {c0 c1 c2 c3 c4 c5 c6 c7 : Array Value} (hb : BX X w0 w) (k0 : Blk w g0 t0 c0) (k1 : Blk w g1 t1 c1) (k2 : Blk w g2 t2 c2) (k3 : Blk w g3 t3 c3) (k4 : Blk w g4 t4 c4) (k5 : Blk w g5 t5 c5) (k6 : Blk w g6 t6 c6) (k7 : Blk w g7 t7 c7) (h : ∀ W, BX X w0 W → Blk W g0 t0 c0 → Blk W g1 t1 c1 → Blk W g2 t2 c2 → Blk W g3 t3 c3 → Blk W g4 t4 c4 → Blk W g5 t5 c5 → Blk W g6 t6 c6 → Blk W g7 t7 c7 → c.roundsIn F n P Q m a W) : c.roundsIn F n P Q m a w := h w hb k0 k1 k2 k3 k4 k5 k6 k7
theorem absJB8 {F : Fence} {n : Nat} {c : Code} {Q : Exit → Act → World → Prop} {m : Nat} {g0 g1 g2 g3 g4 g5 g6 g7 : Nat} {t0 t1 t2 t3 t4 t5 t6 t7 : TypeId} {c0 c1 c2 c3 c4 c5 c6 c7 : Array Value} (hb : Below w0.heap.size w0 w) (k0 : Blk w g0 t0 c0) (k1 : Blk w g1 t1 c1) (k2 : Blk w g2 t2 c2) (k3 : Blk w g3 t3 c3) (k4 : Blk w g4 t4 c4) (k5 : Blk w g5 t5 c5) (k6 : Blk w g6 t6 c6) (k7 : Blk w g7 t7 c7) (h : ∀ W, Below w0.heap.size w0 W → Blk W g0 t0 c0 → Blk W g1 t1 c1 → Blk W g2 t2 c2 → Blk W g3 t3 c3 → Blk W g4 t4 c4 → Blk W g5 t5 c5 → Blk W g6 t6 c6 → Blk W g7 t7 c7 → c.roundsIn F n P Q m a W) : c.roundsIn F n P Q m a w := h w hb k0 k1 k2 k3 k4 k5 k6 k7
theorem absTK8 {K : Act → World → Prop} {Q : Exit → Act → World → Prop} {x : Exit} {X : List Nat} {g0 g1 g2 g3 g4 g5 g6 g7 : Nat} {t0 t1 t2 t3 t4 t5 t6 t7 : TypeId} {c0 c1 c2 c3 c4 c5 c6 c7 : Array Value} (hb : BX X w0 w) (k0 : Blk w g0 t0 c0) (k1 : Blk w g1 t1 c1) (k2 : Blk w g2 t2 c2) (k3 : Blk w g3 t3 c3) (k4 : Blk w g4 t4 c4) (k5 : Blk w g5 t5 c5) (k6 : Blk w g6 t6 c6) (k7 : Blk w g7 t7 c7) (h : ∀ W, BX X w0 W → Blk W g0 t0 c0 → Blk W g1 t1 c1 → Blk W g2 t2 c2 → Blk W g3 t3 c3 → Blk W g4 t4 c4 → Blk W g5 t5 c5 → Blk W g6 t6 c6 → Blk W g7 t7 c7 → Exit.then K Q x a W) : Exit.then K Q x a w := h w hb k0 k1 k2 k3 k4 k5 k6 k7
theorem absTB8 {K : Act → World → Prop} {Q : Exit → Act → World → Prop} {x : Exit} {g0 g1 g2 g3 g4 g5 g6 g7 : Nat} {t0 t1 t2 t3 t4 t5 t6 t7 : TypeId} {c0 c1 c2 c3 c4 c5 c6 c7 : Array Value} (hb : Below w0.heap.size w0 w) (k0 : Blk w g0 t0 c0) (k1 : Blk w g1 t1 c1) (k2 : Blk w g2 t2 c2) (k3 : Blk w g3 t3 c3) (k4 : Blk w g4 t4 c4) (k5 : Blk w g5 t5 c5) (k6 : Blk w g6 t6 c6) (k7 : Blk w g7 t7 c7) (h : ∀ W, Below w0.heap.size w0 W → Blk W g0 t0 c0 → Blk W g1 t1 c1 → Blk W g2 t2 c2 → Blk W g3 t3 c3 → Blk W g4 t4 c4 → Blk W g5 t5 c5 → Blk W g6 t6 c6 → Blk W g7 t7 c7 → Exit.then K Q x a W) : Exit.then K Q x a w := h w hb k0 k1 k2 k3 k4 k5 k6 k7
theorem absPB8 {fn : Func} {R : Ending → World → Prop} {x : Exit} {g0 g1 g2 g3 g4 g5 g6 g7 : Nat} {t0 t1 t2 t3 t4 t5 t6 t7 : TypeId} {c0 c1 c2 c3 c4 c5 c6 c7 : Array Value} (hb : Below w0.heap.size w0 w) (k0 : Blk w g0 t0 c0) (k1 : Blk w g1 t1 c1) (k2 : Blk w g2 t2 c2) (k3 : Blk w g3 t3 c3) (k4 : Blk w g4 t4 c4) (k5 : Blk w g5 t5 c5) (k6 : Blk w g6 t6 c6) (k7 : Blk w g7 t7 c7) (h : ∀ W, Below w0.heap.size w0 W → Blk W g0 t0 c0 → Blk W g1 t1 c1 → Blk W g2 t2 c2 → Blk W g3 t3 c3 → Blk W g4 t4 c4 → Blk W g5 t5 c5 → Blk W g6 t6 c6 → Blk W g7 t7 c7 → bodyPost P fn R x a W) : bodyPost P fn R x a w := h w hb k0 k1 k2 k3 k4 k5 k6 k7
theorem pauseReg {Q : Exit → Act → World → Prop} (id : Nat) {ops : Array Oper} {b : Bool} (h : Hid ((Code.region id ops b).wp P Q a w)) : (Code.region id ops b).wp P Q a w := h.out
theorem pauseSeq {Q : Exit → Act → World → Prop} (id : Nat) {ops : Array Oper} {b : Bool} {y : Code} (h : Hid (((Code.region id ops b).seq y).wp P Q a w)) : ((Code.region id ops b).seq y).wp P Q a w := h.out
theorem pauseSeq2 {Q : Exit → Act → World → Prop} (id : Nat) {ops : Array Oper} {b : Bool} {y z : Code} (h : Hid ((((Code.region id ops b).seq y).seq z).wp P Q a w)) : (((Code.region id ops b).seq y).seq z).wp P Q a w := h.out
theorem pauseSeq3 {Q : Exit → Act → World → Prop} (id : Nat) {ops : Array Oper} {b : Bool} {y z u : Code} (h : Hid (((((Code.region id ops b).seq y).seq z).seq u).wp P Q a w)) : ((((Code.region id ops b).seq y).seq z).seq u).wp P Q a w := h.out
/-- Blocks that are new since w0. -/
def frX (w0 : World) (L : List Nat) : List Nat := L.filter fun x => decide (w0.heap.size ≤ x)
theorem frX_eq {w0 : World} {L : List Nat} (h : ∀ x ∈ L, w0.heap.size ≤ x) : frX w0 L = L := List.filter_eq_self.2 fun x hx => by simpa using h x hx
theorem bx_fresh {w0 A B : World} {L : List Nat} (h : BX (frX w0 L) A B) (hb : Below w0.heap.size w0 A) : Below w0.heap.size w0 B :=
  ⟨h.os.trans hb.os, h.tape.trans hb.tape, h.output.trans hb.output, Nat.le_trans hb.size h.size, fun k hk => (h.block k (Nat.lt_of_lt_of_le hk hb.size) (fun e => by
    have := (List.mem_filter.1 e).2
    simp at this
    omega)).trans (hb.block k hk)⟩
end
end Go.Proofs.YtdlmkblmljhbfaaDoor
namespace Go.Proofs.YtdlmkblmljhbfaaDoor
set_option linter.unusedSimpArgs false
set_option linter.unusedVariables false
open Go.RowKit
/-- The region's only way out is its end. -/
def Only (Q : Exit → Act → World → Prop) : Exit → Act → World → Prop
  | .normal, a, w => Q .normal a w
  | _, _, _ => False
theorem Only.imp {Q : Exit → Act → World → Prop} : ∀ (e : Exit) (a : Act) (w : World), NoPanic (Only Q) e a w → Q e a w := fun e a w h => by
  cases e <;> first | exact h | exact (h : False).elim
theorem only_done {Q : Exit → Act → World → Prop} {a : Act} {w : World} (h : Q .normal a w) : Only Q .normal a w := h
theorem only_shut {Q : Exit → Act → World → Prop} : ¬ LetsOut (NoPanic (Only Q)) := fun ⟨_, _, h⟩ => h
def noDefer (ops : Array Oper) : Bool := ops.all fun o => match o.op with | .defer _ => false | _ => true
theorem noDefer_at {ops : Array Oper} (h : noDefer ops = true) {i : Nat} {o : Oper} (ho : ops[i]? = some o) : ∀ c, o.op ≠ .defer c := fun c hc => by
  have hm := Array.mem_of_getElem? ho
  have := Array.all_eq_true'.1 h o hm
  rw [hc] at this
  cases this
theorem bx_cell0 {X : List Nat} {w0 w : World} {g : Nat} {t : TypeId} {old : Value} (hb : BX X w0 w) (hk : Blk w0 g t #[old]) (hg : g ∈ X) : ∃ c, w.cell? ⟨g, 0, none⟩ = some c ∧ w.frozen? ⟨g, 0, none⟩ = false := by
  obtain ⟨cs, h1, h2⟩ := hb.shape g hg t _ hk
  refine ⟨cs.getD 0 undef, ?_, h1.frozen 0⟩
  rw [h1.cell 0]
  have : 0 < cs.size := by rw [h2]; simp
  simp [this]
section
variable {P : Program} {ops : Array Oper} {Q : Exit → Act → World → Prop} {n l : Nat}
theorem opIn_of_wp {o : Oper} {a : Act} {w : World} {K : Act → World → Prop} (hd : ∀ c, o.op ≠ .defer c) (h : o.wp P a w K Q) : o.wpIn (Fence.wide.inRound l) n P a w K Q := by
  unfold Oper.wpIn
  refine ⟨fun _ _ => trivial, ?_⟩
  rw [Fence.inRound_round, Oper.semAt_some l _ _ hd]
  unfold Oper.wp at h
  generalize (execOp a.eval o).run P w = r at *
  cases r with
  | ok x w' =>
    cases x <;> simp only [Oper.upon, Oper.uponIn] at h ⊢
    case value => exact h
    case skip => exact h
    case defer => exact h
    case enter => exact ⟨fun hd => (by simp [Fence.wide] at hd), CallsIn.inRound l (callsIn_wide.2 h)⟩
    case row => exact ⟨fun hd => (by simp [Fence.wide] at hd), fun c cs _ => let ⟨v, w', r, s⟩ := h c cs; ⟨v, w', r, stepsIn_wide.2 s⟩⟩
  | halt x w' => cases x <;> simp only [Oper.upon, Oper.uponIn] at h ⊢ <;> exact h
theorem wpOpIn_of {i : Nat} {a : Act} {w : World} {K : Act → World → Prop} (hd : noDefer ops = true) (hQ : ¬ LetsOut Q) (h : wpOp P ops Q i K a w) : wpOpIn (Fence.wide.inRound l) n P ops Q i K a w := by
  unfold wpOp at h
  unfold wpOpIn
  cases ho : ops[i]? with
  | none => simpa [ho] using h
  | some o =>
    simp only [ho] at h ⊢
    split
    · rename_i hw
      rw [if_pos hw] at h
      rcases h with h | ⟨_, h⟩
      · exact opIn_of_wp (noDefer_at hd ho) h
      · exact (hQ h).elim
    · rename_i hw
      rw [if_neg hw] at h
      exact ⟨fun _ _ => trivial, h⟩
theorem wpAnyIn_of {md : Region.Mode} (hd : noDefer ops = true) (hQ : ¬ LetsOut Q) : ∀ (fuel : Nat) (listed : Array Bool) (a : Act) (w : World),
    wpAny P md ops Q fuel listed a w → wpAnyIn (Fence.wide.inRound l) n P md ops Q fuel listed a w
  | 0, _, _, _, h => h
  | fuel + 1, listed, a, w, h => ⟨h.1, fun i hi => wpOpIn_of hd hQ (wpOp_mono (fun a' w' h' => wpAnyIn_of hd hQ fuel _ a' w' h') (h.2 i hi))⟩
end
/-- The walk of a region in whatever order, in a round. -/
theorem wpIn_any {P : Program} {Q : Exit → Act → World → Prop} {n ln id : Nat} {a0 : Act} {w w0 : World} {l : List Oper} {A : (Nat → Value) → Act} (p : Parts) (X : (Nat → Gh) → List Nat) (hm : P.follows .mixedOrders = true)
    (hd : noDefer l.toArray = true) (hB : anyOk l.toArray p = true) (hb : Below w0.heap.size w0 w.drew) (hA : ∀ u, putD a0 p.ds 0 u = A u) (h : RGW P l.toArray (NoPanic (Only Q)) w0 A X p l.toArray.size []) :
    (Code.region id l.toArray true).wpIn (Fence.wide.inRound ln) n P Q a0 w :=
  Code.wpIn_mono Only.imp (wpIn_region_any hm (wpAnyIn_of hd only_shut _ _ _ _ (wpAny_rg p X hB hb hA h)))
end Go.Proofs.YtdlmkblmljhbfaaDoor
namespace Go.Proofs.YtdlmkblmljhbfaaDoor
set_option linter.unusedSimpArgs false
set_option linter.unusedVariables false
open Go.RowKit
/-- Since A all cells lie as they lay, and whatever lay below D. -/
structure CK (D : Nat) (A B : World) : Prop where
  os : B.os = A.os
  tape : B.tape = A.tape
  output : B.output = A.output
  size : A.heap.size ≤ B.heap.size
  keep : ∀ k o, A.heap[k]? = some o → (k < D ∨ o.isCells = true) → B.heap[k]? = some o
theorem CK.of_below {D : Nat} {A B : World} (h : Below A.heap.size A B) : CK D A B :=
  ⟨h.os, h.tape, h.output, h.size, fun k _ hk _ => (h.block k (Array.getElem?_eq_some_iff.1 hk).1).trans hk⟩
theorem CK.put {D r : Nat} {A : World} {o : Obj} (o' : Obj) (h : A.heap[r]? = some o) (hc : o.isCells = false) (hr : D ≤ r) : CK D A (A.putObj r o') :=
  ⟨rfl, rfl, rfl, by simp, fun k u hk hu => by
    by_cases e : k = r
    · subst e
      rw [h] at hk; cases hk
      rcases hu with hu | hu
      · omega
      · rw [hc] at hu; cases hu
    · exact (World.putObj_heap_other e).trans hk⟩
theorem CK.blk {D g : Nat} {A B : World} {t : TypeId} {cs : Array Value} (h : CK D A B) (hk : Blk A g t cs) : Blk B g t cs := h.keep g _ hk (.inr rfl)
theorem CK.belowOf {D : Nat} {w A B : World} (hD : w.heap.size ≤ D) (h : CK D A B) (hb : Below w.heap.size w A) : Below w.heap.size w B :=
  ⟨h.os.trans hb.os, h.tape.trans hb.tape, h.output.trans hb.output, Nat.le_trans hb.size h.size, fun k hk => by
    have hk' : k < A.heap.size := Nat.lt_of_lt_of_le hk hb.size
    have := h.keep k A.heap[k] (Array.getElem?_eq_getElem hk') (.inl (by omega))
    rw [this, ← Array.getElem?_eq_getElem hk', hb.block k hk]⟩
theorem BX.trans {X : List Nat} {a b c : World} (h : BX X a b) (k : BX X b c) : BX X a c :=
  ⟨k.os.trans h.os, k.tape.trans h.tape, k.output.trans h.output, Nat.le_trans h.size k.size, fun i hi hX => (k.block i (Nat.lt_of_lt_of_le hi h.size) hX).trans (h.block i hi hX),
   fun g hg t cs hk => by obtain ⟨c1, h1, h2⟩ := h.shape g hg t cs hk; obtain ⟨c2, h3, h4⟩ := k.shape g hg t c1 h1; exact ⟨c2, h3, h4.trans h2⟩⟩
theorem BX.wider {X : List Nat} {a b : World} (r : Nat) (h : BX X a b) : BX (r :: X) a b :=
  ⟨h.os, h.tape, h.output, h.size, fun i hi hX => h.block i hi (fun e => hX (List.mem_cons_of_mem _ e)), fun g hg t cs hk => by
    by_cases e : g ∈ X
    · exact h.shape g e t cs hk
    · exact ⟨cs, (h.block g (Array.getElem?_eq_some_iff.1 hk).1 e).trans hk, rfl⟩⟩
theorem BX.drop {X : List Nat} {a b : World} {r : Nat} (h : BX (r :: X) a b) (e : b.heap[r]? = a.heap[r]?) : BX X a b :=
  ⟨h.os, h.tape, h.output, h.size, fun i hi hX => by
    by_cases e' : i = r
    · rw [e', e]
    · exact h.block i hi (by simp [e', hX]), fun g hg => h.shape g (List.mem_cons_of_mem _ hg)⟩
theorem bx_loop {X : List Nat} {A : World} {r : Nat} {q : Loop} (q' : Loop) (h : A.heap[r]? = some (.loop q)) : BX (r :: X) A (A.putObj r (.loop q')) :=
  ⟨rfl, rfl, rfl, by simp, fun i _ hX => World.putObj_heap_other (fun e => hX (by simp [e])), fun g _ t cs hk => by
    refine ⟨cs, ?_, rfl⟩
    have : g ≠ r := fun e => by subst e; unfold Blk at hk; rw [h] at hk; cases hk
    exact (World.putObj_heap_other this).trans hk⟩
def Goes {α : Type} (X : List Nat) (I : List α → World → Prop) (xs : List α) (W : World) : Exit → Act → World → Prop
  | .normal, _, W' => BX X W W' ∧ I xs W'
  | _, _, _ => False
/-- What an iterator promises: it yields the members of xs, in their order. -/
def Iter (P : Program) {α : Type} (m : Nat) (gf : Nat) (rb : Array Value) (encs : α → Array Value) (xs : List α) : Prop :=
  ∀ (l : Nat) (X : List Nat) (J : List α → World → Prop) (W : World), (∀ x ∈ X, x < W.heap.size) → (∀ s A B, J s A → Below A.heap.size A B → J s B) →
    (∀ pre x W1, J pre W1 → pre ++ [x] <+: xs → YieldAt Fence.wide (m - 1) P l (encs x) W1 fun e W' => e = .returned (.bool true) ∧ J (pre ++ [x]) W' ∧ BX X W1 W') →
    J [] W → CallsIn Fence.wide m P gf (rb ++ #[.func (.yield l) #[] #[]]) W fun e W' => (∃ v, e = .returned v) ∧ J xs W'
theorem wp_range {P : Program} {α : Type} {g : Operand} {ps : Array Tmp} {assign body : Code} {Q : Exit → Act → World → Prop} {a : Act} {w : World} {gf : Nat} {rb : Array Value}
    (hg : a.eval g = .func (.func gf) rb #[]) (eg : ∀ args w, (callFunc gf args).run P w = .ok (.enter gf args) w) {encs : α → Array Value} {xs : List α}
    (hseq : Iter P 5 gf rb encs xs) (hps : ∀ x, (encs x).size = ps.size) (X : List Nat) (hX : ∀ x ∈ X, x < w.heap.size)
    (I : List α → World → Prop) (hI : ∀ s A B, I s A → CK w.heap.size A B → I s B)
    (h0 : I [] w)
    (hround : ∀ l pre x W, I pre W → pre ++ [x] <+: xs → assign.wpIn (Fence.wide.inRound l) 4 P
      (Exit.then (fun a1 W1 => BX X W W1 ∧ ∀ W2, CK w.heap.size W1 W2 → body.wpIn (Fence.wide.inRound l) 4 P (Goes X I (pre ++ [x]) W2) a1 W2) (fun _ _ _ => False))
      { tmps := (ps.zip (encs x)).foldl (fun t (p, v) => t.setIfInBounds p v) a.tmps, defers := [] } W)
    (hdone : ∀ W, I xs W → W.heap[w.heap.size]? = some (.deferred (some [])) → Q .normal { a with defers := { target := .collected w.heap.size, args := #[] } :: a.defers } W) :
    (Code.rangeFunc g ps assign body).wp P Q a w := by
  refine (wpIn_wide (n := 6)).1 (wpIn_rangeFunc ?_)
  intro fn _
  rw [Fence.wide_round]
  obtain ⟨rec, hrec⟩ : ∃ rec : LoopState → Loop, rec = fun st => { state := st, pending := none, fn, tmps := a.tmps, params := ps, assign, body, defers := w.heap.size } := ⟨_, rfl⟩
  have hst : ∀ s, (rec s).state = s := fun s => by rw [hrec]
  have hpd : ∀ s, (rec s).pending = none := fun s => by rw [hrec]
  have hsp : ∀ s, (rec s).params = ps := fun s => by rw [hrec]
  have hup : ∀ s s' , { rec s with state := s' } = rec s' := fun s s' => by rw [hrec]
  have hen : ∀ s s', ({ rec s with state := s', pending := none } : Loop) = rec s' := fun s s' => by rw [hrec]
  have hrun := run_enterLoop_outer (P := P) (w := w) fn a.tmps ps assign body
  obtain ⟨W1, hW1⟩ : ∃ W1, (w.alloc (.deferred (some []))).alloc (.loop (rec .ready)) = W1 := ⟨_, rfl⟩
  have hb1 : Below w.heap.size w W1 := by
    rw [← hW1]; exact ((Below.refl _ w).alloc (Nat.le_refl _) _).alloc (by simp) _
  have hs1 : W1.heap.size = w.heap.size + 2 := by rw [← hW1]; simp
  have hL1 : W1.heap[w.heap.size + 1]? = some (.loop (rec .ready)) := by
    rw [← hW1]; have := World.alloc_heap_new (w.alloc (.deferred (some []))) (.loop (rec .ready)); rwa [World.size_alloc] at this
  have hK1 : W1.heap[w.heap.size]? = some (.deferred (some [])) := by
    rw [← hW1]; exact (Below.heap_alloc _ _ _ (by simp)).trans (World.alloc_heap_new w _)
  have hI1 : I [] W1 := hI _ _ _ h0 ⟨hb1.os, hb1.tape, hb1.output, hb1.size, fun k o hk _ => (hb1.block k (Array.getElem?_eq_some_iff.1 hk).1).trans hk⟩
  have hDX : ∀ i, w.heap.size ≤ i → i ∉ X := fun i hi hx => by have := hX i hx; omega
  refine ⟨w.heap.size + 1, [{ target := .collected w.heap.size, args := #[] }], W1, { target := .fn (.func gf) #[], args := rb ++ #[.func (.yield (w.heap.size + 1)) #[] #[]] }, W1, gf,
    rb ++ #[.func (.yield (w.heap.size + 1)) #[] #[]], W1, ?_, ?_, fun _ _ => trivial, ?_, fun h => (by simp [Fence.wide] at h), ?_⟩
  · rw [hrun, ← hW1, hrec]
  · simp only [resolve, hg]
    simp [go_sem]
  · simp [invoke, go_sem, eg]
  refine (hseq (w.heap.size + 1) X (fun pre W => I pre W ∧ W.heap[w.heap.size + 1]? = some (.loop (rec .ready)) ∧ W.heap[w.heap.size]? = some (.deferred (some [])))
    W1 (fun x hx => by have := hX x hx; omega) (fun s A B hs hb => ⟨hI s A B hs.1 (.of_below hb), (hb.block _ (Array.getElem?_eq_some_iff.1 hs.2.1).1).trans hs.2.1, (hb.block _ (Array.getElem?_eq_some_iff.1 hs.2.2).1).trans hs.2.2⟩) ?_ ⟨hI1, hL1, hK1⟩).mono ?_
  · rintro pre x W ⟨hi, hl, hk⟩ hpre
    have hy := run_yield (P := P) (args := encs x) hl (by rw [hsp]; exact hps x)
    rw [hrec] at hy
    refine ⟨fn, _, assign, body, hy, roundIn_of_wpIn trivial (wpIn_mono (hround _ pre x W hi hpre) ?_)⟩
    intro e a1 W2 hp
    cases e with
    | normal =>
      obtain ⟨hbx, hbody⟩ := hp
      have hl2 := (hbx.block (w.heap.size + 1) (Array.getElem?_eq_some_iff.1 hl).1 (hDX _ (by omega))).trans hl
      have hk2 := (hbx.block w.heap.size (Array.getElem?_eq_some_iff.1 hk).1 (hDX _ (by omega))).trans hk
      have hr := run_beginRound (P := P) hl2 (hst _)
      rw [hup] at hr
      have hlt2 := (Array.getElem?_eq_some_iff.1 hl2).1
      have hl3 := World.putObj_heap_same (w := W2) (o := .loop (rec .busy)) hlt2
      have hk3 := (World.putObj_heap_other (w := W2) (o := .loop (rec .busy)) (show w.heap.size ≠ w.heap.size + 1 by omega)).trans hk2
      refine ⟨_, hr, wpIn_mono (hbody _ (.put _ hl2 rfl (by omega))) ?_⟩
      intro e a3 W3 hp
      cases e with
      | normal =>
        obtain ⟨hb3, hi3⟩ := hp
        have hl4 := (hb3.block _ (Array.getElem?_eq_some_iff.1 hl3).1 (hDX _ (by omega))).trans hl3
        have hk4 := (hb3.block _ (Array.getElem?_eq_some_iff.1 hk3).1 (hDX _ (by omega))).trans hk3
        have he := run_endRound (P := P) none hl4
        simp only [Option.isNone_none, if_true] at he
        rw [hen] at he
        have hl5 := World.putObj_heap_same (w := W3) (o := .loop (rec .ready)) (Array.getElem?_eq_some_iff.1 hl4).1
        refine ⟨_, _, he, rfl, ⟨hI _ _ _ hi3 (.put _ hl4 rfl (by omega)), hl5, (World.putObj_heap_other (by omega)).trans hk4⟩, ?_⟩
        refine BX.drop (r := w.heap.size + 1) ?_ (hl5.trans hl.symm)
        exact (((hbx.wider _).trans (bx_loop _ hl2)).trans (hb3.wider _)).trans (bx_loop _ hl4)
      | _ => exact (hp : False).elim
    | _ => exact (hp : False).elim
  · rintro e W2 ⟨⟨v, rfl⟩, hi, hl, hk⟩
    have he := run_endLoop (P := P) hl (by rw [hst]; simp)
    rw [hpd] at he
    exact ⟨none, _, he, hdone _ (hI _ _ _ hi (.put _ hl rfl (by omega))) ((World.putObj_heap_other (by omega)).trans hk)⟩
/-- A function whose body holds a range over a function. -/
theorem calls_marks {P : Program} {f : FuncId} {fn : Func} {c : Code} {args : Array Value} {w : World} {R : Ending → World → Prop} (hf : P.funcs[f]? = some fn) (hb : fn.body = some c)
    (h : c.wp P (bodyPostM Fence.wide 6 P fn R) { tmps := args ++ Array.replicate (fn.ntmps - args.size) undef, defers := [] } w) : Calls P f args w R :=
  callsIn_wide.1 (callsIn_of_wp_marks (n := 6) hf hb trivial (wpIn_wide.2 h))
end Go.Proofs.YtdlmkblmljhbfaaDoor
