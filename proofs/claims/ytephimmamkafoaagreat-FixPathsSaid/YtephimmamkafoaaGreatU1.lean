/-
  Small words and lemmas on worlds that every walk of this seat uses; nothing here speaks of the program's functions.
  A region that draws its order, walked in one planned order: what only reads is taken as soon as it may come up, all else comes up one at a time.
-/
import Derived.Test.YtephimmamkafoaaGreatRows
import Derived.WalkKit
import Derived.WalkSpells
import Derived.WalkLawsBesides
import Derived.Lib.Hide
import Derived.Deep.QuietTactic
import Derived.BigQuiet
import Derived.BigRegion
import Derived.Deep.RegionHeld3
import Derived.Deep.LoopGhost
import Derived.Laws.IdiomStrings
import Derived.StillTailTactics
import Derived.Lib.MinMax
set_option linter.unusedSimpArgs false
set_option linter.unusedVariables false
namespace Go.Proofs.YtephimmamkafoaaGreat
open Go.RowKit

/-- The call hands back v, and nothing that lay there has turned. -/
def Ret (v : Value) (w : World) (e : Ending) (w' : World) : Prop := e = .returned v ∧ Below w.heap.size w w'
/-- The call hands back v and leaves the world as it was. -/
def Same (v : Value) (w : World) (e : Ending) (w' : World) : Prop := e = .returned v ∧ w = w'

theorem bl_refl (w : World) : Below w.heap.size w w := Below.refl _ _
theorem bl_al {w X : World} (o : Obj) (h : Below w.heap.size w X) : Below w.heap.size w (X.alloc o) := h.alloc h.size o
theorem bl_drew {w X : World} (h : Below w.heap.size w X) : Below w.heap.size w X.drew := ⟨h.os, h.tape, h.output, h.size, h.block⟩
theorem bl_drewN {w X : World} (n : Nat) (h : Below w.heap.size w X) : Below w.heap.size w (X.drewN n) := ⟨h.os, h.tape, h.output, h.size, h.block⟩
theorem bl_tr {w X Y : World} (h : Below w.heap.size w X) (h' : Below X.heap.size X Y) : Below w.heap.size w Y := h.trans (h'.mono h.size)
theorem bl_tt {X Y : World} (h' : Below X.heap.size X Y) : ∀ w : World, Below w.heap.size w X → Below w.heap.size w Y := fun _ h => bl_tr h h'
theorem bl_set {w X : World} {p : Addr} (hp : w.heap.size ≤ p.block) (v : Value) (h : Below w.heap.size w X) : Below w.heap.size w (X.setCell p v) := h.setCell hp v

theorem kcell {W W' : World} {p : Addr} {v : Value} (hb : Below W.heap.size W W') (h : W.cell? p = some v) : W'.cell? p = some v := (hb.cell (World.block_lt_of_cell? W p h)).trans h

/-- Block g is just these cells, none frozen. -/
def Blk (w : World) (g : Nat) (t : TypeId) (cs : Array Value) : Prop := w.heap[g]? = some (.cells cs t (0, 0))
theorem Blk.lt {w : World} {g : Nat} {t : TypeId} {cs : Array Value} (h : Blk w g t cs) : g < w.heap.size := by
  unfold Blk at h
  exact (Array.getElem?_eq_some_iff.1 h).1
theorem Blk.cell {w : World} {g : Nat} {t : TypeId} {cs : Array Value} (h : Blk w g t cs) (i : Nat) : w.cell? ⟨g, i, none⟩ = cs[i]? := by
  unfold Blk at h
  simp [World.cell?, h]
theorem Blk.frozen {w : World} {g : Nat} {t : TypeId} {cs : Array Value} (h : Blk w g t cs) (i : Nat) : w.frozen? ⟨g, i, none⟩ = false := by
  unfold Blk at h
  simp [World.frozen?, h]
theorem Blk.below {w w' : World} {g : Nat} {t : TypeId} {cs : Array Value} (h : Blk w g t cs) (hb : Below w.heap.size w w') : Blk w' g t cs := (hb.block g h.lt).trans h
theorem Blk.alloc {w : World} {g : Nat} {t : TypeId} {cs : Array Value} (h : Blk w g t cs) (o : Obj) : Blk (w.alloc o) g t cs := h.below (bl_al o (bl_refl w))
theorem Blk.new (w : World) (t : TypeId) (cs : Array Value) : Blk (w.alloc (.cells cs t)) w.heap.size t cs := by
  unfold Blk
  exact heap_alloc_new w _
/-- What a block of now holds in every later world. -/
theorem Blk.later {w : World} {g : Nat} {t : TypeId} {cs : Array Value} (h : Blk w g t cs) : ∀ W, Below w.heap.size w W → ∀ i, W.cell? ⟨g, i, none⟩ = cs[i]? := fun _ hb i => (h.below hb).cell i
theorem later {w : World} {p : Addr} {v : Value} (h : w.cell? p = some v) : ∀ W, Below w.heap.size w W → W.cell? p = some v := fun _ hb => kcell hb h

section
variable {P : Program} {c : Code} {Q : Exit → Act → World → Prop} {a : Act} {w : World}
variable {x y z u v r : Array Value} {S T U V X Y : TypeId}
theorem abs1 (h : ∀ w0, Below w.heap.size w w0 → Blk w0 w.heap.size S x → c.wp P Q a w0) : c.wp P Q a (w.alloc (.cells x S)) := by
  have k0 := Blk.new w S x
  exact h _ (bl_al _ (bl_refl w)) k0
end

/-- A slice's elements, each of so many cells, lie where its address says. -/
def Sl {α : Type} (cs : α → List Value) (sz : Nat) (w : World) (A : Option Addr) (l : List α) : Prop :=
  ∀ k x, l[k]? = some x → ∃ b off, A = some ⟨b, off, none⟩ ∧ ∀ j v, (cs x)[j]? = some v → w.cell? ⟨b, off + k * sz + j, none⟩ = some v
theorem Sl.below {α : Type} {cs : α → List Value} {sz : Nat} {w w' : World} {A : Option Addr} {l : List α} (h : Sl cs sz w A l) (hb : Below w.heap.size w w') : Sl cs sz w' A l := fun k x hx => by
  obtain ⟨b, off, e, hc⟩ := h k x hx
  exact ⟨b, off, e, fun j v hv => kcell hb (hc j v hv)⟩
theorem Sl.take {α : Type} {cs : α → List Value} {sz : Nat} {w : World} {A : Option Addr} {l : List α} (h : Sl cs sz w A l) (n : Nat) : Sl cs sz w A (l.take n) := fun k x hx => by
  rw [List.getElem?_take] at hx
  split at hx
  · exact h k x hx
  · simp at hx
theorem Sl.nil {α : Type} {cs : α → List Value} {sz : Nat} {w : World} {A : Option Addr} : Sl cs sz w A ([] : List α) := fun k x hx => by simp at hx

/-- A function value answers p of whatever element of l stands as enc x, in every later world. -/
def Preds (P : Program) (f : FuncId) (lb : Array Value) (w : World) {α : Type} (enc : α → Value) (l : List α) (p : α → Bool) : Prop :=
  ∀ x ∈ l, ∀ W : World, Below w.heap.size w W → Calls P f (#[enc x] ++ lb) W (Ret (.bool (p x)) W)
/-- The place of the first element of which p holds, from a number on; -1. -/
def idxF {α : Type} (p : α → Bool) : List α → Int → Int
  | [], _ => -1
  | x :: l, k => if p x then k else idxF p l (k + 1)
theorem idxF_ge {α : Type} (p : α → Bool) : ∀ (l : List α) (k : Int), 0 ≤ k → decide (0 ≤ idxF p l k) = l.any p
  | [], k, _ => by simp [idxF]
  | x :: l, k, hk => by
    have := idxF_ge p l (k + 1) (by omega)
    by_cases h : p x
    · simp [idxF, h, hk]
    · simp [idxF, h, this]
theorem idxF_drop {α : Type} (p : α → Bool) (l : List α) (k : Nat) (x : α) (hx : l[k]? = some x) : idxF p (l.drop k) k = if p x then (k : Int) else idxF p (l.drop (k + 1)) ((k : Int) + 1) := by
  have hk : k < l.length := (List.getElem?_eq_some_iff.1 hx).1
  have e : l[k] = x := (List.getElem?_eq_some_iff.1 hx).2
  rw [List.drop_eq_getElem_cons hk, e]
  rfl

/-- '[]byte(s)': a new block that holds the bytes. -/
theorem bytes_conv {P : Program} {src dst e : TypeId} (s : ByteArray) (hs : P.underlying src = some .string) (hd : P.underlying dst = some (.slice e)) (he : P.underlying e = some (.int .u8)) (w : World) :
    ∃ cap w1, (convert src dst (.string s)).run P w = .ok (.slice (some ⟨w.heap.size, 0, none⟩) s.size cap) w1 ∧ Below w.heap.size w w1 ∧
      ∀ (j : Nat) (c : UInt8), s.data.toList[j]? = some c → w1.cell? ⟨w.heap.size, j, none⟩ = some (.int .u8 (c.toNat : Nat)) := by
  refine ⟨_, _, run_bytes_of_string w src dst e s hs hd he, bl_al _ (bl_drew (bl_refl w)), fun j c hc => ?_⟩
  have hj : j < s.data.size := by have := (List.getElem?_eq_some_iff.1 hc).1; simpa using this
  have h1 := bytesRow_at s (grownCap w s.size 0 e) j hj
  have h2 : s.data[j] = c := by
    have := (List.getElem?_eq_some_iff.1 hc).2
    simpa using this
  rw [h2] at h1
  exact (World.cell?_alloc_mark w.drew _ _ _ j).trans h1
end Go.Proofs.YtephimmamkafoaaGreat
namespace Go.Proofs.YtephimmamkafoaaGreat
open Go.RowKit

section
variable {P : Program} {ops : Array Oper} {Q : Exit → Act → World → Prop} {S : World → Prop}
/-- The walk of a plan: (i, true) yields its value in every world that meets S, (i, false) is carried out. -/
def PlanW (P : Program) (ops : Array Oper) (Q : Exit → Act → World → Prop) (S : World → Prop) : List (Nat × Bool) → Act → World → Prop
  | [], a, w => Q .normal a w
  | (i, true) :: l, a, w => ∃ o v, ops[i]? = some o ∧ YieldsIf P ops S o v a ∧ PlanW P ops Q S l (a.put o.dst v) w
  | (i, false) :: l, a, w => wpOp P ops Q i (fun a' w' => S w' ∧ PlanW P ops Q S l a' w') a w
/-- Whether a plan fits the region's edges. -/
def planOk (ops : Array Oper) : List (Nat × Bool) → Array Bool → Bool
  | [], listed => (Region.ready .any ops listed).isEmpty
  | (i, true) :: l, listed => Region.free .any ops listed i && ((Region.ready .any ops listed).contains i && planOk ops l (listed.setIfInBounds i true))
  | (i, false) :: l, listed => (Region.ready .any ops listed == [i]) && planOk ops l (listed.setIfInBounds i true)
theorem planW_any (hs : Region.noSelect ops = true) (hQ : ∀ c a w (d : Option Tmp) (v : Value), Q (.panic c) (a.put d v) w → Q (.panic c) a w) :
    ∀ (l : List (Nat × Bool)) (listed : Array Bool) (a : Act) (w : World), planOk ops l listed = true → S w → PlanW P ops Q S l a w → wpAnyH P .any ops Q S l.length listed a w
  | [], listed, a, w, hp, _, h => wpAnyH_done (by simpa [planOk] using hp) h _
  | (i, true) :: l, listed, a, w, hp, hS, h => by
    obtain ⟨o, v, ho, hy, hr⟩ := h
    simp only [planOk, Bool.and_eq_true] at hp
    exact wpAnyH_take ho hs hp.1 hp.2.1 (fun c a w h => hQ c a w _ _ h) hy hS (planW_any hs hQ l _ _ w hp.2.2 hS hr)
  | (i, false) :: l, listed, a, w, hp, _, h => by
    simp only [planOk, Bool.and_eq_true, beq_iff_eq] at hp
    refine wpAnyH_all (rs := [i]) hp.1 (by simp) fun j hj => ?_
    obtain rfl : j = i := by simpa using hj
    exact wpOp_mono (fun a' w' h' => ⟨h'.1, planW_any hs hQ l _ a' w' hp.2 h'.1 h'.2⟩) h
theorem wp_plan {id : Nat} {a : Act} {w : World} (l : List (Nat × Bool)) (S : World → Prop) (hm : P.follows .mixedOrders = true) (hs : Region.noSelect ops = true) (hl : (l.length == ops.size && planOk ops l (Array.replicate ops.size false)) = true)
    (hS : S w.drew) (h : PlanW P ops (NoPanic Q) S l a w.drew) : (Code.region id ops true).wp P Q a w := by
  simp only [Bool.and_eq_true, beq_iff_eq] at hl
  refine wp_region_noPanic (wp_region_held (S := S) hm ?_)
  rw [← hl.1] at *
  exact planW_any hs (fun _ _ _ _ _ h => h) l _ a w.drew hl.2 hS h
theorem PlanW.done {a : Act} {w : World} (h : Q .normal a w) : PlanW P ops (NoPanic Q) S [] a w := h
theorem PlanW.on {i : Nat} {l : List (Nat × Bool)} {a : Act} {w : World} {o : Oper} {v : Value} (hi : ops[i]? = some o) (hw : Region.wanted o (yielded ops a.tmps) = true)
    (hy : ∀ W, S W → (execOp a.eval o).run P W = .ok (.value v) W) (h : PlanW P ops Q S l (a.put o.dst v) w) : PlanW P ops Q S ((i, true) :: l) a w := ⟨o, v, hi, .inl ⟨hw, hy⟩, h⟩
theorem PlanW.off {i : Nat} {l : List (Nat × Bool)} {a : Act} {w : World} {o : Oper} (hi : ops[i]? = some o) (hw : Region.wanted o (yielded ops a.tmps) = false)
    (h : PlanW P ops Q S l (a.put o.dst undef) w) : PlanW P ops Q S ((i, true) :: l) a w := ⟨o, undef, hi, .inr ⟨hw, rfl⟩, h⟩
theorem PlanW.step {i : Nat} {l : List (Nat × Bool)} {a : Act} {w : World} {o : Oper} (hi : ops[i]? = some o) (hw : Region.wanted o (yielded ops a.tmps) = true)
    (h : ∀ K : Act → World → Prop, Shut (∀ a' w', S w' → (S w' → PlanW P ops Q S l a' w') → K a' w') → Oper.wp P o a w K Q) : PlanW P ops Q S ((i, false) :: l) a w :=
  wpOp_step hi fun K hK => by
    rw [if_pos hw]
    exact h K (fun a' w' hS hp => hK a' w' ⟨hS, hp hS⟩)
theorem PlanW.stepOff {i : Nat} {l : List (Nat × Bool)} {a : Act} {w : World} {o : Oper} (hi : ops[i]? = some o) (hw : Region.wanted o (yielded ops a.tmps) = false) (hS : S w)
    (h : PlanW P ops Q S l (a.put o.dst undef) w) : PlanW P ops Q S ((i, false) :: l) a w :=
  wpOp_step hi fun K hK => by
    rw [if_neg (by rw [hw]; decide)]
    exact hK _ _ ⟨hS, h⟩
end

/-- Since w all blocks that lay there are as they were, but for some. -/
structure BX (X : List Nat) (w W : World) : Prop where
  os : W.os = w.os
  tape : W.tape = w.tape
  output : W.output = w.output
  size : w.heap.size ≤ W.heap.size
  block : ∀ i, i < w.heap.size → i ∉ X → W.heap[i]? = w.heap[i]?
  shape : ∀ g ∈ X, ∀ t cs, Blk w g t cs → ∃ cs', Blk W g t cs' ∧ cs'.size = cs.size
theorem bx_refl (X : List Nat) (w : World) : BX X w w := ⟨rfl, rfl, rfl, Nat.le_refl _, fun _ _ _ => rfl, fun _ _ _ cs h => ⟨cs, h, rfl⟩⟩
theorem BX.step {X : List Nat} {w A B : World} (h : BX X w A) (h' : Below A.heap.size A B) : BX X w B :=
  ⟨h'.os.trans h.os, h'.tape.trans h.tape, h'.output.trans h.output, Nat.le_trans h.size h'.size, fun i hi hX => (h'.block i (Nat.lt_of_lt_of_le hi h.size)).trans (h.block i hi hX),
   fun g hg t cs hk => by obtain ⟨cs', h1, h2⟩ := h.shape g hg t cs hk; exact ⟨cs', h1.below h', h2⟩⟩
theorem bx_al {X : List Nat} {w A : World} (o : Obj) (h : BX X w A) : BX X w (A.alloc o) := h.step (bl_al o (bl_refl A))
theorem bx_drew {X : List Nat} {w A : World} (h : BX X w A) : BX X w A.drew := h.step (bl_drew (bl_refl A))
theorem bx_drewN {X : List Nat} {w A : World} (n : Nat) (h : BX X w A) : BX X w (A.drewN n) := h.step (bl_drewN n (bl_refl A))
theorem bx_tt {A B : World} (h' : Below A.heap.size A B) : ∀ (X : List Nat) (w : World), BX X w A → BX X w B := fun _ _ h => h.step h'
theorem bx_bl {w A : World} (X : List Nat) (h : Below w.heap.size w A) : BX X w A := (bx_refl X w).step h
theorem Blk.set {w : World} {g : Nat} {t : TypeId} {cs : Array Value} (h : Blk w g t cs) (i : Nat) (v : Value) : Blk (w.setCell ⟨g, i, none⟩ v) g t (cs.setIfInBounds i v) := by
  unfold Blk at h ⊢
  simp [World.setCell, Array.getElem?_modify, h]
theorem Blk.other {w : World} {g : Nat} {p : Addr} {t : TypeId} {cs : Array Value} (h : Blk w g t cs) (hne : g ≠ p.block) (v : Value) : Blk (w.setCell p v) g t cs := by
  unfold Blk at h ⊢
  rw [← h]
  exact Below.heap_setCell w p v g hne
theorem Blk.set2 {w : World} {g i j : Nat} {u v : Value} {t : TypeId} {cs cs' : Array Value} (h : Blk w g t cs) (e : (cs.setIfInBounds i v).setIfInBounds j u = cs') : Blk ((w.setCell ⟨g, i, none⟩ v).setCell ⟨g, j, none⟩ u) g t cs' := e ▸ (h.set i v).set j u
theorem Blk.set1 {w : World} {g i : Nat} {v : Value} {t : TypeId} {cs cs' : Array Value} (h : Blk w g t cs) (e : cs.setIfInBounds i v = cs') : Blk (w.setCell ⟨g, i, none⟩ v) g t cs' := e ▸ h.set i v
theorem bl_setA {w X : World} {i : Nat} (v : Value) (h : Below w.heap.size w X) : Below w.heap.size w (X.setCell ⟨w.heap.size, i, none⟩ v) := bl_set (Nat.le_refl _) v h
theorem bl_setB {w X : World} {i n : Nat} (v : Value) (h : Below w.heap.size w X) : Below w.heap.size w (X.setCell ⟨w.heap.size + n, i, none⟩ v) := bl_set (Nat.le_add_right _ _) v h
theorem Blk.row {w : World} {g : Nat} {t : TypeId} {cs : Array Value} (h : Blk w g t cs) (vs : Array Value) : Blk (w.setRow g vs) g t vs := setRow_heap w g cs vs t _ h
theorem Blk.rowOther {w : World} {g g' : Nat} {t : TypeId} {cs : Array Value} (h : Blk w g t cs) (hne : g ≠ g') (vs : Array Value) : Blk (w.setRow g' vs) g t cs := (setRow_other w g' g vs hne).trans h
theorem bx_set {X : List Nat} {w A : World} {g i : Nat} (hp : g ∈ X ∨ w.heap.size ≤ g) (v : Value) (h : BX X w A) : BX X w (A.setCell ⟨g, i, none⟩ v) :=
  ⟨h.os, h.tape, h.output, by simpa [World.setCell] using h.size, fun k hi hX => (Below.heap_setCell A ⟨g, i, none⟩ v k (by
    intro he
    have he : k = g := he
    rcases hp with hp | hp
    · exact hX (he ▸ hp)
    · omega)).trans (h.block k hi hX),
   fun g' hg t cs hk => by
    obtain ⟨cs', h1, h2⟩ := h.shape g' hg t cs hk
    by_cases he : g' = g
    · subst he; exact ⟨_, h1.set i v, by simpa using h2⟩
    · exact ⟨cs', h1.other (p := ⟨g, i, none⟩) he v, h2⟩⟩
theorem bx_row {X : List Nat} {w A : World} {g : Nat} {t : TypeId} {old cells : Array Value} (hg : g ∈ X) (hk : Blk w g t old) (hs : old.size = cells.size) (h : BX X w A) : BX X w (A.setRow g cells) :=
  ⟨h.os, h.tape, h.output, by simpa using h.size, fun k hi hX => (setRow_other A g k cells (fun e => hX (e ▸ hg))).trans (h.block k hi hX),
   fun g' hg' t' cs hk' => by
    obtain ⟨cs', h1, h2⟩ := h.shape g' hg' t' cs hk'
    by_cases he : g' = g
    · subst he
      refine ⟨cells, h1.row cells, ?_⟩
      unfold Blk at hk hk'
      rw [hk] at hk'
      injection hk' with hk'
      injection hk' with e _ _
      rw [← e, hs]
    · exact ⟨cs', h1.rowOther he cells, h2⟩⟩
/-- A whole variable is stored into a block that the region sets apart. -/
theorem wp_store_keep {P : Program} {o : Oper} {a : Act} {w0 w : World} {K : Act → World → Prop} {Q : Exit → Act → World → Prop} {X : List Nat} {ty : TypeId} {x y : Operand} (ho : o.op = .store ty x y)
    {g : Nat} {cells old : Array Value} {t : TypeId} (hx : a.eval x = .pointer (some ⟨g, 0, none⟩)) (hy : a.eval y = .agg cells) (hb : BX X w0 w) (hk : Blk w0 g t old) (hg : g ∈ X)
    (hi : (P.info? ty).map (·.size) = some cells.size) (hold : old.size = cells.size) (h1 : cells.all (·.oneCell') = true)
    (h : Blk (w.setRow g cells) g t cells → BX X w0 (w.setRow g cells) → K (a.put o.dst undef) (w.setRow g cells)) : o.wp P a w K Q := by
  obtain ⟨cs', h2, h3⟩ := hb.shape g hg t old hk
  exact wp_store_row ty x y ho g cells hx hy t cs' h2 hi (h3.trans hold) h1 (h (h2.row cells) (bx_row hg hk hold hb))
theorem bx_set1 {g i : Nat} {X : List Nat} {w A : World} (v : Value) (h : BX (g :: X) w A) : BX (g :: X) w (A.setCell ⟨g, i, none⟩ v) := bx_set (.inl (by simp)) v h
theorem bx_set2 {g g' i : Nat} {X : List Nat} {w A : World} (v : Value) (h : BX (g' :: g :: X) w A) : BX (g' :: g :: X) w (A.setCell ⟨g, i, none⟩ v) := bx_set (.inl (by simp)) v h
theorem bx_set3 {g g' g'' i : Nat} {X : List Nat} {w A : World} (v : Value) (h : BX (g'' :: g' :: g :: X) w A) : BX (g'' :: g' :: g :: X) w (A.setCell ⟨g, i, none⟩ v) := bx_set (.inl (by simp)) v h
theorem BX.below {X : List Nat} {w0 w A : World} (hX : ∀ g ∈ X, w0.heap.size ≤ g) (hb : Below w0.heap.size w0 w) (h : BX X w A) : Below w0.heap.size w0 A :=
  ⟨h.os.trans hb.os, h.tape.trans hb.tape, h.output.trans hb.output, Nat.le_trans hb.size h.size, fun i hi => (h.block i (Nat.lt_of_lt_of_le hi hb.size) (fun hm => by have := hX i hm; omega)).trans (hb.block i hi)⟩
theorem Blk.drew {w : World} {g : Nat} {t : TypeId} {cs : Array Value} (h : Blk w g t cs) : Blk w.drew g t cs := h
theorem Blk.drewN {w : World} {g : Nat} {t : TypeId} {cs : Array Value} (h : Blk w g t cs) (n : Nat) : Blk (w.drewN n) g t cs := h
theorem Blk.newAt {w : World} {g : Nat} {t : TypeId} {cs : Array Value} (h : g = w.heap.size) : Blk (w.alloc (.cells cs t)) g t cs := h ▸ Blk.new w t cs
theorem absR {P : Program} {c : Code} {Q : Exit → Act → World → Prop} {n : Nat} {a : Act} {w : World} {C : World → Prop} (hC : C w) (h : ∀ w0, C w0 → c.rounds P Q n a w0) : c.rounds P Q n a w := h w hC
theorem absC {P : Program} {c : Code} {Q : Exit → Act → World → Prop} {a : Act} {w : World} {C : World → Prop} (hC : C w) (h : ∀ w0, C w0 → c.wp P Q a w0) : c.wp P Q a w := h w hC
/-- A region whose last operations alone write: all else is read in one world, in the text's order. -/
theorem wp_tailC {P : Program} {id : Nat} {Q : Exit → Act → World → Prop} {a : Act} {w : World} {l : List Oper} {C : World → Prop} (n : Nat) (hm : P.follows .mixedOrders = true) (hB : Region.lexTailB .any l.toArray n = true) (hC : C w.drew)
    (h : ∀ W, C W → wpStill P l.toArray W (fun a' => wpList P l.toArray Q (l.drop n) a' W) (l.take n) a) : (Code.region id l.toArray true).wp P Q a w := wp_region_still_tail n hm hB (h w.drew hC)
theorem Blk.keep {X : List Nat} {w W : World} {g : Nat} {t : TypeId} {cs : Array Value} (h : Blk w g t cs) (hX : g ∉ X) (hb : BX X w W) : Blk W g t cs := (hb.block g h.lt hX).trans h
theorem Blk.laterX {w : World} {g : Nat} {t : TypeId} {cs : Array Value} (h : Blk w g t cs) {X : List Nat} (hX : g ∉ X) : ∀ W, BX X w W → ∀ i, W.cell? ⟨g, i, none⟩ = cs[i]? := fun _ hb i => (h.keep hX hb).cell i
/-- At a function's return: the world under a new name, one of its blocks known. -/
theorem ret1 {P : Program} {fn : Func} {R : Ending → World → Prop} {a : Act} {w : World} {g : Nat} {t : TypeId} {cs : Array Value} {C : World → Prop} (hk : Blk w g t cs) (hC : C w)
    (h : ∀ wf, Blk wf g t cs → C wf → bodyPost P fn R .ret a wf) : bodyPost P fn R .ret a w := h w hk hC
end Go.Proofs.YtephimmamkafoaaGreat
