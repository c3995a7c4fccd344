/-
  Small words and lemmas on worlds that every walk of this seat uses; nothing here speaks of the program's functions.
  Plain: a string cut at a byte.
  A region that draws its order, walked in one planned order: what only reads is taken as soon as it may come up, all else comes up one at a time.
-/
import Derived.Test.YtbdgblnccjpahaaGreatDoorRows
import Derived.WalkKit
import Derived.WalkSpells
import Derived.WalkLawsBesides
import Derived.Lib.Hide
import Derived.Deep.QuietTactic
import Derived.BigQuiet
import Derived.BigRegion
import Derived.Deep.RegionHeld3
import Derived.Deep.LoopGhost
import Derived.Laws.IdiomStrings
import Derived.Lib.Bytealg
import Derived.StillTailTactics
import Derived.Lib.MinMax
set_option linter.unusedSimpArgs false
set_option linter.unusedVariables false
namespace Go.Proofs.YtbdgblnccjpahaaGreatDoor
open Go.RowKit

/-- The call hands back v, and nothing that lay there has turned. -/
def Ret (v : Value) (w : World) (e : Ending) (w' : World) : Prop := e = .returned v ∧ Below w.heap.size w w'
/-- The call hands back v and leaves the world as it was. -/
def Same (v : Value) (w : World) (e : Ending) (w' : World) : Prop := e = .returned v ∧ w = w'

theorem bl_refl (w : World) : Below w.heap.size w w := Below.refl _ _
theorem bl_al {w X : World} (o : Obj) (h : Below w.heap.size w X) : Below w.heap.size w (X.alloc o) := h.alloc h.size o
theorem bl_drew {w X : World} (h : Below w.heap.size w X) : Below w.heap.size w X.drew := ⟨h.os, h.tape, h.output, h.size, h.block⟩
theorem bl_drewN {w X : World} (n : Nat) (h : Below w.heap.size w X) : Below w.heap.size w (X.drewN n) := ⟨h.os, h.tape, h.output, h.size, h.block⟩
theorem bl_tr {w X Y : World} (h : Below w.heap.size w X) (h' : Below X.heap.size X Y) : Below w.heap.size w Y := h.trans (h'.mono h.size)
theorem bl_tt {X Y : World} (h' : Below X.heap.size X Y) : ∀ w : World, Below w.heap.size w X → Below w.heap.size w Y := fun _ h => bl_tr h h'
theorem bl_set {w X : World} {p : Addr} (hp : w.heap.size ≤ p.block) (v : Value) (h : Below w.heap.size w X) : Below w.heap.size w (X.setCell p v) := h.setCell hp v

theorem kcell {W W' : World} {p : Addr} {v : Value} (hb : Below W.heap.size W W') (h : W.cell? p = some v) : W'.cell? p = some v := (hb.cell (World.block_lt_of_cell? W p h)).trans h

/-- Block g is just these cells, none frozen. -/
def Blk (w : World) (g : Nat) (t : TypeId) (cs : Array Value) : Prop := w.heap[g]? = some (.cells cs t (0, 0))
theorem Blk.lt {w : World} {g : Nat} {t : TypeId} {cs : Array Value} (h : Blk w g t cs) : g < w.heap.size := by
  unfold Blk at h
  exact (Array.getElem?_eq_some_iff.1 h).1
theorem Blk.cell {w : World} {g : Nat} {t : TypeId} {cs : Array Value} (h : Blk w g t cs) (i : Nat) : w.cell? ⟨g, i, none⟩ = cs[i]? := by
  unfold Blk at h
  simp [World.cell?, h]
theorem Blk.frozen {w : World} {g : Nat} {t : TypeId} {cs : Array Value} (h : Blk w g t cs) (i : Nat) : w.frozen? ⟨g, i, none⟩ = false := by
  unfold Blk at h
  simp [World.frozen?, h]
theorem Blk.below {w w' : World} {g : Nat} {t : TypeId} {cs : Array Value} (h : Blk w g t cs) (hb : Below w.heap.size w w') : Blk w' g t cs := (hb.block g h.lt).trans h
theorem Blk.alloc {w : World} {g : Nat} {t : TypeId} {cs : Array Value} (h : Blk w g t cs) (o : Obj) : Blk (w.alloc o) g t cs := h.below (bl_al o (bl_refl w))
theorem Blk.new (w : World) (t : TypeId) (cs : Array Value) : Blk (w.alloc (.cells cs t)) w.heap.size t cs := by
  unfold Blk
  exact heap_alloc_new w _
/-- What a block of now holds in every later world. -/
theorem Blk.later {w : World} {g : Nat} {t : TypeId} {cs : Array Value} (h : Blk w g t cs) : ∀ W, Below w.heap.size w W → ∀ i, W.cell? ⟨g, i, none⟩ = cs[i]? := fun _ hb i => (h.below hb).cell i
theorem later {w : World} {p : Addr} {v : Value} (h : w.cell? p = some v) : ∀ W, Below w.heap.size w W → W.cell? p = some v := fun _ hb => kcell hb h

section
variable {P : Program} {c : Code} {Q : Exit → Act → World → Prop} {a : Act} {w : World}
variable {x y z u v r : Array Value} {S T U V X Y : TypeId}
end

/-- A slice's elements, each of so many cells, lie where its address says. -/
def Sl {α : Type} (cs : α → List Value) (sz : Nat) (w : World) (A : Option Addr) (l : List α) : Prop :=
  ∀ k x, l[k]? = some x → ∃ b off, A = some ⟨b, off, none⟩ ∧ ∀ j v, (cs x)[j]? = some v → w.cell? ⟨b, off + k * sz + j, none⟩ = some v
theorem Sl.below {α : Type} {cs : α → List Value} {sz : Nat} {w w' : World} {A : Option Addr} {l : List α} (h : Sl cs sz w A l) (hb : Below w.heap.size w w') : Sl cs sz w' A l := fun k x hx => by
  obtain ⟨b, off, e, hc⟩ := h k x hx
  exact ⟨b, off, e, fun j v hv => kcell hb (hc j v hv)⟩
theorem Sl.take {α : Type} {cs : α → List Value} {sz : Nat} {w : World} {A : Option Addr} {l : List α} (h : Sl cs sz w A l) (n : Nat) : Sl cs sz w A (l.take n) := fun k x hx => by
  rw [List.getElem?_take] at hx
  split at hx
  · exact h k x hx
  · simp at hx
theorem Sl.nil {α : Type} {cs : α → List Value} {sz : Nat} {w : World} {A : Option Addr} : Sl cs sz w A ([] : List α) := fun k x hx => by simp at hx

/-- A function value answers p of whatever element of l stands as enc x, in every later world. -/
def Preds (P : Program) (f : FuncId) (lb : Array Value) (w : World) {α : Type} (enc : α → Value) (l : List α) (p : α → Bool) : Prop :=
  ∀ x ∈ l, ∀ W : World, Below w.heap.size w W → Calls P f (#[enc x] ++ lb) W (Ret (.bool (p x)) W)
/-- The place of the first element of which p holds, from a number on; -1. -/
def idxF {α : Type} (p : α → Bool) : List α → Int → Int
  | [], _ => -1
  | x :: l, k => if p x then k else idxF p l (k + 1)
theorem idxF_ge {α : Type} (p : α → Bool) : ∀ (l : List α) (k : Int), 0 ≤ k → decide (0 ≤ idxF p l k) = l.any p
  | [], k, _ => by simp [idxF]
  | x :: l, k, hk => by
    have := idxF_ge p l (k + 1) (by omega)
    by_cases h : p x
    · simp [idxF, h, hk]
    · simp [idxF, h, this]
theorem idxF_drop {α : Type} (p : α → Bool) (l : List α) (k : Nat) (x : α) (hx : l[k]? = some x) : idxF p (l.drop k) k = if p x then (k : Int) else idxF p (l.drop (k + 1)) ((k : Int) + 1) := by
  have hk : k < l.length := (List.getElem?_eq_some_iff.1 hx).1
  have e : l[k] = x := (List.getElem?_eq_some_iff.1 hx).2
  rw [List.drop_eq_getElem_cons hk, e]
  rfl

end Go.Proofs.YtbdgblnccjpahaaGreatDoor
namespace Go.Proofs.YtbdgblnccjpahaaGreatDoor
open Go.RowKit
def splitC (c : UInt8) : List UInt8 → List (List UInt8)
  | [] => [[]]
  | x :: l => if x = c then [] :: splitC c l else match splitC c l with
    | h :: t => (x :: h) :: t
    | [] => [[x]]
theorem splitC_ne (c : UInt8) : ∀ l, splitC c l ≠ []
  | [] => by simp [splitC]
  | x :: l => by
    rw [splitC]
    split
    · simp
    · split <;> simp
theorem splitC_none (c : UInt8) : ∀ (l : List UInt8), Lib.indexByte l c < 0 → splitC c l = [l]
  | [], _ => rfl
  | x :: l, h => by
    have hge := Lib.indexByte_ge l c
    rw [Lib.indexByte] at h
    by_cases e : x = c
    · subst e
      simp at h
    · have e' : (x == c) = false := by simp [e]
      rw [e'] at h
      have h1 : Lib.indexByte l c < 0 := by
        rcases Decidable.em (Lib.indexByte l c = -1) with h2 | h2
        · omega
        · have : (Lib.indexByte l c == -1) = false := by simp [h2]
          rw [this] at h
          simp at h
          omega
      rw [splitC, if_neg e, splitC_none c l h1]
theorem splitC_some (c : UInt8) : ∀ (l : List UInt8) (i : Nat), Lib.indexByte l c = (i : Int) → i < l.length ∧ splitC c l = l.take i :: splitC c (l.drop (i + 1))
  | [], i, h => by simp [Lib.indexByte] at h
  | x :: l, i, h => by
    rw [Lib.indexByte] at h
    by_cases e : x = c
    · subst e
      simp at h
      obtain rfl : i = 0 := by omega
      simp [splitC]
    · have e' : (x == c) = false := by simp [e]
      rw [e'] at h
      have hge := Lib.indexByte_ge l c
      rcases Decidable.em (Lib.indexByte l c = -1) with h2 | h2
      · rw [h2] at h
        simp at h
      · have h3 : (Lib.indexByte l c == -1) = false := by simp [h2]
        rw [h3] at h
        simp only [Bool.false_eq_true, if_false] at h
        obtain ⟨j, rfl⟩ : ∃ j, i = j + 1 := ⟨i - 1, by omega⟩
        obtain ⟨h4, h5⟩ := splitC_some c l j (by omega)
        refine ⟨by simp; omega, ?_⟩
        rw [splitC, if_neg e, h5]
        simp
theorem splitC_len (c : UInt8) : ∀ l : List UInt8, (splitC c l).length ≤ l.length + 1
  | [] => by simp [splitC]
  | x :: l => by
    have ih := splitC_len c l
    rw [splitC]
    split
    · simp; omega
    · split
      · rename_i h t he
        rw [he] at ih
        simp at ih ⊢
        omega
      · simp
theorem splitC_mem (c : UInt8) : ∀ (l p : List UInt8), p ∈ splitC c l → p.length ≤ l.length
  | [], p, h => by simp [splitC] at h; subst h; simp
  | x :: l, p, h => by
    have ih := splitC_mem c l
    rw [splitC] at h
    split at h
    · rcases List.mem_cons.1 h with rfl | h
      · simp
      · have := ih p h; simp; omega
    · split at h
      · rename_i hd t he
        rcases List.mem_cons.1 h with rfl | h
        · have := ih hd (by rw [he]; simp)
          simp; omega
        · have := ih p (by rw [he]; simp [h])
          simp; omega
      · simp at h; subst h; simp
/-- What lies ahead of the first such byte, and behind it. -/
def cutC (c : UInt8) : List UInt8 → List UInt8 × List UInt8 × Bool
  | [] => ([], [], false)
  | x :: l => if x = c then ([], l, true) else (x :: (cutC c l).1, (cutC c l).2.1, (cutC c l).2.2)
theorem cutC_none (c : UInt8) : ∀ (l : List UInt8), Lib.indexByte l c < 0 → cutC c l = (l, [], false)
  | [], _ => rfl
  | x :: l, h => by
    have hge := Lib.indexByte_ge l c
    rw [Lib.indexByte] at h
    by_cases e : x = c
    · subst e
      simp at h
    · have e' : (x == c) = false := by simp [e]
      rw [e'] at h
      have h1 : Lib.indexByte l c < 0 := by
        rcases Decidable.em (Lib.indexByte l c = -1) with h2 | h2
        · omega
        · have : (Lib.indexByte l c == -1) = false := by simp [h2]
          rw [this] at h
          simp at h
          omega
      rw [cutC, if_neg e, cutC_none c l h1]
theorem cutC_some (c : UInt8) : ∀ (l : List UInt8) (i : Nat), Lib.indexByte l c = (i : Int) → i < l.length ∧ cutC c l = (l.take i, l.drop (i + 1), true)
  | [], i, h => by simp [Lib.indexByte] at h
  | x :: l, i, h => by
    rw [Lib.indexByte] at h
    by_cases e : x = c
    · subst e
      simp at h
      obtain rfl : i = 0 := by omega
      simp [cutC]
    · have e' : (x == c) = false := by simp [e]
      rw [e'] at h
      have hge := Lib.indexByte_ge l c
      rcases Decidable.em (Lib.indexByte l c = -1) with h2 | h2
      · rw [h2] at h
        simp at h
      · have h3 : (Lib.indexByte l c == -1) = false := by simp [h2]
        rw [h3] at h
        simp only [Bool.false_eq_true, if_false] at h
        obtain ⟨j, rfl⟩ : ∃ j, i = j + 1 := ⟨i - 1, by omega⟩
        obtain ⟨h4, h5⟩ := cutC_some c l j (by omega)
        refine ⟨by simp; omega, ?_⟩
        rw [cutC, if_neg e, h5]
        simp
theorem cutC_len (c : UInt8) (l : List UInt8) : (cutC c l).1.length ≤ l.length ∧ (cutC c l).2.1.length ≤ l.length := by
  induction l with
  | nil => simp [cutC]
  | cons x l ih =>
    rw [cutC]
    split
    · simp
    · simp; omega
end Go.Proofs.YtbdgblnccjpahaaGreatDoor
namespace Go.Proofs.YtbdgblnccjpahaaGreatDoor
open Go.RowKit

section
variable {P : Program} {ops : Array Oper} {Q : Exit → Act → World → Prop} {S : World → Prop}
/-- The walk of a plan: (i, true) yields its value in every world that meets S, (i, false) is carried out. -/
def PlanW (P : Program) (ops : Array Oper) (Q : Exit → Act → World → Prop) (S : World → Prop) : List (Nat × Bool) → Act → World → Prop
  | [], a, w => Q .normal a w
  | (i, true) :: l, a, w => ∃ o v, ops[i]? = some o ∧ YieldsIf P ops S o v a ∧ PlanW P ops Q S l (a.put o.dst v) w
  | (i, false) :: l, a, w => wpOp P ops Q i (fun a' w' => S w' ∧ PlanW P ops Q S l a' w') a w
/-- Whether a plan fits the region's edges. -/
def planOk (ops : Array Oper) : List (Nat × Bool) → Array Bool → Bool
  | [], listed => (Region.ready .any ops listed).isEmpty
  | (i, true) :: l, listed => Region.free .any ops listed i && ((Region.ready .any ops listed).contains i && planOk ops l (listed.setIfInBounds i true))
  | (i, false) :: l, listed => (Region.ready .any ops listed == [i]) && planOk ops l (listed.setIfInBounds i true)
theorem planW_any (hs : Region.noSelect ops = true) (hQ : ∀ c a w (d : Option Tmp) (v : Value), Q (.panic c) (a.put d v) w → Q (.panic c) a w) :
    ∀ (l : List (Nat × Bool)) (listed : Array Bool) (a : Act) (w : World), planOk ops l listed = true → S w → PlanW P ops Q S l a w → wpAnyH P .any ops Q S l.length listed a w
  | [], listed, a, w, hp, _, h => wpAnyH_done (by simpa [planOk] using hp) h _
  | (i, true) :: l, listed, a, w, hp, hS, h => by
    obtain ⟨o, v, ho, hy, hr⟩ := h
    simp only [planOk, Bool.and_eq_true] at hp
    exact wpAnyH_take ho hs hp.1 hp.2.1 (fun c a w h => hQ c a w _ _ h) hy hS (planW_any hs hQ l _ _ w hp.2.2 hS hr)
  | (i, false) :: l, listed, a, w, hp, _, h => by
    simp only [planOk, Bool.and_eq_true, beq_iff_eq] at hp
    refine wpAnyH_all (rs := [i]) hp.1 (by simp) fun j hj => ?_
    obtain rfl : j = i := by simpa using hj
    exact wpOp_mono (fun a' w' h' => ⟨h'.1, planW_any hs hQ l _ a' w' hp.2 h'.1 h'.2⟩) h
theorem PlanW.done {a : Act} {w : World} (h : Q .normal a w) : PlanW P ops (NoPanic Q) S [] a w := h
theorem PlanW.on {i : Nat} {l : List (Nat × Bool)} {a : Act} {w : World} {o : Oper} {v : Value} (hi : ops[i]? = some o) (hw : Region.wanted o (yielded ops a.tmps) = true)
    (hy : ∀ W, S W → (execOp a.eval o).run P W = .ok (.value v) W) (h : PlanW P ops Q S l (a.put o.dst v) w) : PlanW P ops Q S ((i, true) :: l) a w := ⟨o, v, hi, .inl ⟨hw, hy⟩, h⟩
theorem PlanW.off {i : Nat} {l : List (Nat × Bool)} {a : Act} {w : World} {o : Oper} (hi : ops[i]? = some o) (hw : Region.wanted o (yielded ops a.tmps) = false)
    (h : PlanW P ops Q S l (a.put o.dst undef) w) : PlanW P ops Q S ((i, true) :: l) a w := ⟨o, undef, hi, .inr ⟨hw, rfl⟩, h⟩
theorem PlanW.step {i : Nat} {l : List (Nat × Bool)} {a : Act} {w : World} {o : Oper} (hi : ops[i]? = some o) (hw : Region.wanted o (yielded ops a.tmps) = true)
    (h : ∀ K : Act → World → Prop, Shut (∀ a' w', S w' → (S w' → PlanW P ops Q S l a' w') → K a' w') → Oper.wp P o a w K Q) : PlanW P ops Q S ((i, false) :: l) a w :=
  wpOp_step hi fun K hK => by
    rw [if_pos hw]
    exact h K (fun a' w' hS hp => hK a' w' ⟨hS, hp hS⟩)
end

/-- Since w all blocks that lay there are as they were, but for some. -/
structure BX (X : List Nat) (w W : World) : Prop where
  os : W.os = w.os
  tape : W.tape = w.tape
  output : W.output = w.output
  size : w.heap.size ≤ W.heap.size
  block : ∀ i, i < w.heap.size → i ∉ X → W.heap[i]? = w.heap[i]?
  shape : ∀ g ∈ X, ∀ t cs, Blk w g t cs → ∃ cs', Blk W g t cs' ∧ cs'.size = cs.size
theorem bx_refl (X : List Nat) (w : World) : BX X w w := ⟨rfl, rfl, rfl, Nat.le_refl _, fun _ _ _ => rfl, fun _ _ _ cs h => ⟨cs, h, rfl⟩⟩
theorem BX.step {X : List Nat} {w A B : World} (h : BX X w A) (h' : Below A.heap.size A B) : BX X w B :=
  ⟨h'.os.trans h.os, h'.tape.trans h.tape, h'.output.trans h.output, Nat.le_trans h.size h'.size, fun i hi hX => (h'.block i (Nat.lt_of_lt_of_le hi h.size)).trans (h.block i hi hX),
   fun g hg t cs hk => by obtain ⟨cs', h1, h2⟩ := h.shape g hg t cs hk; exact ⟨cs', h1.below h', h2⟩⟩
theorem bx_al {X : List Nat} {w A : World} (o : Obj) (h : BX X w A) : BX X w (A.alloc o) := h.step (bl_al o (bl_refl A))
theorem bx_drew {X : List Nat} {w A : World} (h : BX X w A) : BX X w A.drew := h.step (bl_drew (bl_refl A))
theorem bx_drewN {X : List Nat} {w A : World} (n : Nat) (h : BX X w A) : BX X w (A.drewN n) := h.step (bl_drewN n (bl_refl A))
theorem bx_bl {w A : World} (X : List Nat) (h : Below w.heap.size w A) : BX X w A := (bx_refl X w).step h
theorem Blk.set {w : World} {g : Nat} {t : TypeId} {cs : Array Value} (h : Blk w g t cs) (i : Nat) (v : Value) : Blk (w.setCell ⟨g, i, none⟩ v) g t (cs.setIfInBounds i v) := by
  unfold Blk at h ⊢
  simp [World.setCell, Array.getElem?_modify, h]
theorem Blk.other {w : World} {g : Nat} {p : Addr} {t : TypeId} {cs : Array Value} (h : Blk w g t cs) (hne : g ≠ p.block) (v : Value) : Blk (w.setCell p v) g t cs := by
  unfold Blk at h ⊢
  rw [← h]
  exact Below.heap_setCell w p v g hne
theorem Blk.set1 {w : World} {g i : Nat} {v : Value} {t : TypeId} {cs cs' : Array Value} (h : Blk w g t cs) (e : cs.setIfInBounds i v = cs') : Blk (w.setCell ⟨g, i, none⟩ v) g t cs' := e ▸ h.set i v
theorem Blk.row {w : World} {g : Nat} {t : TypeId} {cs : Array Value} (h : Blk w g t cs) (vs : Array Value) : Blk (w.setRow g vs) g t vs := setRow_heap w g cs vs t _ h
theorem Blk.rowOther {w : World} {g g' : Nat} {t : TypeId} {cs : Array Value} (h : Blk w g t cs) (hne : g ≠ g') (vs : Array Value) : Blk (w.setRow g' vs) g t cs := (setRow_other w g' g vs hne).trans h
theorem bx_set {X : List Nat} {w A : World} {g i : Nat} (hp : g ∈ X ∨ w.heap.size ≤ g) (v : Value) (h : BX X w A) : BX X w (A.setCell ⟨g, i, none⟩ v) :=
  ⟨h.os, h.tape, h.output, by simpa [World.setCell] using h.size, fun k hi hX => (Below.heap_setCell A ⟨g, i, none⟩ v k (by
    intro he
    have he : k = g := he
    rcases hp with hp | hp
    · exact hX (he ▸ hp)
    · omega)).trans (h.block k hi hX),
   fun g' hg t cs hk => by
    obtain ⟨cs', h1, h2⟩ := h.shape g' hg t cs hk
    by_cases he : g' = g
    · subst he; exact ⟨_, h1.set i v, by simpa using h2⟩
    · exact ⟨cs', h1.other (p := ⟨g, i, none⟩) he v, h2⟩⟩
theorem bx_row {X : List Nat} {w A : World} {g : Nat} {t : TypeId} {old cells : Array Value} (hg : g ∈ X) (hk : Blk w g t old) (hs : old.size = cells.size) (h : BX X w A) : BX X w (A.setRow g cells) :=
  ⟨h.os, h.tape, h.output, by simpa using h.size, fun k hi hX => (setRow_other A g k cells (fun e => hX (e ▸ hg))).trans (h.block k hi hX),
   fun g' hg' t' cs hk' => by
    obtain ⟨cs', h1, h2⟩ := h.shape g' hg' t' cs hk'
    by_cases he : g' = g
    · subst he
      refine ⟨cells, h1.row cells, ?_⟩
      unfold Blk at hk hk'
      rw [hk] at hk'
      injection hk' with hk'
      injection hk' with e _ _
      rw [← e, hs]
    · exact ⟨cs', h1.rowOther he cells, h2⟩⟩
/-- A whole variable is stored into a block that the region sets apart. -/
theorem wp_store_keep {P : Program} {o : Oper} {a : Act} {w0 w : World} {K : Act → World → Prop} {Q : Exit → Act → World → Prop} {X : List Nat} {ty : TypeId} {x y : Operand} (ho : o.op = .store ty x y)
    {g : Nat} {cells old : Array Value} {t : TypeId} (hx : a.eval x = .pointer (some ⟨g, 0, none⟩)) (hy : a.eval y = .agg cells) (hb : BX X w0 w) (hk : Blk w0 g t old) (hg : g ∈ X)
    (hi : (P.info? ty).map (·.size) = some cells.size) (hold : old.size = cells.size) (h1 : cells.all (·.oneCell') = true)
    (h : Blk (w.setRow g cells) g t cells → BX X w0 (w.setRow g cells) → K (a.put o.dst undef) (w.setRow g cells)) : o.wp P a w K Q := by
  obtain ⟨cs', h2, h3⟩ := hb.shape g hg t old hk
  exact wp_store_row ty x y ho g cells hx hy t cs' h2 hi (h3.trans hold) h1 (h (h2.row cells) (bx_row hg hk hold hb))
theorem BX.below {X : List Nat} {w0 w A : World} (hX : ∀ g ∈ X, w0.heap.size ≤ g) (hb : Below w0.heap.size w0 w) (h : BX X w A) : Below w0.heap.size w0 A :=
  ⟨h.os.trans hb.os, h.tape.trans hb.tape, h.output.trans hb.output, Nat.le_trans hb.size h.size, fun i hi => (h.block i (Nat.lt_of_lt_of_le hi hb.size) (fun hm => by have := hX i hm; omega)).trans (hb.block i hi)⟩
theorem Blk.drew {w : World} {g : Nat} {t : TypeId} {cs : Array Value} (h : Blk w g t cs) : Blk w.drew g t cs := h
theorem Blk.drewN {w : World} {g : Nat} {t : TypeId} {cs : Array Value} (h : Blk w g t cs) (n : Nat) : Blk (w.drewN n) g t cs := h
theorem Blk.newAt {w : World} {g : Nat} {t : TypeId} {cs : Array Value} (h : g = w.heap.size) : Blk (w.alloc (.cells cs t)) g t cs := h ▸ Blk.new w t cs
theorem Blk.keep {X : List Nat} {w W : World} {g : Nat} {t : TypeId} {cs : Array Value} (h : Blk w g t cs) (hX : g ∉ X) (hb : BX X w W) : Blk W g t cs := (hb.block g h.lt hX).trans h
theorem Blk.laterX {w : World} {g : Nat} {t : TypeId} {cs : Array Value} (h : Blk w g t cs) {X : List Nat} (hX : g ∉ X) : ∀ W, BX X w W → ∀ i, W.cell? ⟨g, i, none⟩ = cs[i]? := fun _ hb i => (h.keep hX hb).cell i
end Go.Proofs.YtbdgblnccjpahaaGreatDoor
