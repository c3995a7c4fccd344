/-
  Small words and lemmas on worlds that every walk of this seat uses; nothing here speaks of the program's functions.
-/
import Derived.Test.YtdlmkblmljhbfaaDoorRows
import Derived.WalkKit
import Derived.WalkSpells
import Derived.WalkLawsBesides
import Derived.Lib.Hide
import Derived.Deep.QuietTactic
import Derived.BigQuiet
import Derived.BigRegion
import Derived.Deep.RegionHeld3
import Derived.Deep.LoopGhost
import Derived.Laws.IdiomStrings
namespace Go.Proofs.YtdlmkblmljhbfaaDoor
set_option linter.unusedSimpArgs false
set_option linter.unusedVariables false
open Go.RowKit

/-- The call hands back v, and nothing that lay there has turned. -/
def Ret (v : Value) (w : World) (e : Ending) (w' : World) : Prop := e = .returned v ∧ Below w.heap.size w w'
/-- The call hands back v and leaves the world as it was. -/
def Same (v : Value) (w : World) (e : Ending) (w' : World) : Prop := e = .returned v ∧ w = w'

theorem bl_refl (w : World) : Below w.heap.size w w := Below.refl _ _
theorem bl_al {w X : World} (o : Obj) (h : Below w.heap.size w X) : Below w.heap.size w (X.alloc o) := h.alloc h.size o
theorem bl_drew {w X : World} (h : Below w.heap.size w X) : Below w.heap.size w X.drew := ⟨h.os, h.tape, h.output, h.size, h.block⟩
theorem bl_drewN {w X : World} (n : Nat) (h : Below w.heap.size w X) : Below w.heap.size w (X.drewN n) := ⟨h.os, h.tape, h.output, h.size, h.block⟩
theorem bl_tr {w X Y : World} (h : Below w.heap.size w X) (h' : Below X.heap.size X Y) : Below w.heap.size w Y := h.trans (h'.mono h.size)
theorem bl_tt {X Y : World} (h' : Below X.heap.size X Y) : ∀ w : World, Below w.heap.size w X → Below w.heap.size w Y := fun _ h => bl_tr h h'
theorem bl_set {w X : World} {p : Addr} (hp : w.heap.size ≤ p.block) (v : Value) (h : Below w.heap.size w X) : Below w.heap.size w (X.setCell p v) := h.setCell hp v

theorem kcell {W W' : World} {p : Addr} {v : Value} (hb : Below W.heap.size W W') (h : W.cell? p = some v) : W'.cell? p = some v := (hb.cell (World.block_lt_of_cell? W p h)).trans h

/-- Block g is just these cells, none frozen. -/
def Blk (w : World) (g : Nat) (t : TypeId) (cs : Array Value) : Prop := w.heap[g]? = some (.cells cs t (0, 0))
theorem Blk.lt {w : World} {g : Nat} {t : TypeId} {cs : Array Value} (h : Blk w g t cs) : g < w.heap.size := by
  unfold Blk at h
  exact (Array.getElem?_eq_some_iff.1 h).1
theorem Blk.cell {w : World} {g : Nat} {t : TypeId} {cs : Array Value} (h : Blk w g t cs) (i : Nat) : w.cell? ⟨g, i, none⟩ = cs[i]? := by
  unfold Blk at h
  simp [World.cell?, h]
theorem Blk.frozen {w : World} {g : Nat} {t : TypeId} {cs : Array Value} (h : Blk w g t cs) (i : Nat) : w.frozen? ⟨g, i, none⟩ = false := by
  unfold Blk at h
  simp [World.frozen?, h]
theorem Blk.below {w w' : World} {g : Nat} {t : TypeId} {cs : Array Value} (h : Blk w g t cs) (hb : Below w.heap.size w w') : Blk w' g t cs := (hb.block g h.lt).trans h
theorem Blk.alloc {w : World} {g : Nat} {t : TypeId} {cs : Array Value} (h : Blk w g t cs) (o : Obj) : Blk (w.alloc o) g t cs := h.below (bl_al o (bl_refl w))
theorem Blk.new (w : World) (t : TypeId) (cs : Array Value) : Blk (w.alloc (.cells cs t)) w.heap.size t cs := by
  unfold Blk
  exact heap_alloc_new w _
/-- What a block of now holds in every later world. -/
theorem Blk.later {w : World} {g : Nat} {t : TypeId} {cs : Array Value} (h : Blk w g t cs) : ∀ W, Below w.heap.size w W → ∀ i, W.cell? ⟨g, i, none⟩ = cs[i]? := fun _ hb i => (h.below hb).cell i
theorem later {w : World} {p : Addr} {v : Value} (h : w.cell? p = some v) : ∀ W, Below w.heap.size w W → W.cell? p = some v := fun _ hb => kcell hb h

section
variable {P : Program} {c : Code} {Q : Exit → Act → World → Prop} {a : Act} {w : World}
variable {x y z u v r : Array Value} {S T U V X Y : TypeId}
theorem abs1 (h : ∀ w0, Below w.heap.size w w0 → Blk w0 w.heap.size S x → c.wp P Q a w0) : c.wp P Q a (w.alloc (.cells x S)) := by
  have k0 := Blk.new w S x
  exact h _ (bl_al _ (bl_refl w)) k0
theorem abs2 (h : ∀ w0, Below w.heap.size w w0 → Blk w0 w.heap.size S x → Blk w0 (w.heap.size + 1) T y → c.wp P Q a w0) : c.wp P Q a ((w.alloc (.cells x S)).alloc (.cells y T)) := by
  have k0 := Blk.new w S x
  have k1 := Blk.new (w.alloc (.cells x S)) T y
  simp only [World.size_alloc] at k1
  exact h _ (bl_al _ (bl_al _ (bl_refl w))) (k0.alloc _) k1
theorem abs3 (h : ∀ w0, Below w.heap.size w w0 → Blk w0 w.heap.size S x → Blk w0 (w.heap.size + 1) T y → Blk w0 (w.heap.size + 2) U z → c.wp P Q a w0) : c.wp P Q a (((w.alloc (.cells x S)).alloc (.cells y T)).alloc (.cells z U)) := by
  have k0 := Blk.new w S x
  have k1 := Blk.new (w.alloc (.cells x S)) T y
  have k2 := Blk.new ((w.alloc (.cells x S)).alloc (.cells y T)) U z
  simp only [World.size_alloc] at k1 k2
  exact h _ (bl_al _ (bl_al _ (bl_al _ (bl_refl w)))) ((k0.alloc _).alloc _) (k1.alloc _) k2
theorem abs4 (h : ∀ w0, Below w.heap.size w w0 → Blk w0 w.heap.size S x → Blk w0 (w.heap.size + 1) T y → Blk w0 (w.heap.size + 2) U z → Blk w0 (w.heap.size + 3) V u → c.wp P Q a w0) : c.wp P Q a ((((w.alloc (.cells x S)).alloc (.cells y T)).alloc (.cells z U)).alloc (.cells u V)) := by
  have k0 := Blk.new w S x
  have k1 := Blk.new (w.alloc (.cells x S)) T y
  have k2 := Blk.new ((w.alloc (.cells x S)).alloc (.cells y T)) U z
  have k3 := Blk.new (((w.alloc (.cells x S)).alloc (.cells y T)).alloc (.cells z U)) V u
  simp only [World.size_alloc] at k1 k2 k3
  exact h _ (bl_al _ (bl_al _ (bl_al _ (bl_al _ (bl_refl w))))) (((k0.alloc _).alloc _).alloc _) ((k1.alloc _).alloc _) (k2.alloc _) k3
theorem abs5 (h : ∀ w0, Below w.heap.size w w0 → Blk w0 w.heap.size S x → Blk w0 (w.heap.size + 1) T y → Blk w0 (w.heap.size + 2) U z → Blk w0 (w.heap.size + 3) V u → Blk w0 (w.heap.size + 4) X v → c.wp P Q a w0) : c.wp P Q a (((((w.alloc (.cells x S)).alloc (.cells y T)).alloc (.cells z U)).alloc (.cells u V)).alloc (.cells v X)) := by
  have k0 := Blk.new w S x
  have k1 := Blk.new (w.alloc (.cells x S)) T y
  have k2 := Blk.new ((w.alloc (.cells x S)).alloc (.cells y T)) U z
  have k3 := Blk.new (((w.alloc (.cells x S)).alloc (.cells y T)).alloc (.cells z U)) V u
  have k4 := Blk.new ((((w.alloc (.cells x S)).alloc (.cells y T)).alloc (.cells z U)).alloc (.cells u V)) X v
  simp only [World.size_alloc] at k1 k2 k3 k4
  exact h _ (bl_al _ (bl_al _ (bl_al _ (bl_al _ (bl_al _ (bl_refl w)))))) ((((k0.alloc _).alloc _).alloc _).alloc _) (((k1.alloc _).alloc _).alloc _) ((k2.alloc _).alloc _) (k3.alloc _) k4
theorem abs6 (h : ∀ w0, Below w.heap.size w w0 → Blk w0 w.heap.size S x → Blk w0 (w.heap.size + 1) T y → Blk w0 (w.heap.size + 2) U z → Blk w0 (w.heap.size + 3) V u → Blk w0 (w.heap.size + 4) X v → Blk w0 (w.heap.size + 5) Y r → c.wp P Q a w0) : c.wp P Q a ((((((w.alloc (.cells x S)).alloc (.cells y T)).alloc (.cells z U)).alloc (.cells u V)).alloc (.cells v X)).alloc (.cells r Y)) := by
  have k0 := Blk.new w S x
  have k1 := Blk.new (w.alloc (.cells x S)) T y
  have k2 := Blk.new ((w.alloc (.cells x S)).alloc (.cells y T)) U z
  have k3 := Blk.new (((w.alloc (.cells x S)).alloc (.cells y T)).alloc (.cells z U)) V u
  have k4 := Blk.new ((((w.alloc (.cells x S)).alloc (.cells y T)).alloc (.cells z U)).alloc (.cells u V)) X v
  have k5 := Blk.new (((((w.alloc (.cells x S)).alloc (.cells y T)).alloc (.cells z U)).alloc (.cells u V)).alloc (.cells v X)) Y r
  simp only [World.size_alloc] at k1 k2 k3 k4 k5
  exact h _ (bl_al _ (bl_al _ (bl_al _ (bl_al _ (bl_al _ (bl_al _ (bl_refl w))))))) (((((k0.alloc _).alloc _).alloc _).alloc _).alloc _) ((((k1.alloc _).alloc _).alloc _).alloc _) (((k2.alloc _).alloc _).alloc _) ((k3.alloc _).alloc _) (k4.alloc _) k5
end

/-- A slice's elements, each of so many cells, lie where its address says. -/
def Sl {α : Type} (cs : α → List Value) (sz : Nat) (w : World) (A : Option Addr) (l : List α) : Prop :=
  ∀ k x, l[k]? = some x → ∃ b off, A = some ⟨b, off, none⟩ ∧ ∀ j v, (cs x)[j]? = some v → w.cell? ⟨b, off + k * sz + j, none⟩ = some v
theorem Sl.below {α : Type} {cs : α → List Value} {sz : Nat} {w w' : World} {A : Option Addr} {l : List α} (h : Sl cs sz w A l) (hb : Below w.heap.size w w') : Sl cs sz w' A l := fun k x hx => by
  obtain ⟨b, off, e, hc⟩ := h k x hx
  exact ⟨b, off, e, fun j v hv => kcell hb (hc j v hv)⟩
theorem Sl.take {α : Type} {cs : α → List Value} {sz : Nat} {w : World} {A : Option Addr} {l : List α} (h : Sl cs sz w A l) (n : Nat) : Sl cs sz w A (l.take n) := fun k x hx => by
  rw [List.getElem?_take] at hx
  split at hx
  · exact h k x hx
  · simp at hx
theorem Sl.nil {α : Type} {cs : α → List Value} {sz : Nat} {w : World} {A : Option Addr} : Sl cs sz w A ([] : List α) := fun k x hx => by simp at hx

/-- A function value answers p of whatever element of l stands as enc x, in every later world. -/
def Preds (P : Program) (f : FuncId) (lb : Array Value) (w : World) {α : Type} (enc : α → Value) (l : List α) (p : α → Bool) : Prop :=
  ∀ x ∈ l, ∀ W : World, Below w.heap.size w W → Calls P f (#[enc x] ++ lb) W (Ret (.bool (p x)) W)
/-- The place of the first element of which p holds, from a number on; -1. -/
def idxF {α : Type} (p : α → Bool) : List α → Int → Int
  | [], _ => -1
  | x :: l, k => if p x then k else idxF p l (k + 1)
theorem idxF_ge {α : Type} (p : α → Bool) : ∀ (l : List α) (k : Int), 0 ≤ k → decide (0 ≤ idxF p l k) = l.any p
  | [], k, _ => by simp [idxF]
  | x :: l, k, hk => by
    have := idxF_ge p l (k + 1) (by omega)
    by_cases h : p x
    · simp [idxF, h, hk]
    · simp [idxF, h, this]
theorem idxF_drop {α : Type} (p : α → Bool) (l : List α) (k : Nat) (x : α) (hx : l[k]? = some x) : idxF p (l.drop k) k = if p x then (k : Int) else idxF p (l.drop (k + 1)) ((k : Int) + 1) := by
  have hk : k < l.length := (List.getElem?_eq_some_iff.1 hx).1
  have e : l[k] = x := (List.getElem?_eq_some_iff.1 hx).2
  rw [List.drop_eq_getElem_cons hk, e]
  rfl

/-- '[]byte(s)': a new block that holds the bytes. -/
theorem bytes_conv {P : Program} {src dst e : TypeId} (s : ByteArray) (hs : P.underlying src = some .string) (hd : P.underlying dst = some (.slice e)) (he : P.underlying e = some (.int .u8)) (w : World) :
    ∃ cap w1, (convert src dst (.string s)).run P w = .ok (.slice (some ⟨w.heap.size, 0, none⟩) s.size cap) w1 ∧ Below w.heap.size w w1 ∧
      ∀ (j : Nat) (c : UInt8), s.data.toList[j]? = some c → w1.cell? ⟨w.heap.size, j, none⟩ = some (.int .u8 (c.toNat : Nat)) := by
  refine ⟨_, _, run_bytes_of_string w src dst e s hs hd he, bl_al _ (bl_drew (bl_refl w)), fun j c hc => ?_⟩
  have hj : j < s.data.size := by have := (List.getElem?_eq_some_iff.1 hc).1; simpa using this
  have h1 := bytesRow_at s (grownCap w s.size 0 e) j hj
  have h2 : s.data[j] = c := by
    have := (List.getElem?_eq_some_iff.1 hc).2
    simpa using this
  rw [h2] at h1
  exact (World.cell?_alloc_mark w.drew _ _ _ j).trans h1
end Go.Proofs.YtdlmkblmljhbfaaDoor
