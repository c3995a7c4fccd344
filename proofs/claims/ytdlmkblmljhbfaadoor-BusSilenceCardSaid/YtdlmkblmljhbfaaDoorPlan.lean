/-
  A region that draws its order, walked in one planned order: what only reads is taken as soon as it may come up, all else comes up one at a time.
-/
import Derived.Test.YtdlmkblmljhbfaaDoorLib
import Derived.StillTailTactics
import Derived.Lib.MinMax
namespace Go.Proofs.YtdlmkblmljhbfaaDoor
set_option linter.unusedSimpArgs false
set_option linter.unusedVariables false
open Go.RowKit

section
variable {P : Program} {ops : Array Oper} {Q : Exit → Act → World → Prop} {S : World → Prop}
/-- The walk of a plan: (i, true) yields its value in every world that meets S, (i, false) is carried out. -/
def PlanW (P : Program) (ops : Array Oper) (Q : Exit → Act → World → Prop) (S : World → Prop) : List (Nat × Bool) → Act → World → Prop
  | [], a, w => Q .normal a w
  | (i, true) :: l, a, w => ∃ o v, ops[i]? = some o ∧ YieldsIf P ops S o v a ∧ PlanW P ops Q S l (a.put o.dst v) w
  | (i, false) :: l, a, w => wpOp P ops Q i (fun a' w' => S w' ∧ PlanW P ops Q S l a' w') a w
/-- Whether a plan fits the region's edges. -/
def planOk (ops : Array Oper) : List (Nat × Bool) → Array Bool → Bool
  | [], listed => (Region.ready .any ops listed).isEmpty
  | (i, true) :: l, listed => Region.free .any ops listed i && ((Region.ready .any ops listed).contains i && planOk ops l (listed.setIfInBounds i true))
  | (i, false) :: l, listed => (Region.ready .any ops listed == [i]) && planOk ops l (listed.setIfInBounds i true)
theorem planW_any (hs : Region.noSelect ops = true) (hQ : ∀ c a w (d : Option Tmp) (v : Value), Q (.panic c) (a.put d v) w → Q (.panic c) a w) :
    ∀ (l : List (Nat × Bool)) (listed : Array Bool) (a : Act) (w : World), planOk ops l listed = true → S w → PlanW P ops Q S l a w → wpAnyH P .any ops Q S l.length listed a w
  | [], listed, a, w, hp, _, h => wpAnyH_done (by simpa [planOk] using hp) h _
  | (i, true) :: l, listed, a, w, hp, hS, h => by
    obtain ⟨o, v, ho, hy, hr⟩ := h
    simp only [planOk, Bool.and_eq_true] at hp
    exact wpAnyH_take ho hs hp.1 hp.2.1 (fun c a w h => hQ c a w _ _ h) hy hS (planW_any hs hQ l _ _ w hp.2.2 hS hr)
  | (i, false) :: l, listed, a, w, hp, _, h => by
    simp only [planOk, Bool.and_eq_true, beq_iff_eq] at hp
    refine wpAnyH_all (rs := [i]) hp.1 (by simp) fun j hj => ?_
    obtain rfl : j = i := by simpa using hj
    exact wpOp_mono (fun a' w' h' => ⟨h'.1, planW_any hs hQ l _ a' w' hp.2 h'.1 h'.2⟩) h
theorem wp_plan {id : Nat} {a : Act} {w : World} (l : List (Nat × Bool)) (S : World → Prop) (hm : P.follows .mixedOrders = true) (hs : Region.noSelect ops = true) (hl : (l.length == ops.size && planOk ops l (Array.replicate ops.size false)) = true)
    (hS : S w.drew) (h : PlanW P ops (NoPanic Q) S l a w.drew) : (Code.region id ops true).wp P Q a w := by
  simp only [Bool.and_eq_true, beq_iff_eq] at hl
  refine wp_region_noPanic (wp_region_held (S := S) hm ?_)
  rw [← hl.1] at *
  exact planW_any hs (fun _ _ _ _ _ h => h) l _ a w.drew hl.2 hS h
theorem PlanW.done {a : Act} {w : World} (h : Q .normal a w) : PlanW P ops (NoPanic Q) S [] a w := h
theorem PlanW.on {i : Nat} {l : List (Nat × Bool)} {a : Act} {w : World} {o : Oper} {v : Value} (hi : ops[i]? = some o) (hw : Region.wanted o (yielded ops a.tmps) = true)
    (hy : ∀ W, S W → (execOp a.eval o).run P W = .ok (.value v) W) (h : PlanW P ops Q S l (a.put o.dst v) w) : PlanW P ops Q S ((i, true) :: l) a w := ⟨o, v, hi, .inl ⟨hw, hy⟩, h⟩
theorem PlanW.off {i : Nat} {l : List (Nat × Bool)} {a : Act} {w : World} {o : Oper} (hi : ops[i]? = some o) (hw : Region.wanted o (yielded ops a.tmps) = false)
    (h : PlanW P ops Q S l (a.put o.dst undef) w) : PlanW P ops Q S ((i, true) :: l) a w := ⟨o, undef, hi, .inr ⟨hw, rfl⟩, h⟩
theorem PlanW.step {i : Nat} {l : List (Nat × Bool)} {a : Act} {w : World} {o : Oper} (hi : ops[i]? = some o) (hw : Region.wanted o (yielded ops a.tmps) = true)
    (h : ∀ K : Act → World → Prop, Shut (∀ a' w', S w' → (S w' → PlanW P ops Q S l a' w') → K a' w') → Oper.wp P o a w K Q) : PlanW P ops Q S ((i, false) :: l) a w :=
  wpOp_step hi fun K hK => by
    rw [if_pos hw]
    exact h K (fun a' w' hS hp => hK a' w' ⟨hS, hp hS⟩)
theorem PlanW.stepOff {i : Nat} {l : List (Nat × Bool)} {a : Act} {w : World} {o : Oper} (hi : ops[i]? = some o) (hw : Region.wanted o (yielded ops a.tmps) = false) (hS : S w)
    (h : PlanW P ops Q S l (a.put o.dst undef) w) : PlanW P ops Q S ((i, false) :: l) a w :=
  wpOp_step hi fun K hK => by
    rw [if_neg (by rw [hw]; decide)]
    exact hK _ _ ⟨hS, h⟩
end

/-- Since w all blocks that lay there are as they were, but for some. -/
structure BX (X : List Nat) (w W : World) : Prop where
  os : W.os = w.os
  tape : W.tape = w.tape
  output : W.output = w.output
  size : w.heap.size ≤ W.heap.size
  block : ∀ i, i < w.heap.size → i ∉ X → W.heap[i]? = w.heap[i]?
  shape : ∀ g ∈ X, ∀ t cs, Blk w g t cs → ∃ cs', Blk W g t cs' ∧ cs'.size = cs.size
theorem bx_refl (X : List Nat) (w : World) : BX X w w := ⟨rfl, rfl, rfl, Nat.le_refl _, fun _ _ _ => rfl, fun _ _ _ cs h => ⟨cs, h, rfl⟩⟩
theorem BX.step {X : List Nat} {w A B : World} (h : BX X w A) (h' : Below A.heap.size A B) : BX X w B :=
  ⟨h'.os.trans h.os, h'.tape.trans h.tape, h'.output.trans h.output, Nat.le_trans h.size h'.size, fun i hi hX => (h'.block i (Nat.lt_of_lt_of_le hi h.size)).trans (h.block i hi hX),
   fun g hg t cs hk => by obtain ⟨cs', h1, h2⟩ := h.shape g hg t cs hk; exact ⟨cs', h1.below h', h2⟩⟩
theorem bx_al {X : List Nat} {w A : World} (o : Obj) (h : BX X w A) : BX X w (A.alloc o) := h.step (bl_al o (bl_refl A))
theorem bx_drew {X : List Nat} {w A : World} (h : BX X w A) : BX X w A.drew := h.step (bl_drew (bl_refl A))
theorem bx_drewN {X : List Nat} {w A : World} (n : Nat) (h : BX X w A) : BX X w (A.drewN n) := h.step (bl_drewN n (bl_refl A))
theorem bx_tt {A B : World} (h' : Below A.heap.size A B) : ∀ (X : List Nat) (w : World), BX X w A → BX X w B := fun _ _ h => h.step h'
theorem bx_bl {w A : World} (X : List Nat) (h : Below w.heap.size w A) : BX X w A := (bx_refl X w).step h
theorem Blk.set {w : World} {g : Nat} {t : TypeId} {cs : Array Value} (h : Blk w g t cs) (i : Nat) (v : Value) : Blk (w.setCell ⟨g, i, none⟩ v) g t (cs.setIfInBounds i v) := by
  unfold Blk at h ⊢
  simp [World.setCell, Array.getElem?_modify, h]
theorem Blk.other {w : World} {g : Nat} {p : Addr} {t : TypeId} {cs : Array Value} (h : Blk w g t cs) (hne : g ≠ p.block) (v : Value) : Blk (w.setCell p v) g t cs := by
  unfold Blk at h ⊢
  rw [← h]
  exact Below.heap_setCell w p v g hne
theorem Blk.set2 {w : World} {g i j : Nat} {u v : Value} {t : TypeId} {cs cs' : Array Value} (h : Blk w g t cs) (e : (cs.setIfInBounds i v).setIfInBounds j u = cs') : Blk ((w.setCell ⟨g, i, none⟩ v).setCell ⟨g, j, none⟩ u) g t cs' := e ▸ (h.set i v).set j u
theorem Blk.set1 {w : World} {g i : Nat} {v : Value} {t : TypeId} {cs cs' : Array Value} (h : Blk w g t cs) (e : cs.setIfInBounds i v = cs') : Blk (w.setCell ⟨g, i, none⟩ v) g t cs' := e ▸ h.set i v
theorem bl_setA {w X : World} {i : Nat} (v : Value) (h : Below w.heap.size w X) : Below w.heap.size w (X.setCell ⟨w.heap.size, i, none⟩ v) := bl_set (Nat.le_refl _) v h
theorem bl_setB {w X : World} {i n : Nat} (v : Value) (h : Below w.heap.size w X) : Below w.heap.size w (X.setCell ⟨w.heap.size + n, i, none⟩ v) := bl_set (Nat.le_add_right _ _) v h
theorem Blk.row {w : World} {g : Nat} {t : TypeId} {cs : Array Value} (h : Blk w g t cs) (vs : Array Value) : Blk (w.setRow g vs) g t vs := setRow_heap w g cs vs t _ h
theorem Blk.rowOther {w : World} {g g' : Nat} {t : TypeId} {cs : Array Value} (h : Blk w g t cs) (hne : g ≠ g') (vs : Array Value) : Blk (w.setRow g' vs) g t cs := (setRow_other w g' g vs hne).trans h
theorem bx_set {X : List Nat} {w A : World} {g i : Nat} (hp : g ∈ X ∨ w.heap.size ≤ g) (v : Value) (h : BX X w A) : BX X w (A.setCell ⟨g, i, none⟩ v) :=
  ⟨h.os, h.tape, h.output, by simpa [World.setCell] using h.size, fun k hi hX => (Below.heap_setCell A ⟨g, i, none⟩ v k (by
    intro he
    have he : k = g := he
    rcases hp with hp | hp
    · exact hX (he ▸ hp)
    · omega)).trans (h.block k hi hX),
   fun g' hg t cs hk => by
    obtain ⟨cs', h1, h2⟩ := h.shape g' hg t cs hk
    by_cases he : g' = g
    · subst he; exact ⟨_, h1.set i v, by simpa using h2⟩
    · exact ⟨cs', h1.other (p := ⟨g, i, none⟩) he v, h2⟩⟩
theorem bx_row {X : List Nat} {w A : World} {g : Nat} {t : TypeId} {old cells : Array Value} (hg : g ∈ X) (hk : Blk w g t old) (hs : old.size = cells.size) (h : BX X w A) : BX X w (A.setRow g cells) :=
  ⟨h.os, h.tape, h.output, by simpa using h.size, fun k hi hX => (setRow_other A g k cells (fun e => hX (e ▸ hg))).trans (h.block k hi hX),
   fun g' hg' t' cs hk' => by
    obtain ⟨cs', h1, h2⟩ := h.shape g' hg' t' cs hk'
    by_cases he : g' = g
    · subst he
      refine ⟨cells, h1.row cells, ?_⟩
      unfold Blk at hk hk'
      rw [hk] at hk'
      injection hk' with hk'
      injection hk' with e _ _
      rw [← e, hs]
    · exact ⟨cs', h1.rowOther he cells, h2⟩⟩
/-- A whole variable is stored into a block that the region sets apart. -/
theorem wp_store_keep {P : Program} {o : Oper} {a : Act} {w0 w : World} {K : Act → World → Prop} {Q : Exit → Act → World → Prop} {X : List Nat} {ty : TypeId} {x y : Operand} (ho : o.op = .store ty x y)
    {g : Nat} {cells old : Array Value} {t : TypeId} (hx : a.eval x = .pointer (some ⟨g, 0, none⟩)) (hy : a.eval y = .agg cells) (hb : BX X w0 w) (hk : Blk w0 g t old) (hg : g ∈ X)
    (hi : (P.info? ty).map (·.size) = some cells.size) (hold : old.size = cells.size) (h1 : cells.all (·.oneCell') = true)
    (h : Blk (w.setRow g cells) g t cells → BX X w0 (w.setRow g cells) → K (a.put o.dst undef) (w.setRow g cells)) : o.wp P a w K Q := by
  obtain ⟨cs', h2, h3⟩ := hb.shape g hg t old hk
  exact wp_store_row ty x y ho g cells hx hy t cs' h2 hi (h3.trans hold) h1 (h (h2.row cells) (bx_row hg hk hold hb))
theorem bx_set1 {g i : Nat} {X : List Nat} {w A : World} (v : Value) (h : BX (g :: X) w A) : BX (g :: X) w (A.setCell ⟨g, i, none⟩ v) := bx_set (.inl (by simp)) v h
theorem bx_set2 {g g' i : Nat} {X : List Nat} {w A : World} (v : Value) (h : BX (g' :: g :: X) w A) : BX (g' :: g :: X) w (A.setCell ⟨g, i, none⟩ v) := bx_set (.inl (by simp)) v h
theorem bx_set3 {g g' g'' i : Nat} {X : List Nat} {w A : World} (v : Value) (h : BX (g'' :: g' :: g :: X) w A) : BX (g'' :: g' :: g :: X) w (A.setCell ⟨g, i, none⟩ v) := bx_set (.inl (by simp)) v h
theorem BX.below {X : List Nat} {w0 w A : World} (hX : ∀ g ∈ X, w0.heap.size ≤ g) (hb : Below w0.heap.size w0 w) (h : BX X w A) : Below w0.heap.size w0 A :=
  ⟨h.os.trans hb.os, h.tape.trans hb.tape, h.output.trans hb.output, Nat.le_trans hb.size h.size, fun i hi => (h.block i (Nat.lt_of_lt_of_le hi hb.size) (fun hm => by have := hX i hm; omega)).trans (hb.block i hi)⟩
theorem Blk.drew {w : World} {g : Nat} {t : TypeId} {cs : Array Value} (h : Blk w g t cs) : Blk w.drew g t cs := h
theorem Blk.drewN {w : World} {g : Nat} {t : TypeId} {cs : Array Value} (h : Blk w g t cs) (n : Nat) : Blk (w.drewN n) g t cs := h
theorem Blk.newAt {w : World} {g : Nat} {t : TypeId} {cs : Array Value} (h : g = w.heap.size) : Blk (w.alloc (.cells cs t)) g t cs := h ▸ Blk.new w t cs
theorem absR {P : Program} {c : Code} {Q : Exit → Act → World → Prop} {n : Nat} {a : Act} {w : World} {C : World → Prop} (hC : C w) (h : ∀ w0, C w0 → c.rounds P Q n a w0) : c.rounds P Q n a w := h w hC
theorem absC {P : Program} {c : Code} {Q : Exit → Act → World → Prop} {a : Act} {w : World} {C : World → Prop} (hC : C w) (h : ∀ w0, C w0 → c.wp P Q a w0) : c.wp P Q a w := h w hC
/-- A region whose last operations alone write: all else is read in one world, in the text's order. -/
theorem wp_tailC {P : Program} {id : Nat} {Q : Exit → Act → World → Prop} {a : Act} {w : World} {l : List Oper} {C : World → Prop} (n : Nat) (hm : P.follows .mixedOrders = true) (hB : Region.lexTailB .any l.toArray n = true) (hC : C w.drew)
    (h : ∀ W, C W → wpStill P l.toArray W (fun a' => wpList P l.toArray Q (l.drop n) a' W) (l.take n) a) : (Code.region id l.toArray true).wp P Q a w := wp_region_still_tail n hm hB (h w.drew hC)
theorem Blk.keep {X : List Nat} {w W : World} {g : Nat} {t : TypeId} {cs : Array Value} (h : Blk w g t cs) (hX : g ∉ X) (hb : BX X w W) : Blk W g t cs := (hb.block g h.lt hX).trans h
theorem Blk.laterX {w : World} {g : Nat} {t : TypeId} {cs : Array Value} (h : Blk w g t cs) {X : List Nat} (hX : g ∉ X) : ∀ W, BX X w W → ∀ i, W.cell? ⟨g, i, none⟩ = cs[i]? := fun _ hb i => (h.keep hX hb).cell i
/-- At a function's return: the world under a new name, one of its blocks known. -/
theorem ret1 {P : Program} {fn : Func} {R : Ending → World → Prop} {a : Act} {w : World} {g : Nat} {t : TypeId} {cs : Array Value} {C : World → Prop} (hk : Blk w g t cs) (hC : C w)
    (h : ∀ wf, Blk wf g t cs → C wf → bodyPost P fn R .ret a wf) : bodyPost P fn R .ret a w := h w hk hC
end Go.Proofs.YtdlmkblmljhbfaaDoor
