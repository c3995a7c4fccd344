/-
  A region that draws its order, in whatever order: each operation is walked once, knowing only what it waits for. Blocks that are made within it have numbers that depend on the order: they are ghosts.
  The world under a new name: what is known of it is that nothing old turned, and some of its blocks.
  A region that draws its order, in whatever order, within a round of a range over a function: each operation is carried out there as anywhere.
  A loop over a bound method that is an iterator: its body, walked once, goes on; a round may turn the caller's own blocks X alone.
-/
import Derived.Test.YtbdgblnccjpahaaGreatDoorUO1
import Derived.StillTail
import Derived.Deep.Cut
import Derived.LoopNIn
import Derived.RangeFuncNested
import Derived.RangeFuncCalls
import Derived.OrdersIn
import Derived.RangeFuncLeaves
set_option linter.unusedSimpArgs false
set_option linter.unusedVariables false
namespace Go.Proofs.YtbdgblnccjpahaaGreatDoor
open Go.RowKit

structure Gh where
  n : Nat
  v : Value
  A : Option Addr
  c : Nat
/-- What an operation leaves: its value, a fact on the world, the blocks that it makes. -/
structure Sp where
  val : (Nat → Gh) → Value
  R : (Nat → Gh) → World → Prop
  bl : Gh → List Nat
def gh0 : Gh := ⟨0, undef, none, 0⟩
def sp0 : Sp := ⟨fun _ => undef, fun _ _ => True, fun _ => []⟩
def spAt (h : List Sp) (j : Nat) : Sp := h.getD j sp0
def putD (a : Act) : List (Option Tmp) → Nat → (Nat → Value) → Act
  | [], _, _ => a
  | d :: l, k, u => putD (a.put d (u k)) l (k + 1) u
def up {α : Type} (u : Nat → α) (i : Nat) (v : α) : Nat → α := fun j => if j = i then v else u j
def Known1 (h : List Sp) (γ : Nat → Gh) (u : Nat → Value) (w0 W : World) (j : Nat) : Prop :=
  u j = (spAt h j).val γ ∧ (spAt h j).R γ W ∧ ∀ x ∈ (spAt h j).bl (γ j), w0.heap.size ≤ x ∧ x < W.heap.size
def Known (h : List Sp) (γ : Nat → Gh) (u : Nat → Value) (w0 W : World) : List Nat → Prop
  | [] => True
  | j :: l => Known1 h γ u w0 W j ∧ Known h γ u w0 W l
theorem Known.of {h : List Sp} {γ : Nat → Gh} {u : Nat → Value} {w0 W : World} : ∀ {l : List Nat}, (∀ j ∈ l, Known1 h γ u w0 W j) → Known h γ u w0 W l
  | [], _ => trivial
  | j :: l, H => ⟨H j (by simp), Known.of fun k hk => H k (by simp [hk])⟩
def look : List Sp → Nat → (Sp → Prop) → Prop
  | [], _, f => f sp0
  | s :: _, 0, f => f s
  | _ :: l, k + 1, f => look l k f
theorem look_eq : ∀ (h : List Sp) (j : Nat) (f : Sp → Prop), look h j f = f (spAt h j)
  | [], _, _ => rfl
  | _ :: _, 0, _ => rfl
  | _ :: l, k + 1, f => by rw [look, look_eq l k f]; rfl
/-- As Known, in a form that unfolds by itself. -/
def KnownL (h : List Sp) (γ : Nat → Gh) (u : Nat → Value) (w0 W : World) : List Nat → Prop
  | [] => True
  | j :: l => look h j (fun s => u j = s.val γ ∧ s.R γ W ∧ ∀ x ∈ s.bl (γ j), w0.heap.size ≤ x ∧ x < W.heap.size) ∧ KnownL h γ u w0 W l
theorem Known.toL {h : List Sp} {γ : Nat → Gh} {u : Nat → Value} {w0 W : World} : ∀ {l : List Nat}, Known h γ u w0 W l → KnownL h γ u w0 W l
  | [], _ => trivial
  | j :: l, H => ⟨by rw [look_eq]; exact H.1, Known.toL H.2⟩
def Cong (C : List Nat) (i : Nat) (s : Sp) : Prop := ∀ γ γ' : Nat → Gh, (∀ j, j = i ∨ j ∈ C → γ j = γ' j) → s.val γ = s.val γ' ∧ ∀ W, s.R γ W → s.R γ' W
def OpW (P : Program) (ops : Array Oper) (Q : Exit → Act → World → Prop) (i : Nat) (o : Oper) (s : Sp) (γ : Nat → Gh) (a : Act) (W : World) : Prop :=
  wpOp P ops Q i (fun a' W' => ∃ g, a' = a.put o.dst (s.val (up γ i g)) ∧ Below W.heap.size W W' ∧ s.R (up γ i g) W' ∧ ∀ x ∈ s.bl g, W.heap.size ≤ x ∧ x < W'.heap.size) a W
/-- An operation that only reads, and reads nothing that the region stores. -/
def LateOK (P : Program) (ops : Array Oper) (w0 : World) (A : (Nat → Value) → Act) (X : (Nat → Gh) → List Nat) (D : List (List Nat)) (h : List Sp) (i : Nat) (s : Sp) : Prop :=
  ∀ γ u Wm W, Below w0.heap.size w0 Wm → Known h γ u w0 Wm (D.getD i []) → BX (X γ) Wm W → ∃ o, ops[i]? = some o ∧
    ((Region.wanted o (yielded ops (A u).tmps) = true ∧ (execOp (A u).eval o).run P W = .ok (.value (s.val γ)) W) ∨ (Region.wanted o (yielded ops (A u).tmps) = false ∧ s.val γ = undef))
structure Parts where
  tail : List Nat
  late : List Nat
  ds : List (Option Tmp)
  C : List (List Nat)
  D : List (List Nat)
def OpOK (P : Program) (ops : Array Oper) (Q : Exit → Act → World → Prop) (w0 : World) (A : (Nat → Value) → Act) (X : (Nat → Gh) → List Nat) (p : Parts) (h : List Sp) (i : Nat) (s : Sp) : Prop :=
  Cong (p.C.getD i []) i s ∧ (∀ γ W W', Below W.heap.size W W' → s.R γ W → s.R γ W') ∧
  (∀ γ u W, Below w0.heap.size w0 W → Known h γ u w0 W (p.D.getD i []) → ∃ o, ops[i]? = some o ∧ OpW P ops Q i o s γ (A u) W) ∧
  (p.late.contains i = true → s.bl = (fun _ => []) ∧ s.R = (fun _ _ => True) ∧ LateOK P ops w0 A X p.D h i s)
def heads (n : Nat) (tail : List Nat) : List Nat := (List.range n).filter fun i => !tail.contains i
def Fin (P : Program) (ops : Array Oper) (Q : Exit → Act → World → Prop) (w0 : World) (A : (Nat → Value) → Act) (X : (Nat → Gh) → List Nat) (p : Parts) (h : List Sp) : Prop :=
  ∀ γ u W, Below w0.heap.size w0 W → Known h γ u w0 W (heads ops.size p.tail) →
    (∀ i j, !p.tail.contains i → !p.tail.contains j → i < ops.size → j < ops.size → i ≠ j → ∀ x ∈ (spAt h i).bl (γ i), ∀ y ∈ (spAt h j).bl (γ j), x ≠ y) →
    PlanW P ops Q (fun W' => BX (X γ) W W') (p.tail.map fun t => (t, false)) (A u) W
def RGW (P : Program) (ops : Array Oper) (Q : Exit → Act → World → Prop) (w0 : World) (A : (Nat → Value) → Act) (X : (Nat → Gh) → List Nat) (p : Parts) : Nat → List Sp → Prop
  | 0, h => Fin P ops Q w0 A X p h
  | k + 1, h => ∃ s, (p.tail.contains h.length = false → OpOK P ops Q w0 A X p h h.length s) ∧ RGW P ops Q w0 A X p k (h ++ [s])

def headA (n : Nat) (tail : List Nat) : Array Bool := ((List.range n).map fun i => !tail.contains i).toArray
/-- Whether the lists fit the region's edges. -/
def anyOk (ops : Array Oper) (p : Parts) : Bool :=
  decide (p.ds.length = ops.size) && Region.noSelect ops
  && (List.range ops.size).all (fun i => p.tail.contains i || match ops[i]? with
    | none => false
    | some o => decide (o.dst = p.ds.getD i none)
      && o.after.all (fun e => !Region.binds .any e || (decide (e.on < i) && !p.tail.contains e.on && (p.late.contains i || !p.late.contains e.on)))
      && (p.D.getD i []).all (fun j => (p.C.getD i []).contains j && decide (j < i)))
  && (List.range ops.size).all (fun i => match ops[i]? with
    | none => false
    | some o => (p.C.getD i []).all (fun j => o.after.any fun e => Region.binds .any e && (decide (e.on = j) || (!p.tail.contains e.on && (p.C.getD e.on []).contains j))))
  && (List.range ops.size).all (fun i => (List.range ops.size).all fun j => decide (i = j) || (p.ds.getD i none).isNone || decide (p.ds.getD i none ≠ p.ds.getD j none))
  && (match p.tail with
    | [] => true
    | t :: l => (List.range ops.size).all (fun i => p.tail.contains i || p.late.contains i || (p.C.getD t []).contains i) && (l.all fun t' => match ops[t']? with
      | none => false
      | some o => o.after.any fun e => Region.binds .any e && p.tail.contains e.on))
  && (p.late.all fun i => match ops[i]? with
    | none => false
    | some oi => (p.late ++ p.tail).all fun j => decide (i = j) || match ops[j]? with
      | none => true
      | some oj => (oj.after.any fun e => Region.binds .any e && decide (e.on = i)) || ((oi.after.any fun e => Region.binds .any e && decide (e.on = j)) || oi.apart ops oj))
  && (p.late.all fun i => !p.tail.contains i && decide (i < ops.size)) && (p.tail.all fun i => decide (i < ops.size))
  && planOk ops (p.tail.map fun t => (t, false)) (headA ops.size p.tail)
  && decide ((List.range ops.size).countP (fun j => !p.tail.contains j) + p.tail.length = ops.size)

section
variable {P : Program} {ops : Array Oper} {Q : Exit → Act → World → Prop}

theorem putD_put : ∀ (l : List (Option Tmp)) (a : Act) (k : Nat) (u : Nat → Value) (d : Option Tmp) (v : Value), (∀ x ∈ l, d.isSome → x ≠ d) → (putD a l k u).put d v = putD (a.put d v) l k u
  | [], _, _, _, _, _, _ => rfl
  | x :: l, a, k, u, d, v, h => by
    unfold putD
    rw [putD_put l _ _ _ _ _ (fun y hy => h y (by simp [hy])), Act.put_comm]
    intro t hx hd
    exact h x (by simp) (by simp [hd]) (by rw [hx, hd])
theorem putD_congr : ∀ (l : List (Option Tmp)) (a : Act) (k : Nat) (u u' : Nat → Value), (∀ j, k ≤ j → u j = u' j) → putD a l k u = putD a l k u'
  | [], _, _, _, _, _ => rfl
  | x :: l, a, k, u, u', h => by
    unfold putD
    rw [h k (Nat.le_refl k)]
    exact putD_congr l _ _ _ _ fun j hj => h j (by omega)
theorem put_put (a : Act) (d : Option Tmp) (u v : Value) : (a.put d u).put d v = a.put d v := by
  cases d <;> simp [Act.put]
theorem putD_up : ∀ (l : List (Option Tmp)) (a : Act) (k i : Nat) (u : Nat → Value) (v : Value), (∀ p q, p < l.length → q < l.length → p ≠ q → (l.getD p none).isSome → l.getD p none ≠ l.getD q none) →
    k ≤ i → i - k < l.length → (putD a l k u).put (l.getD (i - k) none) v = putD a l k (up u i v)
  | [], _, _, _, _, _, _, _, h => by simp at h
  | x :: l, a, k, i, u, v, hd, hk, hi => by
    unfold putD
    by_cases e : i = k
    · subst e
      simp only [Nat.sub_self, List.getD_cons_zero]
      rw [putD_put l _ _ _ x v, put_put]
      · simp only [up, if_true]
        refine putD_congr l _ _ _ _ fun j hj => ?_
        have : j ≠ i := by omega
        simp [up, this]
      · intro y hy hs e
        obtain ⟨m, hm, rfl⟩ := List.getElem_of_mem hy
        have := hd 0 (m + 1) (by simp) (by simp; omega) (by omega) (by simpa using hs)
        simp [hm] at this
        exact this e.symm
    · have h1 : i - k = (i - (k + 1)) + 1 := by omega
      rw [h1, List.getD_cons_succ]
      have h2 : up u i v k = u k := by unfold up; rw [if_neg (by omega)]
      rw [h2]
      exact putD_up l _ (k + 1) i u v (fun p q hp hq hne hs => by
        have := hd (p + 1) (q + 1) (by simp; omega) (by simp; omega) (by omega)
        simp only [List.getD_cons_succ] at this
        exact this hs) (by omega) (by simp at hi; omega)
theorem putD_old : ∀ (l : List (Option Tmp)) (a : Act) (k : Nat) (u : Nat → Value), (∀ j, j < l.length → u (k + j) = match l.getD j none with | some t => a.tmps.getD t undef | none => undef) → putD a l k u = a
  | [], _, _, _, _ => rfl
  | x :: l, a, k, u, h => by
    unfold putD
    have h0 := h 0 (by simp)
    simp only [Nat.add_zero, List.getD_cons_zero] at h0
    have e : a.put x (u k) = a := by
      rw [h0]
      cases x with
      | none => rfl
      | some t =>
        simp only [Act.put]
        congr 1
        apply Array.ext
        · simp
        · intro i h1 h2
          have h2' : i < a.tmps.size := by simpa using h1
          by_cases e : t = i
          · subst e
            simp [h2']
          · rw [Array.getElem_setIfInBounds_ne (h := e)]
    rw [e]
    refine putD_old l a (k + 1) u fun j hj => ?_
    have := h (j + 1) (by simp; omega)
    simp only [List.getD_cons_succ] at this
    rw [← this]
    congr 1
    omega

theorem cnt_set {p q : Nat → Bool} {i : Nat} (h : ∀ j, j ≠ i → p j = q j) (hp : p i = true) (hq : q i = false) : ∀ n, (List.range n).countP p = (List.range n).countP q + (if i < n then 1 else 0)
  | 0 => rfl
  | n + 1 => by
    rw [List.range_succ, List.countP_append, List.countP_append, cnt_set h hp hq n]
    simp only [List.countP_cons, List.countP_nil]
    by_cases e : n = i
    · subst e; simp [hp, hq]
    · rw [h n e]
      by_cases hi : i < n
      · simp only [hi, show i < n + 1 by omega, if_true]; omega
      · simp only [hi, show ¬ i < n + 1 by omega, if_false]; omega

structure AnyF (ops : Array Oper) (p : Parts) : Prop where
  len : p.ds.length = ops.size
  sel : Region.noSelect ops = true
  dst : ∀ i, i < ops.size → p.tail.contains i = false → ∃ o, ops[i]? = some o ∧ o.dst = p.ds.getD i none ∧
    (∀ e ∈ o.after, Region.binds .any e = true → e.on < i ∧ p.tail.contains e.on = false ∧ (p.late.contains i = true ∨ p.late.contains e.on = false)) ∧ ∀ j ∈ p.D.getD i [], j ∈ p.C.getD i [] ∧ j < i
  cl : ∀ i, i < ops.size → ∃ o, ops[i]? = some o ∧ ∀ j ∈ p.C.getD i [], ∃ e ∈ o.after, Region.binds .any e = true ∧ (e.on = j ∨ (p.tail.contains e.on = false ∧ j ∈ p.C.getD e.on []))
  dis : ∀ i j, i < p.ds.length → j < p.ds.length → i ≠ j → (p.ds.getD i none).isSome → p.ds.getD i none ≠ p.ds.getD j none
  tl : ∀ t l, p.tail = t :: l → (∀ i, i < ops.size → p.tail.contains i = false → p.late.contains i = false → i ∈ p.C.getD t []) ∧
    ∀ t' ∈ l, ∃ o, ops[t']? = some o ∧ ∃ e ∈ o.after, Region.binds .any e = true ∧ p.tail.contains e.on = true
  lt : ∀ i, p.late.contains i = true → ∃ oi, ops[i]? = some oi ∧ ∀ j, (p.late.contains j = true ∨ p.tail.contains j = true) → j ≠ i → ∀ oj, ops[j]? = some oj → (∃ e ∈ oj.after, Region.binds .any e = true ∧ e.on = i) ∨ (∃ e ∈ oi.after, Region.binds .any e = true ∧ e.on = j) ∨ oi.apart ops oj = true
  lin : ∀ i, p.late.contains i = true → p.tail.contains i = false ∧ i < ops.size
  tin : ∀ i, p.tail.contains i = true → i < ops.size
  plan : planOk ops (p.tail.map fun t => (t, false)) (headA ops.size p.tail) = true
  cnt : (List.range ops.size).countP (fun j => !p.tail.contains j) + p.tail.length = ops.size
theorem anyOk_spec {p : Parts} (h : anyOk ops p = true) : AnyF ops p := by
  unfold anyOk at h
  simp only [Bool.and_eq_true, decide_eq_true_eq] at h
  obtain ⟨⟨⟨⟨⟨⟨⟨⟨⟨⟨h1, h2⟩, h3⟩, h4⟩, h5⟩, h6⟩, h7⟩, h8⟩, h9⟩, h10⟩, h11⟩ := h
  refine ⟨h1, h2, fun i hi ht => ?_, fun i hi => ?_, fun i j hi hj hne hs e => ?_, fun t l e => ?_, fun i hi => ?_, fun i hi => ?_, fun i hi => ?_, h10, h11⟩
  · have h := List.all_eq_true.1 h3 i (List.mem_range.2 hi)
    rw [ht, Bool.false_or] at h
    split at h
    · cases h
    · rename_i o ho
      simp only [Bool.and_eq_true, decide_eq_true_eq] at h
      obtain ⟨⟨a1, a2⟩, a4⟩ := h
      refine ⟨o, ho, a1, fun e he hb => ?_, fun j hj => ?_⟩
      · have := Array.all_eq_true'.1 a2 e he
        simp only [hb, Bool.not_true, Bool.false_or, Bool.and_eq_true, Bool.or_eq_true, decide_eq_true_eq, Bool.not_eq_true'] at this
        exact ⟨this.1.1, this.1.2, this.2⟩
      · have := List.all_eq_true.1 a4 j hj
        simpa [List.contains_iff_mem] using this
  · have h := List.all_eq_true.1 h4 i (List.mem_range.2 hi)
    split at h
    · cases h
    · rename_i o ho
      refine ⟨o, ho, fun j hj => ?_⟩
      have := List.all_eq_true.1 h j hj
      obtain ⟨e, he, hh⟩ := Array.any_eq_true'.1 this
      simp only [Bool.and_eq_true, Bool.or_eq_true, decide_eq_true_eq, List.contains_iff_mem, Bool.not_eq_true'] at hh
      exact ⟨e, he, hh.1, hh.2⟩
  · have h := List.all_eq_true.1 (List.all_eq_true.1 h5 i (List.mem_range.2 (by omega))) j (List.mem_range.2 (by omega))
    simp only [Bool.or_eq_true, decide_eq_true_eq] at h
    rcases h with (h | h) | h
    · exact hne h
    · rw [Option.isNone_iff_eq_none] at h; rw [h] at hs; cases hs
    · exact h e
  · rw [e] at h6
    simp only [Bool.and_eq_true] at h6
    rw [← e] at h6
    refine ⟨fun i hi h1 h2 => ?_, fun t' ht => ?_⟩
    · have := List.all_eq_true.1 h6.1 i (List.mem_range.2 hi)
      rw [h1, h2, Bool.false_or, Bool.false_or, List.contains_iff_mem] at this
      exact this
    · have := List.all_eq_true.1 h6.2 t' ht
      split at this
      · cases this
      · rename_i o ho
        obtain ⟨e, he, hh⟩ := Array.any_eq_true'.1 this
        simp only [Bool.and_eq_true] at hh
        exact ⟨o, ho, e, he, hh⟩
  · have := List.all_eq_true.1 h7 i (List.contains_iff_mem.1 hi)
    split at this
    · cases this
    · rename_i oi hoi
      refine ⟨oi, hoi, fun j hj hne oj hoj => ?_⟩
      have := List.all_eq_true.1 this j (by
        rw [List.mem_append]
        exact hj.imp List.contains_iff_mem.1 List.contains_iff_mem.1)
      simp only [hoj, Bool.or_eq_true, decide_eq_true_eq] at this
      rcases this with h | h | h | h
      · exact absurd h.symm hne
      · obtain ⟨e, he, hh⟩ := Array.any_eq_true'.1 h
        simp only [Bool.and_eq_true, decide_eq_true_eq] at hh
        exact .inl ⟨e, he, hh⟩
      · obtain ⟨e, he, hh⟩ := Array.any_eq_true'.1 h
        simp only [Bool.and_eq_true, decide_eq_true_eq] at hh
        exact .inr (.inl ⟨e, he, hh⟩)
      · exact .inr (.inr h)
  · have := List.all_eq_true.1 h8 i (List.contains_iff_mem.1 hi)
    simpa using this
  · have := List.all_eq_true.1 h9 i (List.contains_iff_mem.1 hi)
    simpa using this

structure LInv (ops : Array Oper) (p : Parts) (listed : Array Bool) : Prop where
  size : listed.size = ops.size
  closed : ∀ j oj, ops[j]? = some oj → listed.getD j false = true → ∀ e ∈ oj.after, Region.binds .any e = true → listed.getD e.on false = true
  tail : ∀ t, p.tail.contains t = true → listed.getD t true = false
theorem LInv.set {p : Parts} {i : Nat} {listed : Array Bool} (inv : LInv ops p listed) (hi : i ∈ Region.ready .any ops listed) (hin : p.tail.contains i = false) : LInv ops p (listed.setIfInBounds i true) := by
  obtain ⟨_, oi, hoi, hall⟩ := mem_ready.1 hi
  refine ⟨by simp [inv.size], fun j oj hj hl e he hb => ?_, fun t ht => by rw [getD_set_ne true (fun e => by rw [e, ht] at hin; cases hin)]; exact inv.tail t ht⟩
  by_cases hij : i = j
  · subst hij
    obtain rfl : oj = oi := Option.some.inj (hj.symm.trans hoi)
    exact getD_set_true (hall e he hb)
  · rw [getD_set_ne false hij] at hl
    exact getD_set_true (inv.closed j oj hj hl e he hb)

theorem AnyF.closed_C {p : Parts} (F : AnyF ops p) {listed : Array Bool} (inv : LInv ops p listed) :
    ∀ i, i < ops.size → p.tail.contains i = false → (∀ o, ops[i]? = some o → ∀ e ∈ o.after, Region.binds .any e = true → listed.getD e.on false = true) → ∀ j ∈ p.C.getD i [], listed.getD j false = true := by
  intro i
  induction i using Nat.strongRecOn with
  | _ i ih =>
    intro hi hti hall j hj
    obtain ⟨o, ho, hC⟩ := F.cl i hi
    obtain ⟨o', ho', _, hb, _⟩ := F.dst i hi hti
    obtain rfl : o = o' := Option.some.inj (ho.symm.trans ho')
    obtain ⟨e, he, hbe, hon⟩ := hC j hj
    have hl := hall o ho e he hbe
    rcases hon with hon | ⟨ht, hon⟩
    · rw [← hon]; exact hl
    · have hlt := (hb e he hbe).1
      exact ih e.on hlt (by omega) ht (fun o' ho' e' he' hb' => inv.closed e.on o' ho' hl e' he' hb') j hon
/-- While an operation of the main part is open, no tail comes up. -/
theorem AnyF.tail_waits {p : Parts} (F : AnyF ops p) {listed : Array Bool} (inv : LInv ops p listed) {i : Nat} (hi : i < ops.size) (hti : p.tail.contains i = false) (hla : p.late.contains i = false)
    (hun : listed.getD i true = false) (t : Nat) (ht : p.tail.contains t = true) : t ∉ Region.ready .any ops listed := by
  intro hr
  obtain ⟨_, ot, hot, hall⟩ := mem_ready.1 hr
  cases e : p.tail with
  | nil => rw [e] at ht; cases ht
  | cons t1 l =>
    obtain ⟨h1, h2⟩ := F.tl t1 l e
    by_cases htt : t = t1
    · subst htt
      have hmem := h1 i hi hti hla
      obtain ⟨o, ho, hC⟩ := F.cl t (F.tin t ht)
      obtain rfl : o = ot := Option.some.inj (ho.symm.trans hot)
      obtain ⟨e', he', hbe, hon⟩ := hC i hmem
      have hl := hall e' he' hbe
      have hfin : listed.getD i false = true := by
        rcases hon with hon | ⟨hte, hon⟩
        · rw [← hon]; exact hl
        · have hlt : e'.on < ops.size := by
            rcases Nat.lt_or_ge e'.on listed.size with h | h
            · rw [← inv.size]; exact h
            · simp [Array.getElem?_eq_none h] at hl
          exact F.closed_C inv e'.on hlt hte (fun o' ho' e'' he'' hb'' => inv.closed e'.on o' ho' hl e'' he'' hb'') i hon
      rw [getD_both hun] at hfin
      cases hfin
    · have hmem : t ∈ l := by
        have := List.contains_iff_mem.1 ht
        rw [e] at this
        exact (List.mem_cons.1 this).resolve_left htt
      obtain ⟨o, ho, e', he', hb', hte⟩ := h2 t hmem
      obtain rfl : o = ot := Option.some.inj (ho.symm.trans hot)
      have := hall e' he' hb'
      rw [getD_both (inv.tail _ hte)] at this
      cases this

def OkAt (P : Program) (ops : Array Oper) (Q : Exit → Act → World → Prop) (w0 : World) (A : (Nat → Value) → Act) (X : (Nat → Gh) → List Nat) (p : Parts) (hs : List Sp) (i : Nat) : Prop := OpOK P ops Q w0 A X p hs i (spAt hs i)
theorem Known.mem {h : List Sp} {γ : Nat → Gh} {u : Nat → Value} {w0 W : World} : ∀ {l : List Nat}, Known h γ u w0 W l → ∀ j ∈ l, Known1 h γ u w0 W j
  | [], _, j, hj => by cases hj
  | k :: l, H, j, hj => by
    rcases List.mem_cons.1 hj with rfl | hj
    · exact H.1
    · exact Known.mem H.2 j hj
theorem spAt_app (h : List Sp) (s : Sp) (j : Nat) (hj : j < h.length) : spAt (h ++ [s]) j = spAt h j := by
  simp [spAt, List.getElem?_append_left hj]
theorem spAt_last (h : List Sp) (s : Sp) : spAt (h ++ [s]) h.length = s := by simp [spAt]
theorem RGW_all {w0 : World} {A : (Nat → Value) → Act} {X : (Nat → Gh) → List Nat} {p : Parts} (F : AnyF ops p) :
    ∀ (k : Nat) (h : List Sp), h.length + k = ops.size → RGW P ops Q w0 A X p k h →
      ∃ hs, (∀ j, j < h.length → spAt hs j = spAt h j) ∧ (∀ i, h.length ≤ i → i < ops.size → p.tail.contains i = false → OkAt P ops Q w0 A X p hs i) ∧ Fin P ops Q w0 A X p hs
  | 0, h, hk, H => ⟨h, fun _ _ => rfl, fun i h1 h2 => by omega, H⟩
  | k + 1, h, hk, ⟨s, hop, H⟩ => by
    obtain ⟨hs, e, ok, fin⟩ := RGW_all F k (h ++ [s]) (by simp; omega) H
    have el : spAt hs h.length = s := (e h.length (by simp)).trans (spAt_last h s)
    have ej : ∀ j, j < h.length → spAt hs j = spAt h j := fun j hj => (e j (by simp; omega)).trans (spAt_app h s j hj)
    refine ⟨hs, ej, fun i h1 h2 h3 => ?_, fin⟩
    by_cases hi : i = h.length
    · subst hi
      obtain ⟨c1, c2, c3, c4⟩ := hop h3
      have tr : ∀ γ u W, Known hs γ u w0 W (p.D.getD h.length []) → Known h γ u w0 W (p.D.getD h.length []) := fun γ u W hkn => Known.of fun j hj => by
        have := hkn.mem j hj
        obtain ⟨_, _, _, _, hD⟩ := F.dst h.length h2 h3
        unfold Known1 at this ⊢
        rw [ej j (hD j hj).2] at this
        exact this
      unfold OkAt OpOK LateOK
      rw [el]
      exact ⟨c1, c2, fun γ u W hb hkn => c3 γ u W hb (tr γ u W hkn), fun hl => ⟨(c4 hl).1, (c4 hl).2.1, fun γ u Wm W hb hkn hx => (c4 hl).2.2 γ u Wm W hb (tr γ u Wm hkn) hx⟩⟩
    · exact ok i (by simp; omega) h2 h3

def Inv (ops : Array Oper) (p : Parts) (hs : List Sp) (w0 : World) (a0 : Act) (listed : Array Bool) (γ : Nat → Gh) (u : Nat → Value) (a : Act) (W : World) : Prop :=
  Below w0.heap.size w0 W ∧ a = putD a0 p.ds 0 u ∧ (∀ j, p.tail.contains j = false → j < ops.size → listed.getD j false = true → Known1 hs γ u w0 W j) ∧
    ∀ i j, p.tail.contains i = false → p.tail.contains j = false → i < ops.size → j < ops.size → i ≠ j → listed.getD i false = true → listed.getD j false = true → ∀ x ∈ (spAt hs i).bl (γ i), ∀ y ∈ (spAt hs j).bl (γ j), x ≠ y

theorem listed_set {listed : Array Bool} {i j : Nat} (h : (listed.setIfInBounds i true).getD j false = true) : j = i ∨ listed.getD j false = true := by
  by_cases e : i = j
  · exact .inl e.symm
  · rw [getD_set_ne false e] at h
    exact .inr h

theorem inv_up {p : Parts} {hs : List Sp} {w0 : World} {a0 : Act} {A : (Nat → Value) → Act} {X : (Nat → Gh) → List Nat} (F : AnyF ops p)
    (ok : ∀ i, i < ops.size → p.tail.contains i = false → OkAt P ops Q w0 A X p hs i) {listed : Array Bool} {γ : Nat → Gh} {u : Nat → Value} {a : Act} {W W' : World} (inv : LInv ops p listed) (I : Inv ops p hs w0 a0 listed γ u a W)
    {i : Nat} {o : Oper} (hi : i < ops.size) (hti : p.tail.contains i = false) (hun : listed.getD i true = false) (ho : ops[i]? = some o) (g : Gh)
    (hb' : Below W.heap.size W W') (hR : (spAt hs i).R (up γ i g) W') (hbl : ∀ x ∈ (spAt hs i).bl g, W.heap.size ≤ x ∧ x < W'.heap.size) :
    Inv ops p hs w0 a0 (listed.setIfInBounds i true) (up γ i g) (up u i ((spAt hs i).val (up γ i g))) (a.put o.dst ((spAt hs i).val (up γ i g))) W' := by
  obtain ⟨hb, ha, hkn, hdis⟩ := I
  obtain ⟨o', ho', hdst, _, hD⟩ := F.dst i hi hti
  obtain rfl : o = o' := Option.some.inj (ho.symm.trans ho')
  have hCl : ∀ j, p.tail.contains j = false → j < ops.size → listed.getD j false = true → ∀ k ∈ p.C.getD j [], listed.getD k false = true := fun j htj hj hl =>
    F.closed_C inv j hj htj fun o' ho' => inv.closed j o' ho' hl
  have hni : ∀ j, listed.getD j false = true → j ≠ i := fun j hj e => by rw [e, getD_both hun] at hj; cases hj
  refine ⟨hb.trans (hb'.mono hb.size), ?_, fun j htj hj hl => ?_, fun q r htq htr hq hr hne hlq hlr x hx y hy => ?_⟩
  · rw [ha, hdst]
    have := putD_up p.ds a0 0 i u ((spAt hs i).val (up γ i g)) F.dis (Nat.zero_le _) (by rw [F.len]; omega)
    simpa using this
  · rcases listed_set hl with rfl | hl
    · exact ⟨by simp [up], hR, fun x hx => by
        have : x ∈ (spAt hs j).bl g := by simpa [up] using hx
        have := hbl x this
        exact ⟨Nat.le_trans hb.size this.1, this.2⟩⟩
    · have hji := hni j hl
      obtain ⟨k1, k2, k3⟩ := hkn j htj hj hl
      have hcg := (ok j hj htj).1 γ (up γ i g) (fun k hk => by
        have : k ≠ i := by
          rcases hk with rfl | hk
          · exact hji
          · exact hni k (hCl j htj hj hl k hk)
        simp [up, this])
      refine ⟨?_, hcg.2 _ ((ok j hj htj).2.1 γ W W' hb' k2), fun x hx => ?_⟩
      · rw [← hcg.1, ← k1]; simp [up, hji]
      · have := k3 x (by simpa [up, hji] using hx)
        exact ⟨this.1, Nat.lt_of_lt_of_le this.2 hb'.size⟩
  · rcases listed_set hlq with rfl | hlq'
    · have hr' := (listed_set hlr).resolve_left (fun e => hne e.symm)
      have hri := hni r hr'
      have := (hkn r htr hr hr').2.2 y (by simpa [up, hri] using hy)
      have := hbl x (by simpa [up] using hx)
      omega
    · have hqi := hni q hlq'
      rcases listed_set hlr with rfl | hlr'
      · have := (hkn q htq hq hlq').2.2 x (by simpa [up, hqi] using hx)
        have := hbl y (by simpa [up] using hy)
        omega
      · have hri := hni r hlr'
        exact hdis q r htq htr hq hr hne hlq' hlr' x (by simpa [up, hqi] using hx) y (by simpa [up, hri] using hy)

theorem inv_known {p : Parts} {hs : List Sp} {w0 : World} {a0 : Act} (F : AnyF ops p) {listed : Array Bool} {γ : Nat → Gh} {u : Nat → Value} {a : Act} {W : World} (inv : LInv ops p listed) (I : Inv ops p hs w0 a0 listed γ u a W)
    {i : Nat} {o : Oper} (hi : i < ops.size) (hti : p.tail.contains i = false) (ho : ops[i]? = some o) (hall : ∀ e ∈ o.after, Region.binds .any e = true → listed.getD e.on false = true) : Known hs γ u w0 W (p.D.getD i []) := by
  obtain ⟨hb, ha, hkn, hdis⟩ := I
  obtain ⟨o', ho', hdst, hbk, hD⟩ := F.dst i hi hti
  have hCi := F.closed_C inv i hi hti fun o' ho' => by
    obtain rfl : o = o' := Option.some.inj (ho.symm.trans ho')
    exact hall
  refine Known.of fun j hj => ?_
  have hl := hCi j (hD j hj).1
  refine hkn j ?_ (by have := (hD j hj).2; omega) hl
  cases htj : p.tail.contains j with
  | false => rfl
  | true => rw [getD_both (inv.tail j htj)] at hl; cases hl

theorem inv_step {p : Parts} {hs : List Sp} {w0 : World} {a0 : Act} {A : (Nat → Value) → Act} {X : (Nat → Gh) → List Nat} (F : AnyF ops p) (hA : ∀ u, putD a0 p.ds 0 u = A u)
    (ok : ∀ i, i < ops.size → p.tail.contains i = false → OkAt P ops Q w0 A X p hs i) {listed : Array Bool} {γ : Nat → Gh} {u : Nat → Value} {a : Act} {W : World} (inv : LInv ops p listed) (I : Inv ops p hs w0 a0 listed γ u a W)
    {i : Nat} (hti : p.tail.contains i = false) (hr : i ∈ Region.ready .any ops listed) :
    wpOp P ops Q i (fun a' W' => ∃ γ' u', Inv ops p hs w0 a0 (listed.setIfInBounds i true) γ' u' a' W') a W := by
  obtain ⟨hun, o, ho, hall⟩ := mem_ready.1 hr
  have hi : i < ops.size := (Array.getElem?_eq_some_iff.1 ho).1
  obtain ⟨o', ho', hop⟩ := (ok i hi hti).2.2.1 γ u W I.1 (inv_known F inv I hi hti ho hall)
  obtain rfl : o = o' := Option.some.inj (ho.symm.trans ho')
  rw [← hA, ← I.2.1] at hop
  unfold OpW at hop
  refine wpOp_mono (fun a' W' hp => ?_) hop
  obtain ⟨g, e, hb', hR, hbl⟩ := hp
  rw [e]
  exact ⟨_, _, inv_up F ok inv I hi hti hun ho g hb' hR hbl⟩

def cntp (n : Nat) (p : Parts) (listed : Array Bool) : Nat := (List.range n).countP fun j => !listed.getD j true && !p.tail.contains j
theorem cntp_set {n : Nat} {p : Parts} {listed : Array Bool} {i : Nat} (hi : i < n) (hs : i < listed.size) (hti : p.tail.contains i = false) (hun : listed.getD i true = false) : cntp n p listed = cntp n p (listed.setIfInBounds i true) + 1 := by
  have := cnt_set (p := fun j => !listed.getD j true && !p.tail.contains j) (q := fun j => !(listed.setIfInBounds i true).getD j true && !p.tail.contains j) (i := i) (fun j hj => by simp only [getD_set_ne true (Ne.symm hj)]) (by rw [hun, hti]; rfl) (by simp [hs]) n
  rw [if_pos hi] at this
  exact this
theorem headA_at {n j : Nat} (tail : List Nat) (d : Bool) (h : j < n) : (headA n tail).getD j d = !tail.contains j := by
  simp [headA, h, -List.contains_eq_mem]
theorem headA_get {n j : Nat} (tail : List Nat) (h : j < (headA n tail).size) : (headA n tail)[j] = !tail.contains j := by
  simp [headA, -List.contains_eq_mem]
theorem cntp_zero {p : Parts} {listed : Array Bool} (inv : LInv ops p listed) (h : cntp ops.size p listed = 0) : listed = headA ops.size p.tail := by
  have hall : ∀ j, j < ops.size → p.tail.contains j = false → listed.getD j true = true := fun j hj ht => by
    have := List.countP_eq_zero.1 h j (List.mem_range.2 hj)
    rw [ht] at this
    simpa using this
  apply Array.ext
  · simp [headA, inv.size]
  · intro j h1 h2
    have hj : j < ops.size := by rw [← inv.size]; exact h1
    cases ht : p.tail.contains j with
    | false =>
      have := hall j hj ht
      simp [h1] at this
      rw [headA_get, ht, this]; rfl
    | true =>
      have := inv.tail j ht
      simp [h1] at this
      rw [headA_get, ht, this]; rfl
theorem cntp_pos {n : Nat} {p : Parts} {listed : Array Bool} (h : cntp n p listed ≠ 0) : ∃ j, j < n ∧ p.tail.contains j = false ∧ listed.getD j true = false := by
  obtain ⟨j, hj, hp⟩ := List.countP_pos_iff.1 (Nat.pos_of_ne_zero h)
  simp only [Bool.and_eq_true, Bool.not_eq_true'] at hp
  exact ⟨j, List.mem_range.1 hj, hp.2, hp.1⟩
/-- The first open operation of the head may come up. -/
theorem ready_first {p : Parts} (F : AnyF ops p) {listed : Array Bool} (inv : LInv ops p listed) : ∀ j, j < ops.size → p.tail.contains j = false → listed.getD j true = false → ∃ i, i ≤ j ∧ p.tail.contains i = false ∧ i ∈ Region.ready .any ops listed := by
  intro j
  induction j using Nat.strongRecOn with
  | _ j ih =>
    intro hj htj hun
    obtain ⟨o, ho, _, hb, _⟩ := F.dst j hj htj
    by_cases hall : ∀ e ∈ o.after, Region.binds .any e = true → listed.getD e.on false = true
    · exact ⟨j, Nat.le_refl j, htj, mem_ready.2 ⟨hun, o, ho, hall⟩⟩
    · have ⟨e, he⟩ := Classical.not_forall.1 hall
      have ⟨he1, he2⟩ := Classical.not_imp.1 he
      have ⟨he3, he4⟩ := Classical.not_imp.1 he2
      obtain ⟨hlt, ht, _⟩ := hb e he1 he3
      obtain ⟨i, h1, h2, h3⟩ := ih e.on hlt (by omega) ht (getD_in (by rw [inv.size]; omega) (by simpa using he4))
      exact ⟨i, by omega, h2, h3⟩

section
variable {p : Parts} {hs : List Sp} {w0 : World} {a0 : Act} {A : (Nat → Value) → Act} {X : (Nat → Gh) → List Nat}
theorem any_late (F : AnyF ops p) (hQ : ∀ c a w (d : Option Tmp) (v : Value), Q (.panic c) (a.put d v) w → Q (.panic c) a w) (hA : ∀ u, putD a0 p.ds 0 u = A u)
    (ok : ∀ i, i < ops.size → p.tail.contains i = false → OkAt P ops Q w0 A X p hs i) (fin : Fin P ops Q w0 A X p hs) (γ : Nat → Gh) (W : World) :
    ∀ (f : Nat) (listed : Array Bool) (u : Nat → Value) (a : Act), LInv ops p listed → cntp ops.size p listed = f →
      (∀ i, i < ops.size → p.tail.contains i = false → p.late.contains i = false → listed.getD i true = true) →
      (∀ i, i < ops.size → p.late.contains i = true → listed.getD i true = false → (spAt hs i).bl = fun _ => []) → Inv ops p hs w0 a0 listed γ u a W →
      wpAnyH P .any ops Q (fun W' => BX (X γ) W W') (f + p.tail.length) listed a W
  | 0, listed, u, a, inv, hc, _, _, I => by
    have e := cntp_zero inv hc
    have hl : ∀ j, j < ops.size → p.tail.contains j = false → listed.getD j false = true := fun j hj ht => by
      rw [e, headA_at _ _ hj, ht]; rfl
    obtain ⟨hb, ha, hkn, hdis⟩ := I
    have h1 := fin γ u W hb (Known.of fun j hj => by
      unfold heads at hj
      simp only [List.mem_filter, List.mem_range, Bool.not_eq_true'] at hj
      exact hkn j hj.2 hj.1 (hl j hj.1 hj.2)) (fun i j hti htj hi hj hne => hdis i j (by simpa using hti) (by simpa using htj) hi hj hne (hl i hi (by simpa using hti)) (hl j hj (by simpa using htj)))
    rw [← hA, ← ha] at h1
    have := planW_any F.sel (fun c a w d v => hQ c a w d v) (p.tail.map fun t => (t, false)) listed a W (by rw [e]; exact F.plan) (bx_refl _ _) h1
    simpa using this
  | f + 1, listed, u, a, inv, hc, hmain, hlb, I => by
    obtain ⟨j, hj, htj, hun⟩ := cntp_pos (n := ops.size) (p := p) (listed := listed) (by omega)
    obtain ⟨i, _, hti, hr⟩ := ready_first F inv j hj htj hun
    obtain ⟨huni, o, ho, hall⟩ := mem_ready.1 hr
    have hi : i < ops.size := (Array.getElem?_eq_some_iff.1 ho).1
    have hla : p.late.contains i = true := by
      cases h : p.late.contains i with
      | true => rfl
      | false => rw [hmain i hi hti h] at huni; cases huni
    have hkn := inv_known F inv I hi hti ho hall
    have hok := ((ok i hi hti).2.2.2 hla).2.2
    have hS : YieldsIf P ops (fun W' => BX (X γ) W W') o ((spAt hs i).val γ) a := by
      have h0 := hok γ u W W I.1 hkn (bx_refl _ _)
      obtain ⟨o', ho', h⟩ := h0
      obtain rfl : o = o' := Option.some.inj (ho.symm.trans ho')
      rw [← hA, ← I.2.1] at h
      rcases h with ⟨hw, _⟩ | ⟨hw, e⟩
      · refine .inl ⟨hw, fun W' hW' => ?_⟩
        obtain ⟨o', ho', h⟩ := hok γ u W W' I.1 hkn hW'
        obtain rfl : o = o' := Option.some.inj (ho.symm.trans ho')
        rw [← hA, ← I.2.1] at h
        rcases h with ⟨_, h⟩ | ⟨hw', _⟩
        · exact h
        · rw [hw] at hw'; cases hw'
      · exact .inr ⟨hw, e⟩
    have hR : (spAt hs i).R = fun _ _ => True := ((ok i hi hti).2.2.2 hla).2.1
    have hB := hlb i hi hla huni
    obtain ⟨oi, hoi, hap⟩ := F.lt i hla
    obtain rfl : o = oi := Option.some.inj (ho.symm.trans hoi)
    have hself : up γ i (γ i) = γ := by
      funext k
      unfold up
      split
      · rename_i e; rw [e]
      · rfl
    have I' := inv_up (W' := W) F ok inv I hi hti huni ho (γ i) (Below.refl _ _) (by rw [hR]; trivial) (by rw [hB]; intro x hx; cases hx)
    rw [hself] at I'
    have hlt : i < listed.size := by rw [inv.size]; exact hi
    rw [show f + 1 + p.tail.length = (f + p.tail.length) + 1 by omega]
    refine wpAnyH_first ho (Region.noSelect_spec F.sel) (fun c a w h => hQ c a w _ _ h) _ listed a W (fun k ok' hk hki hunk hno => ?_) hr hS (bx_refl _ _)
      (any_late F hQ hA ok fin γ W f _ _ _ (inv.set hr hti) (by have := cntp_set hi hlt hti huni; omega) (fun k hk h1 h2 => ?_) (fun k hk h1 h2 => ?_) I')
    · have hkl : p.late.contains k = true ∨ p.tail.contains k = true := by
        cases h1 : p.late.contains k with
        | true => exact .inl rfl
        | false =>
          cases h2 : p.tail.contains k with
          | true => exact .inr rfl
          | false => rw [hmain k (Array.getElem?_eq_some_iff.1 hk).1 h2 h1] at hunk; cases hunk
      rcases hap k hkl hki ok' hk with ⟨e, he, hb, hon⟩ | ⟨e, he, hb, hon⟩ | h
      · exact absurd hon (hno e he hb)
      · have := hall e he hb
        rw [hon, getD_both hunk] at this
        cases this
      · exact h
    · have := hmain k hk h1 h2
      have hne : i ≠ k := fun e => by rw [e, h2] at hla; cases hla
      rw [getD_set_ne true hne]; exact this
    · refine hlb k hk h1 ?_
      by_cases hne : i = k
      · rw [← hne] at h2; simp [hlt] at h2
      · rw [getD_set_ne true hne] at h2; exact h2

theorem any_head (F : AnyF ops p) (hQ : ∀ c a w (d : Option Tmp) (v : Value), Q (.panic c) (a.put d v) w → Q (.panic c) a w) (hA : ∀ u, putD a0 p.ds 0 u = A u)
    (ok : ∀ i, i < ops.size → p.tail.contains i = false → OkAt P ops Q w0 A X p hs i) (fin : Fin P ops Q w0 A X p hs) (hlb : ∀ i, i < ops.size → p.late.contains i = true → (spAt hs i).bl = fun _ => []) :
    ∀ (f : Nat) (listed : Array Bool) (γ : Nat → Gh) (u : Nat → Value) (a : Act) (W : World), LInv ops p listed → cntp ops.size p listed = f → Inv ops p hs w0 a0 listed γ u a W →
      wpAny P .any ops Q (f + p.tail.length) listed a W := by
  intro f
  induction f with
  | zero =>
    intro listed γ u a W inv hc I
    refine wpAny_of_held (S := fun W' => BX (X γ) W W') _ _ _ _ (any_late F hQ hA ok fin γ W 0 listed u a inv hc (fun i hi h1 h2 => ?_) (fun i hi h1 _ => hlb i hi h1) I)
    have e := cntp_zero inv hc
    rw [e, headA_at _ _ hi, h1]; rfl
  | succ f ih =>
    intro listed γ u a W inv hc I
    by_cases hm : ∀ i, i < ops.size → p.tail.contains i = false → p.late.contains i = false → listed.getD i true = true
    · exact wpAny_of_held (S := fun W' => BX (X γ) W W') _ _ _ _ (any_late F hQ hA ok fin γ W (f + 1) listed u a inv hc hm (fun i hi h1 _ => hlb i hi h1) I)
    · have ⟨i0, hm1⟩ := Classical.not_forall.1 hm
      have ⟨hi0, hm2⟩ := Classical.not_imp.1 hm1
      have ⟨ht0, hm3⟩ := Classical.not_imp.1 hm2
      have ⟨hl0, hm4⟩ := Classical.not_imp.1 hm3
      have hu0 : listed.getD i0 true = false := by simpa using hm4
      rw [show f + 1 + p.tail.length = (f + p.tail.length) + 1 by omega]
      refine ⟨fun h => ?_, fun i hr => ?_⟩
      · obtain ⟨i, _, _, hr⟩ := ready_first F inv i0 hi0 ht0 hu0
        rw [h] at hr
        cases hr
      · have hti : p.tail.contains i = false := by
          cases h : p.tail.contains i with
          | false => rfl
          | true => exact absurd hr (F.tail_waits inv hi0 ht0 hl0 hu0 i h)
        obtain ⟨huni, o, ho, _⟩ := mem_ready.1 hr
        have hi : i < ops.size := (Array.getElem?_eq_some_iff.1 ho).1
        have hlt : i < listed.size := by rw [inv.size]; exact hi
        refine wpOp_mono (fun a' W' h' => ?_) (inv_step F hA ok inv I hti hr)
        obtain ⟨γ', u', h'⟩ := h'
        exact ih _ γ' u' a' W' (inv.set hr hti) (by have := cntp_set hi hlt hti huni; omega) h'

end
theorem wpAny_rg {Q : Exit → Act → World → Prop} {a0 : Act} {w w0 : World} {l : List Oper} {A : (Nat → Value) → Act} (p : Parts) (X : (Nat → Gh) → List Nat)
    (hB : anyOk l.toArray p = true) (hb : Below w0.heap.size w0 w.drew) (hA : ∀ u, putD a0 p.ds 0 u = A u) (h : RGW P l.toArray (NoPanic Q) w0 A X p l.toArray.size []) :
    wpAny P .any l.toArray (NoPanic Q) l.toArray.size (Array.replicate l.toArray.size false) a0 w.drew := by
  have F := anyOk_spec hB
  obtain ⟨hs, _, ok, fin⟩ := RGW_all F _ [] (by simp) h
  have inv0 : LInv l.toArray p (Array.replicate l.toArray.size false) :=
    ⟨by simp, fun j oj _ hl => (by rw [getD_replicate_false] at hl; cases hl), fun t ht => getD_in (by have := F.tin t ht; simpa using this) (getD_replicate_false _ _)⟩
  have hc : cntp l.toArray.size p (Array.replicate l.toArray.size false) = (List.range l.toArray.size).countP (fun j => !p.tail.contains j) := by
    unfold cntp
    refine List.countP_congr fun j hj => ?_
    have : j < l.length := by have := List.mem_range.1 hj; simpa using this
    simp [this]
  have := any_head (P := P) (Q := NoPanic Q) F (fun _ _ _ _ _ h => h) hA (fun i hi ht => ok i (Nat.zero_le _) hi ht) fin (fun i hi hl => ((ok i (Nat.zero_le _) hi (F.lin i hl).1).2.2.2 hl).1) _ _ (fun _ => gh0) (fun j => match p.ds.getD j none with | some t => a0.tmps.getD t undef | none => undef) a0 w.drew inv0 hc
    ⟨hb, (putD_old p.ds a0 0 _ fun j _ => by simp).symm, fun j _ _ hl => (by rw [getD_replicate_false] at hl; cases hl), fun i j _ _ _ _ _ hl => (by rw [getD_replicate_false] at hl; cases hl)⟩
  rw [F.cnt] at this
  exact this
/-- The walk of a region in whatever order. -/
theorem wp_any {id : Nat} {a0 : Act} {w w0 : World} {l : List Oper} {A : (Nat → Value) → Act} (p : Parts) (X : (Nat → Gh) → List Nat) (hm : P.follows .mixedOrders = true)
    (hB : anyOk l.toArray p = true) (hb : Below w0.heap.size w0 w.drew) (hA : ∀ u, putD a0 p.ds 0 u = A u) (h : RGW P l.toArray (NoPanic Q) w0 A X p l.toArray.size []) :
    (Code.region id l.toArray true).wp P Q a0 w :=
  wp_region_noPanic (wp_region_any hm (wpAny_rg p X hB hb hA h))

section
variable {w0 : World} {A : (Nat → Value) → Act} {X : (Nat → Gh) → List Nat} {p : Parts} {k i : Nat} {h : List Sp} {o : Oper} {val : (Nat → Gh) → Value}
theorem shut_in {p : Prop} (h : p) : Shut p := h
theorem up_self (γ : Nat → Gh) (i : Nat) : up γ i (γ i) = γ := by
  funext k
  unfold up
  split
  · rename_i e; rw [e]
  · rfl
theorem RGW.skip (hn : h.length = i) (ht : p.tail.contains i = true) (H : RGW P ops Q w0 A X p k (h ++ [sp0])) : RGW P ops Q w0 A X p (k + 1) h :=
  ⟨sp0, fun h' => (by rw [hn, ht] at h'; cases h'), H⟩
theorem opW_on {γ : Nat → Gh} {u : Nat → Value} {W : World} {R : (Nat → Gh) → World → Prop} (hi : ops[i]? = some o) (hR : R γ W)
    (hw : Region.wanted o (yielded ops (A u).tmps) = true) (hv : (execOp (A u).eval o).run P W = .ok (.value (val γ)) W) : OpW P ops Q i o ⟨val, R, fun _ => []⟩ γ (A u) W := by
  unfold OpW wpOp
  simp only [hi]
  rw [if_pos hw]
  refine .inl ?_
  unfold Oper.wp
  simp only [hv, Oper.upon]
  refine ⟨γ i, ?_, Below.refl _ _, ?_, fun x hx => by cases hx⟩
  · rw [up_self]
  · rw [up_self]; exact hR
theorem opW_off {γ : Nat → Gh} {u : Nat → Value} {W : World} (hi : ops[i]? = some o)
    (hw : Region.wanted o (yielded ops (A u).tmps) = false) : OpW P ops Q i o ⟨fun _ => undef, fun _ _ => True, fun _ => []⟩ γ (A u) W := by
  unfold OpW wpOp
  simp only [hi]
  rw [if_neg (by rw [hw]; decide)]
  exact ⟨γ i, by simp, Below.refl _ _, by simp, by simp⟩
theorem RGW.on (hn : h.length = i) (hi : ops[i]? = some o) (hop : ∀ γ u W, Below w0.heap.size w0 W → KnownL h γ u w0 W (p.D.getD i []) → Region.wanted o (yielded ops (A u).tmps) = true ∧ (execOp (A u).eval o).run P W = .ok (.value (val γ)) W)
    (hc : ∀ γ γ' : Nat → Gh, (∀ j, j = i ∨ j ∈ p.C.getD i [] → γ j = γ' j) → val γ = val γ') (hl : p.late.contains i = false)
    (H : RGW P ops Q w0 A X p k (h ++ [⟨val, fun _ _ => True, fun _ => []⟩])) : RGW P ops Q w0 A X p (k + 1) h := by
  subst hn
  exact ⟨_, fun _ => ⟨fun γ γ' hg => ⟨hc γ γ' hg, fun _ h => h⟩, fun _ _ _ _ h => h, fun γ u W hb hk => ⟨o, hi, opW_on (R := fun _ _ => True) hi trivial (hop γ u W hb hk.toL).1 (hop γ u W hb hk.toL).2⟩, fun h => by rw [hl] at h; cases h⟩, H⟩
theorem RGW.off (hn : h.length = i) (hi : ops[i]? = some o) (hop : ∀ γ u W, Below w0.heap.size w0 W → KnownL h γ u w0 W (p.D.getD i []) → Region.wanted o (yielded ops (A u).tmps) = false)
    (hl : p.late.contains i = false)
    (H : RGW P ops Q w0 A X p k (h ++ [⟨fun _ => undef, fun _ _ => True, fun _ => []⟩])) : RGW P ops Q w0 A X p (k + 1) h := by
  subst hn
  exact ⟨_, fun _ => ⟨fun γ γ' hg => ⟨rfl, fun _ h => h⟩, fun _ _ _ _ h => h, fun γ u W hb hk => ⟨o, hi, opW_off hi (hop γ u W hb hk.toL)⟩, fun h => by rw [hl] at h; cases h⟩, H⟩
theorem RGW.onL (hn : h.length = i) (hi : ops[i]? = some o) (hop : ∀ γ u Wm W, Below w0.heap.size w0 Wm → KnownL h γ u w0 Wm (p.D.getD i []) → BX (X γ) Wm W → Region.wanted o (yielded ops (A u).tmps) = true ∧ (execOp (A u).eval o).run P W = .ok (.value (val γ)) W)
    (hc : ∀ γ γ' : Nat → Gh, (∀ j, j = i ∨ j ∈ p.C.getD i [] → γ j = γ' j) → val γ = val γ')
    (H : RGW P ops Q w0 A X p k (h ++ [⟨val, fun _ _ => True, fun _ => []⟩])) : RGW P ops Q w0 A X p (k + 1) h := by
  subst hn
  exact ⟨_, fun _ => ⟨fun γ γ' hg => ⟨hc γ γ' hg, fun _ h => h⟩, fun _ _ _ _ h => h, fun γ u W hb hk => ⟨o, hi, opW_on (R := fun _ _ => True) hi trivial (hop γ u W W hb hk.toL (bx_refl _ _)).1 (hop γ u W W hb hk.toL (bx_refl _ _)).2⟩,
    fun _ => ⟨rfl, rfl, fun γ u Wm W hb hk hx => ⟨o, hi, .inl (hop γ u Wm W hb hk.toL hx)⟩⟩⟩, H⟩
theorem RGW.offL (hn : h.length = i) (hi : ops[i]? = some o) (hop : ∀ γ u Wm W, Below w0.heap.size w0 Wm → KnownL h γ u w0 Wm (p.D.getD i []) → BX (X γ) Wm W → Region.wanted o (yielded ops (A u).tmps) = false)
    (H : RGW P ops Q w0 A X p k (h ++ [⟨fun _ => undef, fun _ _ => True, fun _ => []⟩])) : RGW P ops Q w0 A X p (k + 1) h := by
  subst hn
  exact ⟨_, fun _ => ⟨fun γ γ' hg => ⟨rfl, fun _ h => h⟩, fun _ _ _ _ h => h, fun γ u W hb hk => ⟨o, hi, opW_off hi (hop γ u W W hb hk.toL (bx_refl _ _))⟩,
    fun _ => ⟨rfl, rfl, fun γ u Wm W hb hk hx => ⟨o, hi, .inr ⟨hop γ u Wm W hb hk.toL hx, rfl⟩⟩⟩⟩, H⟩
/-- Any operation that meets a specification with a ghost. -/
theorem RGW.gh (s : Sp) (hn : h.length = i) (hi : ops[i]? = some o)
    (hop : ∀ γ u W, Below w0.heap.size w0 W → KnownL h γ u w0 W (p.D.getD i []) → Region.wanted o (yielded ops (A u).tmps) = true ∧
      ∀ K : Act → World → Prop, Shut (∀ g v W', v = s.val (up γ i g) → Below W.heap.size W W' → s.R (up γ i g) W' → (∀ x ∈ s.bl g, W.heap.size ≤ x ∧ x < W'.heap.size) → K ((A u).put o.dst v) W') → Oper.wp P o (A u) W K Q)
    (hc : Cong (p.C.getD i []) i s) (hm : ∀ γ W W', Below W.heap.size W W' → s.R γ W → s.R γ W') (hl : p.late.contains i = false)
    (H : RGW P ops Q w0 A X p k (h ++ [s])) : RGW P ops Q w0 A X p (k + 1) h := by
  subst hn
  refine ⟨s, fun _ => ⟨hc, hm, fun γ u W hb hk => ⟨o, hi, ?_⟩, fun h => by rw [hl] at h; cases h⟩, H⟩
  obtain ⟨hw, hx⟩ := hop γ u W hb hk.toL
  unfold OpW wpOp
  simp only [hi]
  rw [if_pos hw]
  exact .inl (hx _ (shut_in fun g v W' hv hb' hR hbl => ⟨g, by rw [hv], hb', hR, hbl⟩))
theorem RGW.call (hn : h.length = i) (hi : ops[i]? = some o)
    (hop : ∀ γ u W, Below w0.heap.size w0 W → KnownL h γ u w0 W (p.D.getD i []) → Region.wanted o (yielded ops (A u).tmps) = true ∧
      ∀ K : Act → World → Prop, Shut (∀ v W', v = val γ → Below W.heap.size W W' → K ((A u).put o.dst v) W') → Oper.wp P o (A u) W K Q)
    (hc : ∀ γ γ' : Nat → Gh, (∀ j, j = i ∨ j ∈ p.C.getD i [] → γ j = γ' j) → val γ = val γ') (hl : p.late.contains i = false)
    (H : RGW P ops Q w0 A X p k (h ++ [⟨val, fun _ _ => True, fun _ => []⟩])) : RGW P ops Q w0 A X p (k + 1) h := by
  subst hn
  refine ⟨_, fun _ => ⟨fun γ γ' hg => ⟨hc γ γ' hg, fun _ h => h⟩, fun _ _ _ _ h => h, fun γ u W hb hk => ⟨o, hi, ?_⟩, fun h => by rw [hl] at h; cases h⟩, H⟩
  obtain ⟨hw, hx⟩ := hop γ u W hb hk.toL
  unfold OpW wpOp
  simp only [hi]
  rw [if_pos hw]
  exact .inl (hx _ (shut_in fun v W' hv hb' => ⟨γ h.length, by rw [up_self, hv], hb', trivial, fun x hx => by cases hx⟩))
/-- A new block. -/
theorem RGW.alloc {t : TypeId} {cs : (Nat → Gh) → Array Value} (hn : h.length = i) (hi : ops[i]? = some o)
    (hop : ∀ γ u W, Below w0.heap.size w0 W → KnownL h γ u w0 W (p.D.getD i []) → Region.wanted o (yielded ops (A u).tmps) = true ∧
      ∀ K : Act → World → Prop, Shut (∀ v W', v = .pointer (some ⟨W.heap.size, 0, none⟩) → W' = W.alloc (.cells (cs γ) t) → K ((A u).put o.dst v) W') → Oper.wp P o (A u) W K Q)
    (hc : ∀ γ γ' : Nat → Gh, (∀ j, j ≠ i → j ∈ p.C.getD i [] → γ j = γ' j) → cs γ = cs γ') (hl : p.late.contains i = false) (hni : (p.C.getD i []).contains i = false)
    (H : RGW P ops Q w0 A X p k (h ++ [⟨fun γ => .pointer (some ⟨(γ i).n, 0, none⟩), fun γ W => Blk W (γ i).n t (cs γ), fun g => [g.n]⟩])) : RGW P ops Q w0 A X p (k + 1) h := by
  refine RGW.gh _ hn hi (fun γ u W hb hk => ⟨(hop γ u W hb hk).1, fun K hK => (hop γ u W hb hk).2 K (shut_in fun v W' hv hW => ?_)⟩) (fun γ γ' hg => ?_) (fun γ W W' hb hR => Blk.below hR hb) hl H
  · subst hW
    refine hK.out ⟨W.heap.size, undef, none, 0⟩ v _ (by simp [up, hv]) (bl_al _ (bl_refl W)) ?_ (fun x hx => ?_)
    · have : cs (up γ i ⟨W.heap.size, undef, none, 0⟩) = cs γ := hc _ _ fun j hj _ => by simp [up, hj]
      dsimp only
      rw [this]
      simpa [up] using Blk.new W t (cs γ)
    · have : x = W.heap.size := by simpa using hx
      subst this
      simp
  · have h1 := hg i (.inl rfl)
    have h2 : cs γ = cs γ' := hc γ γ' fun j _ hj => hg j (.inr hj)
    exact ⟨by dsimp only; rw [h1], fun W hR => by dsimp only at hR ⊢; rw [← h1, ← h2]; exact hR⟩
/-- A new block, and a slice of it. -/
theorem RGW.bslice {t : TypeId} {cs : (Nat → Gh) → Array Value} {m c : Nat} (hn : h.length = i) (hi : ops[i]? = some o)
    (hop : ∀ γ u W, Below w0.heap.size w0 W → KnownL h γ u w0 W (p.D.getD i []) → Region.wanted o (yielded ops (A u).tmps) = true ∧
      ∀ K : Act → World → Prop, Shut (∀ v W', v = .slice (some ⟨W.heap.size, 0, none⟩) m c → W' = W.alloc (.cells (cs γ) t) → K ((A u).put o.dst v) W') → Oper.wp P o (A u) W K Q)
    (hc : ∀ γ γ' : Nat → Gh, (∀ j, j ≠ i → j ∈ p.C.getD i [] → γ j = γ' j) → cs γ = cs γ') (hl : p.late.contains i = false) (hni : (p.C.getD i []).contains i = false)
    (H : RGW P ops Q w0 A X p k (h ++ [⟨fun γ => .slice (some ⟨(γ i).n, 0, none⟩) m c, fun γ W => Blk W (γ i).n t (cs γ), fun g => [g.n]⟩])) : RGW P ops Q w0 A X p (k + 1) h := by
  refine RGW.gh _ hn hi (fun γ u W hb hk => ⟨(hop γ u W hb hk).1, fun K hK => (hop γ u W hb hk).2 K (shut_in fun v W' hv hW => ?_)⟩) (fun γ γ' hg => ?_) (fun γ W W' hb hR => Blk.below hR hb) hl H
  · subst hW
    refine hK.out ⟨W.heap.size, undef, none, 0⟩ v _ (by simp [up, hv]) (bl_al _ (bl_refl W)) ?_ (fun x hx => ?_)
    · have : cs (up γ i ⟨W.heap.size, undef, none, 0⟩) = cs γ := hc _ _ fun j hj _ => by simp [up, hj]
      dsimp only
      rw [this]
      simpa [up] using Blk.new W t (cs γ)
    · have : x = W.heap.size := by simpa using hx
      subst this
      simp
  · have h1 := hg i (.inl rfl)
    have h2 : cs γ = cs γ' := hc γ γ' fun j _ hj => hg j (.inr hj)
    exact ⟨by dsimp only; rw [h1], fun W hR => by dsimp only at hR ⊢; rw [← h1, ← h2]; exact hR⟩
theorem RGW.fin (H : ∀ γ u W, Below w0.heap.size w0 W → KnownL h γ u w0 W (heads ops.size p.tail) →
    (∀ i j, !p.tail.contains i → !p.tail.contains j → i < ops.size → j < ops.size → i ≠ j → look h i (fun s => look h j (fun s' => ∀ x ∈ s.bl (γ i), ∀ y ∈ s'.bl (γ j), x ≠ y))) →
    PlanW P ops Q (fun W' => BX (X γ) W W') (p.tail.map fun t => (t, false)) (A u) W) : RGW P ops Q w0 A X p 0 h := fun γ u W hb hk hd => H γ u W hb hk.toL (fun i j h1 h2 h3 h4 h5 => by rw [look_eq, look_eq]; exact hd i j h1 h2 h3 h4 h5)
end
end
theorem Blk.laterF {w : World} {g : Nat} {t : TypeId} {cs : Array Value} (h : Blk w g t cs) : ∀ W, Below w.heap.size w W → ∀ i, W.frozen? ⟨g, i, none⟩ = false := fun _ hb i => (h.below hb).frozen i
theorem bl_row {w X : World} {g : Nat} (hg : w.heap.size ≤ g) (cs : Array Value) (h : Below w.heap.size w X) : Below w.heap.size w (X.setRow g cs) :=
  h.trans ⟨rfl, rfl, rfl, by simp [World.setRow], fun k hk => setRow_other X g k cs (by omega)⟩
theorem Blk.laterN {w : World} {g : Nat} {t : TypeId} {cs : Array Value} (h : Blk w g t cs) : ∀ (X : List Nat) W, BX X w W → g ∉ X → ∀ i, W.cell? ⟨g, i, none⟩ = cs[i]? := fun _ _ hb hX i => (h.keep hX hb).cell i
/- Short names for the closing steps. -/
abbrev jA := @bl_refl
abbrev jB := @bl_al
abbrev jC := @bl_drew
abbrev jD := @bl_drewN
abbrev jE := @bl_set
abbrev jF := @bl_row
abbrev jG := @bx_refl
abbrev jH := @bx_set
abbrev jI := @bx_drew
abbrev jJ := @bx_al
abbrev jK := @bx_drewN
abbrev jL := @Blk.newAt
abbrev jM := @Blk.alloc
abbrev jN := @Blk.drew
abbrev jO := @Blk.drewN
abbrev jP := @Blk.set
abbrev jQ := @Blk.other
abbrev jR := @Blk.row
abbrev jS := @Blk.rowOther
abbrev jT := @Blk.below
theorem gA {α : Type} {l : List α} {i : Nat} : l.toArray[i]? = l[i]? := List.getElem?_toArray
theorem gB {α : Type} {a : α} {l : List α} {i : Nat} : (a :: l)[i + 1]? = l[i]? := List.getElem?_cons_succ
theorem gC {α : Type} {a : α} {l : List α} : (a :: l)[0]? = some a := List.getElem?_cons_zero
theorem nA {α : Type} {l : List α} : [] ++ l = l := rfl
theorem cA {α : Type} {a : α} {l m : List α} : (a :: l) ++ m = a :: (l ++ m) := rfl
/- The closing steps by name. -/
theorem zK {p : Prop} (h : p := by (with_reducible (repeat' (first | assumption | (apply jL; first | (simp; done) | rfl) | apply jM | apply jN | apply jO | apply jP | apply jQ | apply jR | apply jS | apply jT (hb := hb3 _ (jA _)) | omega | (simp; done) | (simp; omega) | (dsimp only; omega))))) : p := h
theorem zX {p : Prop} (h : p := by (with_reducible (repeat' (first | assumption | apply jG | apply jH | apply jI | apply jJ | apply jK | apply hb3x | omega | (simp; done) | (simp; omega) | (dsimp only; omega))))) : p := h
theorem zE {p : Prop} (h : p := by (with_reducible (repeat' (first | assumption | apply jA | apply jB | apply jC | apply jD | apply jE | apply jF | apply hb3 | omega | (simp; done) | (simp; omega) | (dsimp only; omega))))) : p := h
theorem zL {p : Prop} (h : p := by (with_reducible (repeat' (first | assumption | apply jA | apply jB | apply jC | apply jD | apply jE | apply jF | apply hb3 | apply jG | apply jH | apply jI | apply jJ | apply jK | apply hb3x | (apply jL; first | (simp; done) | rfl) | apply jM | apply jN | apply jO | apply jP | apply jQ | apply jR | apply jS | apply jT (hb := hb3 _ (jA _)) | omega | (simp; done) | (simp; omega) | (dsimp only; omega))))) : p := h
theorem zG {p : Prop} (h : p := by (simp only [gA, gB, gC] <;> rfl)) : p := h
theorem zS {p : Prop} (h : p := by go_simp <;> (try go_bits) <;> with_reducible rfl) : p := h
theorem zC {p : Prop} (h : p := by exact fun _ _ _ => rfl) : p := h
end Go.Proofs.YtbdgblnccjpahaaGreatDoor
namespace Go.Proofs.YtbdgblnccjpahaaGreatDoor
open Go.RowKit
section
variable {P : Program} {w0 w : World} {a : Act}

theorem absB1 {c : Code} {Q : Exit → Act → World → Prop} {g0 : Nat} {t0 : TypeId} {c0 : Array Value} (hb : Below w0.heap.size w0 w) (k0 : Blk w g0 t0 c0) (h : ∀ W, Below w0.heap.size w0 W → Blk W g0 t0 c0 → c.wp P Q a W) : c.wp P Q a w := h w hb k0
theorem absIB1 {F : Fence} {n : Nat} {c : Code} {Q : Exit → Act → World → Prop} {g0 : Nat} {t0 : TypeId} {c0 : Array Value} (hb : Below w0.heap.size w0 w) (k0 : Blk w g0 t0 c0) (h : ∀ W, Below w0.heap.size w0 W → Blk W g0 t0 c0 → c.wpIn F n P Q a W) : c.wpIn F n P Q a w := h w hb k0
theorem absTB1 {K : Act → World → Prop} {Q : Exit → Act → World → Prop} {x : Exit} {g0 : Nat} {t0 : TypeId} {c0 : Array Value} (hb : Below w0.heap.size w0 w) (k0 : Blk w g0 t0 c0) (h : ∀ W, Below w0.heap.size w0 W → Blk W g0 t0 c0 → Exit.then K Q x a W) : Exit.then K Q x a w := h w hb k0
theorem absPB1 {fn : Func} {R : Ending → World → Prop} {x : Exit} {g0 : Nat} {t0 : TypeId} {c0 : Array Value} (hb : Below w0.heap.size w0 w) (k0 : Blk w g0 t0 c0) (h : ∀ W, Below w0.heap.size w0 W → Blk W g0 t0 c0 → bodyPost P fn R x a W) : bodyPost P fn R x a w := h w hb k0
theorem absX2 {G : World → Prop} {g0 g1 : Nat} {t0 t1 : TypeId} {c0 c1 : Array Value} (hb : Below w0.heap.size w0 w) (k0 : Blk w g0 t0 c0) (k1 : Blk w g1 t1 c1) (h : ∀ W, Below w0.heap.size w0 W → Blk W g0 t0 c0 → Blk W g1 t1 c1 → G W) : G w := h w hb k0 k1
theorem absB2 {c : Code} {Q : Exit → Act → World → Prop} {g0 g1 : Nat} {t0 t1 : TypeId} {c0 c1 : Array Value} (hb : Below w0.heap.size w0 w) (k0 : Blk w g0 t0 c0) (k1 : Blk w g1 t1 c1) (h : ∀ W, Below w0.heap.size w0 W → Blk W g0 t0 c0 → Blk W g1 t1 c1 → c.wp P Q a W) : c.wp P Q a w := h w hb k0 k1
theorem absIB2 {F : Fence} {n : Nat} {c : Code} {Q : Exit → Act → World → Prop} {g0 g1 : Nat} {t0 t1 : TypeId} {c0 c1 : Array Value} (hb : Below w0.heap.size w0 w) (k0 : Blk w g0 t0 c0) (k1 : Blk w g1 t1 c1) (h : ∀ W, Below w0.heap.size w0 W → Blk W g0 t0 c0 → Blk W g1 t1 c1 → c.wpIn F n P Q a W) : c.wpIn F n P Q a w := h w hb k0 k1
theorem absTB2 {K : Act → World → Prop} {Q : Exit → Act → World → Prop} {x : Exit} {g0 g1 : Nat} {t0 t1 : TypeId} {c0 c1 : Array Value} (hb : Below w0.heap.size w0 w) (k0 : Blk w g0 t0 c0) (k1 : Blk w g1 t1 c1) (h : ∀ W, Below w0.heap.size w0 W → Blk W g0 t0 c0 → Blk W g1 t1 c1 → Exit.then K Q x a W) : Exit.then K Q x a w := h w hb k0 k1
theorem absPB2 {fn : Func} {R : Ending → World → Prop} {x : Exit} {g0 g1 : Nat} {t0 t1 : TypeId} {c0 c1 : Array Value} (hb : Below w0.heap.size w0 w) (k0 : Blk w g0 t0 c0) (k1 : Blk w g1 t1 c1) (h : ∀ W, Below w0.heap.size w0 W → Blk W g0 t0 c0 → Blk W g1 t1 c1 → bodyPost P fn R x a W) : bodyPost P fn R x a w := h w hb k0 k1
theorem absB3 {c : Code} {Q : Exit → Act → World → Prop} {g0 g1 g2 : Nat} {t0 t1 t2 : TypeId} {c0 c1 c2 : Array Value} (hb : Below w0.heap.size w0 w) (k0 : Blk w g0 t0 c0) (k1 : Blk w g1 t1 c1) (k2 : Blk w g2 t2 c2) (h : ∀ W, Below w0.heap.size w0 W → Blk W g0 t0 c0 → Blk W g1 t1 c1 → Blk W g2 t2 c2 → c.wp P Q a W) : c.wp P Q a w := h w hb k0 k1 k2
theorem absIB3 {F : Fence} {n : Nat} {c : Code} {Q : Exit → Act → World → Prop} {g0 g1 g2 : Nat} {t0 t1 t2 : TypeId} {c0 c1 c2 : Array Value} (hb : Below w0.heap.size w0 w) (k0 : Blk w g0 t0 c0) (k1 : Blk w g1 t1 c1) (k2 : Blk w g2 t2 c2) (h : ∀ W, Below w0.heap.size w0 W → Blk W g0 t0 c0 → Blk W g1 t1 c1 → Blk W g2 t2 c2 → c.wpIn F n P Q a W) : c.wpIn F n P Q a w := h w hb k0 k1 k2
theorem absTB3 {K : Act → World → Prop} {Q : Exit → Act → World → Prop} {x : Exit} {g0 g1 g2 : Nat} {t0 t1 t2 : TypeId} {c0 c1 c2 : Array Value} (hb : Below w0.heap.size w0 w) (k0 : Blk w g0 t0 c0) (k1 : Blk w g1 t1 c1) (k2 : Blk w g2 t2 c2) (h : ∀ W, Below w0.heap.size w0 W → Blk W g0 t0 c0 → Blk W g1 t1 c1 → Blk W g2 t2 c2 → Exit.then K Q x a W) : Exit.then K Q x a w := h w hb k0 k1 k2
theorem absB4 {c : Code} {Q : Exit → Act → World → Prop} {g0 g1 g2 g3 : Nat} {t0 t1 t2 t3 : TypeId} {c0 c1 c2 c3 : Array Value} (hb : Below w0.heap.size w0 w) (k0 : Blk w g0 t0 c0) (k1 : Blk w g1 t1 c1) (k2 : Blk w g2 t2 c2) (k3 : Blk w g3 t3 c3) (h : ∀ W, Below w0.heap.size w0 W → Blk W g0 t0 c0 → Blk W g1 t1 c1 → Blk W g2 t2 c2 → Blk W g3 t3 c3 → c.wp P Q a W) : c.wp P Q a w := h w hb k0 k1 k2 k3
theorem absIB4 {F : Fence} {n : Nat} {c : Code} {Q : Exit → Act → World → Prop} {g0 g1 g2 g3 : Nat} {t0 t1 t2 t3 : TypeId} {c0 c1 c2 c3 : Array Value} (hb : Below w0.heap.size w0 w) (k0 : Blk w g0 t0 c0) (k1 : Blk w g1 t1 c1) (k2 : Blk w g2 t2 c2) (k3 : Blk w g3 t3 c3) (h : ∀ W, Below w0.heap.size w0 W → Blk W g0 t0 c0 → Blk W g1 t1 c1 → Blk W g2 t2 c2 → Blk W g3 t3 c3 → c.wpIn F n P Q a W) : c.wpIn F n P Q a w := h w hb k0 k1 k2 k3
theorem absTB4 {K : Act → World → Prop} {Q : Exit → Act → World → Prop} {x : Exit} {g0 g1 g2 g3 : Nat} {t0 t1 t2 t3 : TypeId} {c0 c1 c2 c3 : Array Value} (hb : Below w0.heap.size w0 w) (k0 : Blk w g0 t0 c0) (k1 : Blk w g1 t1 c1) (k2 : Blk w g2 t2 c2) (k3 : Blk w g3 t3 c3) (h : ∀ W, Below w0.heap.size w0 W → Blk W g0 t0 c0 → Blk W g1 t1 c1 → Blk W g2 t2 c2 → Blk W g3 t3 c3 → Exit.then K Q x a W) : Exit.then K Q x a w := h w hb k0 k1 k2 k3
/-- Blocks that are new since w0. -/
def frX (w0 : World) (L : List Nat) : List Nat := L.filter fun x => decide (w0.heap.size ≤ x)
theorem frX_eq {w0 : World} {L : List Nat} (h : ∀ x ∈ L, w0.heap.size ≤ x) : frX w0 L = L := List.filter_eq_self.2 fun x hx => by simpa using h x hx
theorem bx_fresh {w0 A B : World} {L : List Nat} (h : BX (frX w0 L) A B) (hb : Below w0.heap.size w0 A) : Below w0.heap.size w0 B :=
  ⟨h.os.trans hb.os, h.tape.trans hb.tape, h.output.trans hb.output, Nat.le_trans hb.size h.size, fun k hk => (h.block k (Nat.lt_of_lt_of_le hk hb.size) (fun e => by
    have := (List.mem_filter.1 e).2
    simp at this
    omega)).trans (hb.block k hk)⟩
end
end Go.Proofs.YtbdgblnccjpahaaGreatDoor
namespace Go.Proofs.YtbdgblnccjpahaaGreatDoor
open Go.RowKit
/-- The region's only way out is its end. -/
def Only (Q : Exit → Act → World → Prop) : Exit → Act → World → Prop
  | .normal, a, w => Q .normal a w
  | _, _, _ => False
theorem Only.imp {Q : Exit → Act → World → Prop} : ∀ (e : Exit) (a : Act) (w : World), NoPanic (Only Q) e a w → Q e a w := fun e a w h => by
  cases e <;> first | exact h | exact (h : False).elim
theorem only_done {Q : Exit → Act → World → Prop} {a : Act} {w : World} (h : Q .normal a w) : Only Q .normal a w := h
theorem only_shut {Q : Exit → Act → World → Prop} : ¬ LetsOut (NoPanic (Only Q)) := fun ⟨_, _, h⟩ => h
def noDefer (ops : Array Oper) : Bool := ops.all fun o => match o.op with | .defer _ => false | _ => true
theorem noDefer_at {ops : Array Oper} (h : noDefer ops = true) {i : Nat} {o : Oper} (ho : ops[i]? = some o) : ∀ c, o.op ≠ .defer c := fun c hc => by
  have hm := Array.mem_of_getElem? ho
  have := Array.all_eq_true'.1 h o hm
  rw [hc] at this
  cases this
theorem bx_cell0 {X : List Nat} {w0 w : World} {g : Nat} {t : TypeId} {old : Value} (hb : BX X w0 w) (hk : Blk w0 g t #[old]) (hg : g ∈ X) : ∃ c, w.cell? ⟨g, 0, none⟩ = some c ∧ w.frozen? ⟨g, 0, none⟩ = false := by
  obtain ⟨cs, h1, h2⟩ := hb.shape g hg t _ hk
  refine ⟨cs.getD 0 undef, ?_, h1.frozen 0⟩
  rw [h1.cell 0]
  have : 0 < cs.size := by rw [h2]; simp
  simp [this]
section
variable {P : Program} {ops : Array Oper} {Q : Exit → Act → World → Prop} {n l : Nat}
theorem opIn_of_wp {o : Oper} {a : Act} {w : World} {K : Act → World → Prop} (hd : ∀ c, o.op ≠ .defer c) (h : o.wp P a w K Q) : o.wpIn (Fence.wide.inRound l) n P a w K Q := by
  unfold Oper.wpIn
  refine ⟨fun _ _ => trivial, ?_⟩
  rw [Fence.inRound_round, Oper.semAt_some l _ _ hd]
  unfold Oper.wp at h
  generalize (execOp a.eval o).run P w = r at *
  cases r with
  | ok x w' =>
    cases x <;> simp only [Oper.upon, Oper.uponIn] at h ⊢
    case value => exact h
    case skip => exact h
    case defer => exact h
    case enter => exact ⟨fun hd => (by simp [Fence.wide] at hd), CallsIn.inRound l (callsIn_wide.2 h)⟩
    case row => exact ⟨fun hd => (by simp [Fence.wide] at hd), fun c cs _ => let ⟨v, w', r, s⟩ := h c cs; ⟨v, w', r, stepsIn_wide.2 s⟩⟩
  | halt x w' => cases x <;> simp only [Oper.upon, Oper.uponIn] at h ⊢ <;> exact h
theorem wpOpIn_of {i : Nat} {a : Act} {w : World} {K : Act → World → Prop} (hd : noDefer ops = true) (hQ : ¬ LetsOut Q) (h : wpOp P ops Q i K a w) : wpOpIn (Fence.wide.inRound l) n P ops Q i K a w := by
  unfold wpOp at h
  unfold wpOpIn
  cases ho : ops[i]? with
  | none => simpa [ho] using h
  | some o =>
    simp only [ho] at h ⊢
    split
    · rename_i hw
      rw [if_pos hw] at h
      rcases h with h | ⟨_, h⟩
      · exact opIn_of_wp (noDefer_at hd ho) h
      · exact (hQ h).elim
    · rename_i hw
      rw [if_neg hw] at h
      exact ⟨fun _ _ => trivial, h⟩
theorem wpAnyIn_of {md : Region.Mode} (hd : noDefer ops = true) (hQ : ¬ LetsOut Q) : ∀ (fuel : Nat) (listed : Array Bool) (a : Act) (w : World),
    wpAny P md ops Q fuel listed a w → wpAnyIn (Fence.wide.inRound l) n P md ops Q fuel listed a w
  | 0, _, _, _, h => h
  | fuel + 1, listed, a, w, h => ⟨h.1, fun i hi => wpOpIn_of hd hQ (wpOp_mono (fun a' w' h' => wpAnyIn_of hd hQ fuel _ a' w' h') (h.2 i hi))⟩
end
end Go.Proofs.YtbdgblnccjpahaaGreatDoor
namespace Go.Proofs.YtbdgblnccjpahaaGreatDoor
open Go.RowKit
/-- Since A all cells lie as they lay, and whatever lay below D. -/
structure CK (D : Nat) (A B : World) : Prop where
  os : B.os = A.os
  tape : B.tape = A.tape
  output : B.output = A.output
  size : A.heap.size ≤ B.heap.size
  keep : ∀ k o, A.heap[k]? = some o → (k < D ∨ o.isCells = true) → B.heap[k]? = some o
theorem CK.of_below {D : Nat} {A B : World} (h : Below A.heap.size A B) : CK D A B :=
  ⟨h.os, h.tape, h.output, h.size, fun k _ hk _ => (h.block k (Array.getElem?_eq_some_iff.1 hk).1).trans hk⟩
theorem CK.put {D r : Nat} {A : World} {o : Obj} (o' : Obj) (h : A.heap[r]? = some o) (hc : o.isCells = false) (hr : D ≤ r) : CK D A (A.putObj r o') :=
  ⟨rfl, rfl, rfl, by simp, fun k u hk hu => by
    by_cases e : k = r
    · subst e
      rw [h] at hk; cases hk
      rcases hu with hu | hu
      · omega
      · rw [hc] at hu; cases hu
    · exact (World.putObj_heap_other e).trans hk⟩
theorem CK.blk {D g : Nat} {A B : World} {t : TypeId} {cs : Array Value} (h : CK D A B) (hk : Blk A g t cs) : Blk B g t cs := h.keep g _ hk (.inr rfl)
theorem CK.belowOf {D : Nat} {w A B : World} (hD : w.heap.size ≤ D) (h : CK D A B) (hb : Below w.heap.size w A) : Below w.heap.size w B :=
  ⟨h.os.trans hb.os, h.tape.trans hb.tape, h.output.trans hb.output, Nat.le_trans hb.size h.size, fun k hk => by
    have hk' : k < A.heap.size := Nat.lt_of_lt_of_le hk hb.size
    have := h.keep k A.heap[k] (Array.getElem?_eq_getElem hk') (.inl (by omega))
    rw [this, ← Array.getElem?_eq_getElem hk', hb.block k hk]⟩
theorem BX.trans {X : List Nat} {a b c : World} (h : BX X a b) (k : BX X b c) : BX X a c :=
  ⟨k.os.trans h.os, k.tape.trans h.tape, k.output.trans h.output, Nat.le_trans h.size k.size, fun i hi hX => (k.block i (Nat.lt_of_lt_of_le hi h.size) hX).trans (h.block i hi hX),
   fun g hg t cs hk => by obtain ⟨c1, h1, h2⟩ := h.shape g hg t cs hk; obtain ⟨c2, h3, h4⟩ := k.shape g hg t c1 h1; exact ⟨c2, h3, h4.trans h2⟩⟩
theorem BX.wider {X : List Nat} {a b : World} (r : Nat) (h : BX X a b) : BX (r :: X) a b :=
  ⟨h.os, h.tape, h.output, h.size, fun i hi hX => h.block i hi (fun e => hX (List.mem_cons_of_mem _ e)), fun g hg t cs hk => by
    by_cases e : g ∈ X
    · exact h.shape g e t cs hk
    · exact ⟨cs, (h.block g (Array.getElem?_eq_some_iff.1 hk).1 e).trans hk, rfl⟩⟩
theorem BX.drop {X : List Nat} {a b : World} {r : Nat} (h : BX (r :: X) a b) (e : b.heap[r]? = a.heap[r]?) : BX X a b :=
  ⟨h.os, h.tape, h.output, h.size, fun i hi hX => by
    by_cases e' : i = r
    · rw [e', e]
    · exact h.block i hi (by simp [e', hX]), fun g hg => h.shape g (List.mem_cons_of_mem _ hg)⟩
/-- A function whose body holds a range over a function. -/
theorem calls_marks {P : Program} {f : FuncId} {fn : Func} {c : Code} {args : Array Value} {w : World} {R : Ending → World → Prop} (hf : P.funcs[f]? = some fn) (hb : fn.body = some c)
    (h : c.wp P (bodyPostM Fence.wide 6 P fn R) { tmps := args ++ Array.replicate (fn.ntmps - args.size) undef, defers := [] } w) : Calls P f args w R :=
  callsIn_wide.1 (callsIn_of_wp_marks (n := 6) hf hb trivial (wpIn_wide.2 h))
end Go.Proofs.YtbdgblnccjpahaaGreatDoor
