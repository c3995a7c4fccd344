/-
  Behind the assignments to a range's left sides: what is known of the body's first world.
  What chapter 7 computes, as plain functions on numbers and lists: frames, streams, nets. Nothing here speaks of the program.
  Slices of a call's own: what becomes of them in later worlds, copies of slices. Nothing here speaks of the program's functions.
  bus.each at numbers, streams, strings, functions and modes, the check with a state of its own; slices.IndexFunc and slices.ContainsFunc. (Printed by gen_each.py.)
  Walks of chapter 7's smallest functions: comparisons, errors, names.
  The walk of isName: whether a string is a name.
  Plain laws of remainders: they are bytes, and the remainder of what is xored is the xor of the remainders.
  Walks: the error of bytes, and their remainder.
  Walks: the check of names, one after the other; ascending indexes.
  A region that draws its order, in whatever order, of which one operation (m) may turn some old blocks (M) that no other operation looks at; nothing is stored behind it.
-/
import Derived.Test.YtdlmkblmljhbfaaDoorU1
import GoSem.Core.Value
import Derived.ArgAppend
import Derived.Laws.OwnMore
import Derived.Laws.BitsAllLaws
import Derived.Shelf.Abstract
import Derived.Maps.OwnSet
import Derived.Carry
import Derived.Laws.EntriesVeiled
namespace Go.Proofs.YtdlmkblmljhbfaaDoor
set_option linter.unusedSimpArgs false
set_option linter.unusedVariables false
open Go.RowKit
section
variable {P : Program} {w0 w W0 : World} {a : Act} {F : Fence} {n D : Nat} {c : Code} {Q : World → Exit → Act → World → Prop} {X : List Nat}

theorem midK1 {g0 : Nat} {t0 : TypeId} {c0 : Array Value} (hD : w0.heap.size ≤ D) (hb : Below w0.heap.size w0 w) (hx : BX X W0 w) (k0 : Blk w g0 t0 c0) (h : ∀ W, Below w0.heap.size w0 W → CK D w W → Blk W g0 t0 c0 → c.wpIn F n P (Q W) a W) : BX X W0 w ∧ ∀ W, CK D w W → c.wpIn F n P (Q W) a W := ⟨hx, fun W h' => h W (h'.belowOf hD hb) h' (h'.blk k0)⟩
theorem midK2 {g0 g1 : Nat} {t0 t1 : TypeId} {c0 c1 : Array Value} (hD : w0.heap.size ≤ D) (hb : Below w0.heap.size w0 w) (hx : BX X W0 w) (k0 : Blk w g0 t0 c0) (k1 : Blk w g1 t1 c1) (h : ∀ W, Below w0.heap.size w0 W → CK D w W → Blk W g0 t0 c0 → Blk W g1 t1 c1 → c.wpIn F n P (Q W) a W) : BX X W0 w ∧ ∀ W, CK D w W → c.wpIn F n P (Q W) a W := ⟨hx, fun W h' => h W (h'.belowOf hD hb) h' (h'.blk k0) (h'.blk k1)⟩
theorem midK3 {g0 g1 g2 : Nat} {t0 t1 t2 : TypeId} {c0 c1 c2 : Array Value} (hD : w0.heap.size ≤ D) (hb : Below w0.heap.size w0 w) (hx : BX X W0 w) (k0 : Blk w g0 t0 c0) (k1 : Blk w g1 t1 c1) (k2 : Blk w g2 t2 c2) (h : ∀ W, Below w0.heap.size w0 W → CK D w W → Blk W g0 t0 c0 → Blk W g1 t1 c1 → Blk W g2 t2 c2 → c.wpIn F n P (Q W) a W) : BX X W0 w ∧ ∀ W, CK D w W → c.wpIn F n P (Q W) a W := ⟨hx, fun W h' => h W (h'.belowOf hD hb) h' (h'.blk k0) (h'.blk k1) (h'.blk k2)⟩
theorem midK4 {g0 g1 g2 g3 : Nat} {t0 t1 t2 t3 : TypeId} {c0 c1 c2 c3 : Array Value} (hD : w0.heap.size ≤ D) (hb : Below w0.heap.size w0 w) (hx : BX X W0 w) (k0 : Blk w g0 t0 c0) (k1 : Blk w g1 t1 c1) (k2 : Blk w g2 t2 c2) (k3 : Blk w g3 t3 c3) (h : ∀ W, Below w0.heap.size w0 W → CK D w W → Blk W g0 t0 c0 → Blk W g1 t1 c1 → Blk W g2 t2 c2 → Blk W g3 t3 c3 → c.wpIn F n P (Q W) a W) : BX X W0 w ∧ ∀ W, CK D w W → c.wpIn F n P (Q W) a W := ⟨hx, fun W h' => h W (h'.belowOf hD hb) h' (h'.blk k0) (h'.blk k1) (h'.blk k2) (h'.blk k3)⟩
theorem midK5 {g0 g1 g2 g3 g4 : Nat} {t0 t1 t2 t3 t4 : TypeId} {c0 c1 c2 c3 c4 : Array Value} (hD : w0.heap.size ≤ D) (hb : Below w0.heap.size w0 w) (hx : BX X W0 w) (k0 : Blk w g0 t0 c0) (k1 : Blk w g1 t1 c1) (k2 : Blk w g2 t2 c2) (k3 : Blk w g3 t3 c3) (k4 : Blk w g4 t4 c4) (h : ∀ W, Below w0.heap.size w0 W → CK D w W → Blk W g0 t0 c0 → Blk W g1 t1 c1 → Blk W g2 t2 c2 → Blk W g3 t3 c3 → Blk W g4 t4 c4 → c.wpIn F n P (Q W) a W) : BX X W0 w ∧ ∀ W, CK D w W → c.wpIn F n P (Q W) a W := ⟨hx, fun W h' => h W (h'.belowOf hD hb) h' (h'.blk k0) (h'.blk k1) (h'.blk k2) (h'.blk k3) (h'.blk k4)⟩
theorem midK6 {g0 g1 g2 g3 g4 g5 : Nat} {t0 t1 t2 t3 t4 t5 : TypeId} {c0 c1 c2 c3 c4 c5 : Array Value} (hD : w0.heap.size ≤ D) (hb : Below w0.heap.size w0 w) (hx : BX X W0 w) (k0 : Blk w g0 t0 c0) (k1 : Blk w g1 t1 c1) (k2 : Blk w g2 t2 c2) (k3 : Blk w g3 t3 c3) (k4 : Blk w g4 t4 c4) (k5 : Blk w g5 t5 c5) (h : ∀ W, Below w0.heap.size w0 W → CK D w W → Blk W g0 t0 c0 → Blk W g1 t1 c1 → Blk W g2 t2 c2 → Blk W g3 t3 c3 → Blk W g4 t4 c4 → Blk W g5 t5 c5 → c.wpIn F n P (Q W) a W) : BX X W0 w ∧ ∀ W, CK D w W → c.wpIn F n P (Q W) a W := ⟨hx, fun W h' => h W (h'.belowOf hD hb) h' (h'.blk k0) (h'.blk k1) (h'.blk k2) (h'.blk k3) (h'.blk k4) (h'.blk k5)⟩
theorem midK7 {g0 g1 g2 g3 g4 g5 g6 : Nat} {t0 t1 t2 t3 t4 t5 t6 : TypeId} {c0 c1 c2 c3 c4 c5 c6 : Array Value} (hD : w0.heap.size ≤ D) (hb : Below w0.heap.size w0 w) (hx : BX X W0 w) (k0 : Blk w g0 t0 c0) (k1 : Blk w g1 t1 c1) (k2 : Blk w g2 t2 c2) (k3 : Blk w g3 t3 c3) (k4 : Blk w g4 t4 c4) (k5 : Blk w g5 t5 c5) (k6 : Blk w g6 t6 c6) (h : ∀ W, Below w0.heap.size w0 W → CK D w W → Blk W g0 t0 c0 → Blk W g1 t1 c1 → Blk W g2 t2 c2 → Blk W g3 t3 c3 → Blk W g4 t4 c4 → Blk W g5 t5 c5 → Blk W g6 t6 c6 → c.wpIn F n P (Q W) a W) : BX X W0 w ∧ ∀ W, CK D w W → c.wpIn F n P (Q W) a W := ⟨hx, fun W h' => h W (h'.belowOf hD hb) h' (h'.blk k0) (h'.blk k1) (h'.blk k2) (h'.blk k3) (h'.blk k4) (h'.blk k5) (h'.blk k6)⟩
theorem midK8 {g0 g1 g2 g3 g4 g5 g6 g7 : Nat} {t0 t1 t2 t3 t4 t5 t6 t7 : TypeId} {c0 c1 c2 c3 c4 c5 c6 c7 : Array Value} (hD : w0.heap.size ≤ D) (hb : Below w0.heap.size w0 w) (hx : BX X W0 w) (k0 : Blk w g0 t0 c0) (k1 : Blk w g1 t1 c1) (k2 : Blk w g2 t2 c2) (k3 : Blk w g3 t3 c3) (k4 : Blk w g4 t4 c4) (k5 : Blk w g5 t5 c5) (k6 : Blk w g6 t6 c6) (k7 : Blk w g7 t7 c7) (h : ∀ W, Below w0.heap.size w0 W → CK D w W → Blk W g0 t0 c0 → Blk W g1 t1 c1 → Blk W g2 t2 c2 → Blk W g3 t3 c3 → Blk W g4 t4 c4 → Blk W g5 t5 c5 → Blk W g6 t6 c6 → Blk W g7 t7 c7 → c.wpIn F n P (Q W) a W) : BX X W0 w ∧ ∀ W, CK D w W → c.wpIn F n P (Q W) a W := ⟨hx, fun W h' => h W (h'.belowOf hD hb) h' (h'.blk k0) (h'.blk k1) (h'.blk k2) (h'.blk k3) (h'.blk k4) (h'.blk k5) (h'.blk k6) (h'.blk k7)⟩
theorem goesK1 {α : Type} {I : List α → World → Prop} {xs : List α} {B : World} {X' : List Nat} {g0 : Nat} {t0 : TypeId} {c0 : Array Value} (hb : BX X w0 w) (k0 : Blk w g0 t0 c0) (h : ∀ W, BX X w0 W → Blk W g0 t0 c0 → Goes X' I xs B .normal a W) : Goes X' I xs B .normal a w := h w hb k0
theorem goesK2 {α : Type} {I : List α → World → Prop} {xs : List α} {B : World} {X' : List Nat} {g0 g1 : Nat} {t0 t1 : TypeId} {c0 c1 : Array Value} (hb : BX X w0 w) (k0 : Blk w g0 t0 c0) (k1 : Blk w g1 t1 c1) (h : ∀ W, BX X w0 W → Blk W g0 t0 c0 → Blk W g1 t1 c1 → Goes X' I xs B .normal a W) : Goes X' I xs B .normal a w := h w hb k0 k1
theorem goesK3 {α : Type} {I : List α → World → Prop} {xs : List α} {B : World} {X' : List Nat} {g0 g1 g2 : Nat} {t0 t1 t2 : TypeId} {c0 c1 c2 : Array Value} (hb : BX X w0 w) (k0 : Blk w g0 t0 c0) (k1 : Blk w g1 t1 c1) (k2 : Blk w g2 t2 c2) (h : ∀ W, BX X w0 W → Blk W g0 t0 c0 → Blk W g1 t1 c1 → Blk W g2 t2 c2 → Goes X' I xs B .normal a W) : Goes X' I xs B .normal a w := h w hb k0 k1 k2
theorem goesK4 {α : Type} {I : List α → World → Prop} {xs : List α} {B : World} {X' : List Nat} {g0 g1 g2 g3 : Nat} {t0 t1 t2 t3 : TypeId} {c0 c1 c2 c3 : Array Value} (hb : BX X w0 w) (k0 : Blk w g0 t0 c0) (k1 : Blk w g1 t1 c1) (k2 : Blk w g2 t2 c2) (k3 : Blk w g3 t3 c3) (h : ∀ W, BX X w0 W → Blk W g0 t0 c0 → Blk W g1 t1 c1 → Blk W g2 t2 c2 → Blk W g3 t3 c3 → Goes X' I xs B .normal a W) : Goes X' I xs B .normal a w := h w hb k0 k1 k2 k3
theorem goesK5 {α : Type} {I : List α → World → Prop} {xs : List α} {B : World} {X' : List Nat} {g0 g1 g2 g3 g4 : Nat} {t0 t1 t2 t3 t4 : TypeId} {c0 c1 c2 c3 c4 : Array Value} (hb : BX X w0 w) (k0 : Blk w g0 t0 c0) (k1 : Blk w g1 t1 c1) (k2 : Blk w g2 t2 c2) (k3 : Blk w g3 t3 c3) (k4 : Blk w g4 t4 c4) (h : ∀ W, BX X w0 W → Blk W g0 t0 c0 → Blk W g1 t1 c1 → Blk W g2 t2 c2 → Blk W g3 t3 c3 → Blk W g4 t4 c4 → Goes X' I xs B .normal a W) : Goes X' I xs B .normal a w := h w hb k0 k1 k2 k3 k4
theorem goesK6 {α : Type} {I : List α → World → Prop} {xs : List α} {B : World} {X' : List Nat} {g0 g1 g2 g3 g4 g5 : Nat} {t0 t1 t2 t3 t4 t5 : TypeId} {c0 c1 c2 c3 c4 c5 : Array Value} (hb : BX X w0 w) (k0 : Blk w g0 t0 c0) (k1 : Blk w g1 t1 c1) (k2 : Blk w g2 t2 c2) (k3 : Blk w g3 t3 c3) (k4 : Blk w g4 t4 c4) (k5 : Blk w g5 t5 c5) (h : ∀ W, BX X w0 W → Blk W g0 t0 c0 → Blk W g1 t1 c1 → Blk W g2 t2 c2 → Blk W g3 t3 c3 → Blk W g4 t4 c4 → Blk W g5 t5 c5 → Goes X' I xs B .normal a W) : Goes X' I xs B .normal a w := h w hb k0 k1 k2 k3 k4 k5
theorem goesK7 {α : Type} {I : List α → World → Prop} {xs : List α} {B : World} {X' : List Nat} {g0 g1 g2 g3 g4 g5 g6 : Nat} {t0 t1 t2 t3 t4 t5 t6 : TypeId} {c0 c1 c2 c3 c4 c5 c6 : Array Value} (hb : BX X w0 w) (k0 : Blk w g0 t0 c0) (k1 : Blk w g1 t1 c1) (k2 : Blk w g2 t2 c2) (k3 : Blk w g3 t3 c3) (k4 : Blk w g4 t4 c4) (k5 : Blk w g5 t5 c5) (k6 : Blk w g6 t6 c6) (h : ∀ W, BX X w0 W → Blk W g0 t0 c0 → Blk W g1 t1 c1 → Blk W g2 t2 c2 → Blk W g3 t3 c3 → Blk W g4 t4 c4 → Blk W g5 t5 c5 → Blk W g6 t6 c6 → Goes X' I xs B .normal a W) : Goes X' I xs B .normal a w := h w hb k0 k1 k2 k3 k4 k5 k6
theorem goesK8 {α : Type} {I : List α → World → Prop} {xs : List α} {B : World} {X' : List Nat} {g0 g1 g2 g3 g4 g5 g6 g7 : Nat} {t0 t1 t2 t3 t4 t5 t6 t7 : TypeId} {c0 c1 c2 c3 c4 c5 c6 c7 : Array Value} (hb : BX X w0 w) (k0 : Blk w g0 t0 c0) (k1 : Blk w g1 t1 c1) (k2 : Blk w g2 t2 c2) (k3 : Blk w g3 t3 c3) (k4 : Blk w g4 t4 c4) (k5 : Blk w g5 t5 c5) (k6 : Blk w g6 t6 c6) (k7 : Blk w g7 t7 c7) (h : ∀ W, BX X w0 W → Blk W g0 t0 c0 → Blk W g1 t1 c1 → Blk W g2 t2 c2 → Blk W g3 t3 c3 → Blk W g4 t4 c4 → Blk W g5 t5 c5 → Blk W g6 t6 c6 → Blk W g7 t7 c7 → Goes X' I xs B .normal a W) : Goes X' I xs B .normal a w := h w hb k0 k1 k2 k3 k4 k5 k6 k7
theorem absPMB1 {m : Nat} {fn : Func} {R : Ending → World → Prop} {x : Exit} {g0 : Nat} {t0 : TypeId} {c0 : Array Value} (hb : Below w0.heap.size w0 w) (k0 : Blk w g0 t0 c0) (h : ∀ W, Below w0.heap.size w0 W → Blk W g0 t0 c0 → bodyPostM F m P fn R x a W) : bodyPostM F m P fn R x a w := h w hb k0
theorem absPMB2 {m : Nat} {fn : Func} {R : Ending → World → Prop} {x : Exit} {g0 g1 : Nat} {t0 t1 : TypeId} {c0 c1 : Array Value} (hb : Below w0.heap.size w0 w) (k0 : Blk w g0 t0 c0) (k1 : Blk w g1 t1 c1) (h : ∀ W, Below w0.heap.size w0 W → Blk W g0 t0 c0 → Blk W g1 t1 c1 → bodyPostM F m P fn R x a W) : bodyPostM F m P fn R x a w := h w hb k0 k1
theorem absPMB3 {m : Nat} {fn : Func} {R : Ending → World → Prop} {x : Exit} {g0 g1 g2 : Nat} {t0 t1 t2 : TypeId} {c0 c1 c2 : Array Value} (hb : Below w0.heap.size w0 w) (k0 : Blk w g0 t0 c0) (k1 : Blk w g1 t1 c1) (k2 : Blk w g2 t2 c2) (h : ∀ W, Below w0.heap.size w0 W → Blk W g0 t0 c0 → Blk W g1 t1 c1 → Blk W g2 t2 c2 → bodyPostM F m P fn R x a W) : bodyPostM F m P fn R x a w := h w hb k0 k1 k2
theorem absPMB4 {m : Nat} {fn : Func} {R : Ending → World → Prop} {x : Exit} {g0 g1 g2 g3 : Nat} {t0 t1 t2 t3 : TypeId} {c0 c1 c2 c3 : Array Value} (hb : Below w0.heap.size w0 w) (k0 : Blk w g0 t0 c0) (k1 : Blk w g1 t1 c1) (k2 : Blk w g2 t2 c2) (k3 : Blk w g3 t3 c3) (h : ∀ W, Below w0.heap.size w0 W → Blk W g0 t0 c0 → Blk W g1 t1 c1 → Blk W g2 t2 c2 → Blk W g3 t3 c3 → bodyPostM F m P fn R x a W) : bodyPostM F m P fn R x a w := h w hb k0 k1 k2 k3
theorem absPMB5 {m : Nat} {fn : Func} {R : Ending → World → Prop} {x : Exit} {g0 g1 g2 g3 g4 : Nat} {t0 t1 t2 t3 t4 : TypeId} {c0 c1 c2 c3 c4 : Array Value} (hb : Below w0.heap.size w0 w) (k0 : Blk w g0 t0 c0) (k1 : Blk w g1 t1 c1) (k2 : Blk w g2 t2 c2) (k3 : Blk w g3 t3 c3) (k4 : Blk w g4 t4 c4) (h : ∀ W, Below w0.heap.size w0 W → Blk W g0 t0 c0 → Blk W g1 t1 c1 → Blk W g2 t2 c2 → Blk W g3 t3 c3 → Blk W g4 t4 c4 → bodyPostM F m P fn R x a W) : bodyPostM F m P fn R x a w := h w hb k0 k1 k2 k3 k4
theorem absPMB6 {m : Nat} {fn : Func} {R : Ending → World → Prop} {x : Exit} {g0 g1 g2 g3 g4 g5 : Nat} {t0 t1 t2 t3 t4 t5 : TypeId} {c0 c1 c2 c3 c4 c5 : Array Value} (hb : Below w0.heap.size w0 w) (k0 : Blk w g0 t0 c0) (k1 : Blk w g1 t1 c1) (k2 : Blk w g2 t2 c2) (k3 : Blk w g3 t3 c3) (k4 : Blk w g4 t4 c4) (k5 : Blk w g5 t5 c5) (h : ∀ W, Below w0.heap.size w0 W → Blk W g0 t0 c0 → Blk W g1 t1 c1 → Blk W g2 t2 c2 → Blk W g3 t3 c3 → Blk W g4 t4 c4 → Blk W g5 t5 c5 → bodyPostM F m P fn R x a W) : bodyPostM F m P fn R x a w := h w hb k0 k1 k2 k3 k4 k5
theorem absPMB7 {m : Nat} {fn : Func} {R : Ending → World → Prop} {x : Exit} {g0 g1 g2 g3 g4 g5 g6 : Nat} {t0 t1 t2 t3 t4 t5 t6 : TypeId} {c0 c1 c2 c3 c4 c5 c6 : Array Value} (hb : Below w0.heap.size w0 w) (k0 : Blk w g0 t0 c0) (k1 : Blk w g1 t1 c1) (k2 : Blk w g2 t2 c2) (k3 : Blk w g3 t3 c3) (k4 : Blk w g4 t4 c4) (k5 : Blk w g5 t5 c5) (k6 : Blk w g6 t6 c6) (h : ∀ W, Below w0.heap.size w0 W → Blk W g0 t0 c0 → Blk W g1 t1 c1 → Blk W g2 t2 c2 → Blk W g3 t3 c3 → Blk W g4 t4 c4 → Blk W g5 t5 c5 → Blk W g6 t6 c6 → bodyPostM F m P fn R x a W) : bodyPostM F m P fn R x a w := h w hb k0 k1 k2 k3 k4 k5 k6
theorem absPMB8 {m : Nat} {fn : Func} {R : Ending → World → Prop} {x : Exit} {g0 g1 g2 g3 g4 g5 g6 g7 : Nat} {t0 t1 t2 t3 t4 t5 t6 t7 : TypeId} {c0 c1 c2 c3 c4 c5 c6 c7 : Array Value} (hb : Below w0.heap.size w0 w) (k0 : Blk w g0 t0 c0) (k1 : Blk w g1 t1 c1) (k2 : Blk w g2 t2 c2) (k3 : Blk w g3 t3 c3) (k4 : Blk w g4 t4 c4) (k5 : Blk w g5 t5 c5) (k6 : Blk w g6 t6 c6) (k7 : Blk w g7 t7 c7) (h : ∀ W, Below w0.heap.size w0 W → Blk W g0 t0 c0 → Blk W g1 t1 c1 → Blk W g2 t2 c2 → Blk W g3 t3 c3 → Blk W g4 t4 c4 → Blk W g5 t5 c5 → Blk W g6 t6 c6 → Blk W g7 t7 c7 → bodyPostM F m P fn R x a W) : bodyPostM F m P fn R x a w := h w hb k0 k1 k2 k3 k4 k5 k6 k7
theorem postM_ret {m : Nat} {fn : Func} {R : Ending → World → Prop} {v : Value} {ts : Array Value} (hr : (results fn ts).run P w = .ok v w) (h : R (.returned v) w) : bodyPostM F m P fn R .ret { tmps := ts, defers := [] } w := ⟨v, hr, h⟩
/-- The return behind a range over a function: the block for its rounds' deferred calls is empty. -/
theorem postM_taken {m : Nat} {fn : Func} {R : Ending → World → Prop} {v : Value} {ts : Array Value} (hK : w.heap[D]? = some (.deferred (some []))) (hr : (results fn ts).run P (w.putObj D (.deferred none)) = .ok v (w.putObj D (.deferred none)))
    (h : R (.returned v) (w.putObj D (.deferred none))) : bodyPostM F m P fn R .ret { tmps := ts, defers := [{ target := .collected D, args := #[] }] } w :=
  ⟨by simp, .inl ⟨_, _, rfl, run_takeDeferred hK, ⟨v, hr, h⟩⟩⟩
theorem bx_below {A B : World} (hb : Below w.heap.size w A) (h : BX X A B) (hX : ∀ x ∈ X, w.heap.size ≤ x) : Below w.heap.size w B :=
  ⟨h.os.trans hb.os, h.tape.trans hb.tape, h.output.trans hb.output, Nat.le_trans hb.size h.size, fun k hk => (h.block k (Nat.lt_of_lt_of_le hk hb.size) (fun e => by have := hX k e; omega)).trans (hb.block k hk)⟩
end
end Go.Proofs.YtdlmkblmljhbfaaDoor
namespace Go.Proofs.YtdlmkblmljhbfaaDoor
set_option linter.unusedSimpArgs false
set_option linter.unusedVariables false

structure Rg where
  lo : Int
  hi : Int
  deriving DecidableEq
/-- A stream. -/
structure Sm where
  name : ByteArray
  per : Int
  dl : Int
  len : Int
/-- A message. -/
structure Ms where
  src : Int
  num : Int
  kind : Int
  d0 : Int
  d1 : Int
  d2 : Int
  d3 : Int
  deriving DecidableEq
/-- A frame. -/
structure Fr where
  a0 : Int
  a1 : Int
  a2 : Int
  a3 : Int
  a4 : Int
  a5 : Int
  a6 : Int
  a7 : Int
  deriving DecidableEq
/-- Numbers, and where they lie. -/
structure Rw where
  A : Option Addr
  c : Nat
  l : List Int
/-- A function of a net, and where its ways lie. -/
structure Fu where
  name : ByteArray
  A : Option Addr
  c : Nat
  ws : List Rw
structure Md where
  name : ByteArray
  r : Rw
structure Nt where
  ps : List ByteArray
  fs : List Fu
  ms : List Md

def cI (x : Int) : List Value := [.int .i64 x]
def cS (x : ByteArray) : List Value := [.string x]
def cRg (x : Rg) : List Value := [.int .i64 x.lo, .int .i64 x.hi]
def cSm (x : Sm) : List Value := [.string x.name, .int .i64 x.per, .int .i64 x.dl, .int .i64 x.len]
def Fr.l (f : Fr) : List Int := [f.a0, f.a1, f.a2, f.a3, f.a4, f.a5, f.a6, f.a7]
def cFr (x : Fr) : List Value := x.l.map (.int .i64)
abbrev vRw (x : Rw) : Value := .slice x.A x.l.length x.c
def cRw (x : Rw) : List Value := [vRw x]
def cFu (x : Fu) : List Value := [.string x.name, .slice x.A x.ws.length x.c]
def cMd (x : Md) : List Value := [.string x.name, vRw x.r]

abbrev vRg (r : Rg) : Value := .agg #[.int .i64 r.lo, .int .i64 r.hi]
abbrev vSm (x : Sm) : Value := .agg #[.string x.name, .int .i64 x.per, .int .i64 x.dl, .int .i64 x.len]
abbrev vFu (x : Fu) : Value := .agg #[.string x.name, .slice x.A x.ws.length x.c]
abbrev vMd (x : Md) : Value := .agg #[.string x.name, vRw x.r]
abbrev aMs (m : Ms) : Array Value := #[.int .i64 m.src, .int .i64 m.num, .int .i64 m.kind, .int .i64 m.d0, .int .i64 m.d1, .int .i64 m.d2, .int .i64 m.d3]
abbrev vMs (m : Ms) : Value := .agg (aMs m)
abbrev aFr (f : Fr) : Array Value := #[.int .i64 f.a0, .int .i64 f.a1, .int .i64 f.a2, .int .i64 f.a3, .int .i64 f.a4, .int .i64 f.a5, .int .i64 f.a6, .int .i64 f.a7]
abbrev vFr (f : Fr) : Value := .agg (aFr f)

/-- The first error, and its place. -/
def eachS {α : Type} (err : Nat → α → Int) : List α → Nat → Int × Int
  | [], _ => (0, 0)
  | x :: l, k => if err k x = 0 then eachS err l (k + 1) else ((k : Int), err k x)
theorem eachS_drop {α : Type} (err : Nat → α → Int) (l : List α) (k : Nat) (x : α) (hx : l[k]? = some x) :
    eachS err (l.drop k) k = if err k x = 0 then eachS err (l.drop (k + 1)) (k + 1) else ((k : Int), err k x) := by
  have hk : k < l.length := (List.getElem?_eq_some_iff.1 hx).1
  have e : l[k] = x := (List.getElem?_eq_some_iff.1 hx).2
  rw [List.drop_eq_getElem_cons hk, e]
  rfl
theorem eachS_ok {α : Type} (err : Nat → α → Int) : ∀ (l : List α) (k : Nat), (eachS err l k).2 = 0 → ∀ j x, l[j]? = some x → err (k + j) x = 0
  | [], k, _, j, x, hx => by simp at hx
  | y :: l, k, h, j, x, hx => by
    unfold eachS at h
    by_cases h0 : err k y = 0
    · rw [if_pos h0] at h
      cases j with
      | zero =>
        simp at hx
        subst hx
        exact h0
      | succ j =>
        have := eachS_ok err l (k + 1) h j x (by simpa using hx)
        rwa [Nat.add_assoc, Nat.add_comm 1 j] at this
    · rw [if_neg h0] at h
      exact absurd h h0
theorem eachS_zero {α : Type} (err : Nat → α → Int) : ∀ (l : List α) (k : Nat), (∀ j x, l[j]? = some x → err (k + j) x = 0) → eachS err l k = (0, 0)
  | [], _, _ => rfl
  | y :: l, k, h => by
    unfold eachS
    have h0 : err k y = 0 := h 0 y rfl
    rw [if_pos h0, eachS_zero err l (k + 1) fun j x hx => by
      have := h (j + 1) x (by simpa using hx)
      rwa [Nat.add_assoc, Nat.add_comm 1 j]]

def inR (n lo hi : Int) : Bool := decide (lo ≤ n) && decide (n ≤ hi)
theorem inR_iff {n lo hi : Int} : inR n lo hi = true ↔ lo ≤ n ∧ n ≤ hi := by simp [inR]
/-- Letters, and what else may stand in a name behind its first letter. -/
def letter (c : UInt8) : Bool := (decide (97 ≤ c.toNat) && decide (c.toNat ≤ 122)) || (decide (65 ≤ c.toNat) && decide (c.toNat ≤ 90))
def other (c : UInt8) : Bool := (decide (48 ≤ c.toNat) && decide (c.toNat ≤ 57)) || decide (c.toNat = 45)
def nameFrom : Nat → List UInt8 → Bool
  | _, [] => true
  | i, c :: l => (letter c || (decide (i ≠ 0) && other c)) && nameFrom (i + 1) l
def nameB (s : ByteArray) : Bool := nameFrom 0 s.data.toList && inR s.size 1 12
theorem nameFrom_drop (l : List UInt8) (k : Nat) (c : UInt8) (hx : l[k]? = some c) : nameFrom k (l.drop k) = ((letter c || (decide (k ≠ 0) && other c)) && nameFrom (k + 1) (l.drop (k + 1))) := by
  have hk : k < l.length := (List.getElem?_eq_some_iff.1 hx).1
  have e : l[k] = c := (List.getElem?_eq_some_iff.1 hx).2
  rw [List.drop_eq_getElem_cons hk, e]
  rfl
theorem letter_iff (c : UInt8) : letter c = true ↔ (97 ≤ c.toNat ∧ c.toNat ≤ 122 ∨ 65 ≤ c.toNat ∧ c.toNat ≤ 90) := by unfold letter; simp
theorem other_iff (c : UInt8) : other c = true ↔ (48 ≤ c.toNat ∧ c.toNat ≤ 57 ∨ c.toNat = 45) := by unfold other; simp
/-- An error unless a condition holds; the first error of some. -/
def unl (b : Bool) (e : Int) : Int := if b then 0 else e
def fstE : List Int → Int
  | [] => 0
  | e :: l => if e = 0 then fstE l else e
theorem fstE_drop (l : List Int) (k : Nat) (x : Int) (hx : l[k]? = some x) : fstE (l.drop k) = if x = 0 then fstE (l.drop (k + 1)) else x := by
  have hk : k < l.length := (List.getElem?_eq_some_iff.1 hx).1
  have e : l[k] = x := (List.getElem?_eq_some_iff.1 hx).2
  rw [List.drop_eq_getElem_cons hk, e]
  rfl
theorem unl_zero {b : Bool} {e : Int} (he : e ≠ 0) : unl b e = 0 ↔ b = true := by
  cases b <;> simp [unl, he]
theorem fst_cons (e : Int) (l : List Int) : fstE (e :: l) = 0 ↔ e = 0 ∧ fstE l = 0 := by
  show (if e = 0 then fstE l else e) = 0 ↔ _
  by_cases h : e = 0 <;> simp [h]
theorem fst_nil : fstE [] = 0 := rfl

/-! ### Frames. -/
def byteB (n : Int) : Bool := inR n 0 255
def bytesE (l : List Int) : Int := (eachS (fun _ n => unl (byteB n) 2) l 0).2
def crc1 (r : Nat) : Nat := if 256 ≤ 2 * r then (2 * r) ^^^ 263 else 2 * r
def crcK : Nat → Nat → Nat
  | 0, r => r
  | k + 1, r => crcK k (crc1 r)
def remN : List Nat → Nat → Nat
  | [], r => r
  | n :: l, r => remN l (crcK 8 (r ^^^ n))
def remI (l : List Int) : Nat := remN (l.map Int.toNat) 0
def msE (m : Ms) : Int := fstE [unl ((inR m.src 0 15 && inR m.kind 0 3) && byteB m.num) 2, bytesE [m.d0, m.d1, m.d2, m.d3]]
def remE (l : List Int) : Int := fstE [unl (decide ((l.length : Int) ≤ 60)) 8, bytesE l]
def ms0 : Ms := ⟨0, 0, 0, 0, 0, 0, 0⟩
def fr0 : Fr := ⟨0, 0, 0, 0, 0, 0, 0, 0⟩
def frameOf (m : Ms) : Fr := ⟨m.src, m.num, m.kind, m.d0, m.d1, m.d2, m.d3, remI [m.src, m.num, m.kind, m.d0, m.d1, m.d2, m.d3]⟩
def encS (m : Ms) : Fr × Int := if msE m = 0 then (frameOf m, 0) else (fr0, msE m)
def Fr.head (f : Fr) : List Int := [f.a0, f.a1, f.a2, f.a3, f.a4, f.a5, f.a6]
def Fr.ms (f : Fr) : Ms := ⟨f.a0, f.a1, f.a2, f.a3, f.a4, f.a5, f.a6⟩
def decS (f : Fr) : Ms × Int :=
  if bytesE f.l = 0 then (if fstE [unl (decide (f.a7 = (remI f.head : Int))) 19, msE f.ms] = 0 then (f.ms, 0) else (ms0, fstE [unl (decide (f.a7 = (remI f.head : Int))) 19, msE f.ms])) else (ms0, bytesE f.l)

/-! ### Silence. -/
def tickB (n : Int) : Bool := inR n 0 1000000000000
def prevI (l : List Int) (k : Nat) : Int := if k = 0 then -1 else l.getD (k - 1) 0
def heardE (l : List Int) : Int := (eachS (fun k n => fstE [unl (tickB n) 2, unl (decide (prevI l k < n)) 9]) l 0).2
def silE (l : List Int) (s : Rg) (t : Int) : Int := fstE [unl (decide ((l.length : Int) ≤ 60)) 8, heardE l, unl (tickB s.lo && tickB s.hi) 2, unl (decide (s.lo ≤ s.hi)) 9, unl (tickB t) 2]
def silOne (f to hi : Int) : List Rg := if f ≤ min to hi then [⟨f, min to hi⟩] else []
def silFrom (hi t : Int) : List Int → Int → List Rg
  | [], f => silOne f hi hi
  | n :: l, f => silOne f (n - 1) hi ++ silFrom hi t l (max f (n + t + 1))
def silS (l : List Int) (s : Rg) (t : Int) : List Rg := silFrom s.hi t l s.lo

/-! ### Streams. -/
def knownB (l : List ByteArray) (s : ByteArray) : Bool := l.any fun o => o.toList == s.toList
def smErr (l : List Sm) (i : Nat) (s : Sm) : Int := fstE [unl (nameB s.name) 4, unl (!knownB ((l.take i).map (·.name)) s.name) 5, unl (inR s.per 1 60 && (inR s.dl 1 s.per && inR s.len 1 20)) 2]
def lenE (n m : Nat) : Int := fstE [unl (decide (0 < n)) 10, unl (decide ((n : Int) ≤ m)) 8]
def smsChk (l : List Sm) : Int × Int := if lenE l.length 6 = 0 then eachS (smErr l) l 0 else (0, lenE l.length 6)
def smsErr (l : List Sm) : Int := (smsChk l).2
/-- The demand of the streams ahead, and of one's own. -/
def respF (before : List Sm) (len : Int) (r : Int) : Int := (before.map fun o => o.len * ((r + o.per - 1) / o.per)).foldl (· + ·) len

/-! ### Nets. -/
def nmErr (l : List ByteArray) (i : Nat) (s : ByteArray) : Int := fstE [unl (nameB s) 4, unl (!knownB (l.take i) s) 5]
def idxErr (l : List Int) (count : Int) : Int := (eachS (fun k n => fstE [unl (inR n 0 (count - 1)) 6, unl (decide (prevI l k < n)) 9]) l 0).2
def waysE (parts : Int) (e : Int) (ws : List Rw) : Int := ws.foldl (fun e w => fstE [e, unl (decide (0 < w.l.length)) 10, idxErr w.l parts]) e
def fuErr (parts : Int) (names : List ByteArray) (i : Nat) (f : Fu) : Int :=
  waysE parts (fstE [nmErr names i f.name, unl (decide (0 < f.ws.length)) 10, unl (decide ((f.ws.length : Int) ≤ 6)) 8]) f.ws
def mdErr (funs : Int) (names : List ByteArray) (i : Nat) (m : Md) : Int := fstE [nmErr names i m.name, idxErr m.r.l funs]
def Nt.e0 (n : Nt) : Int := fstE [unl (decide (0 < n.ps.length)) 10, unl (decide (max (n.ps.length : Int) n.fs.length ≤ 10) && decide ((n.ms.length : Int) ≤ 6)) 8]
def netChk (n : Nt) : Int × Int :=
  if n.e0 = 0 then
    (if (eachS (nmErr n.ps) n.ps 0).2 = 0 then
      (if (eachS (fuErr n.ps.length (n.fs.map (·.name))) n.fs 0).2 = 0 then eachS (mdErr n.fs.length (n.ms.map (·.name))) n.ms 0
       else eachS (fuErr n.ps.length (n.fs.map (·.name))) n.fs 0)
     else eachS (nmErr n.ps) n.ps 0)
  else (0, n.e0)
def netErr (n : Nt) : Int := (netChk n).2
/-- A set of numbers as bits, the numbers of a set. -/
def setN (l : List Int) : Nat := l.foldl (fun s n => s ||| 2 ^ n.toNat) 0
def setL (s : Nat) : Nat → List Int
  | 0 => []
  | k + 1 => setL s k ++ if s.testBit k then [(k : Int)] else []
def listS (s : Nat) : List Int := setL s 10
def sizeS (s : Nat) : Nat := (listS s).length
def worksB (f : Fu) (failed : Nat) : Bool := f.ws.any fun w => setN w.l &&& failed == 0
def workN (fs : List Fu) (failed : Nat) : Nat → Nat
  | 0 => 0
  | k + 1 => match fs[k]? with
    | some f => if worksB f failed then workN fs failed k ||| 2 ^ k else workN fs failed k
    | none => workN fs failed k
def lexB : List Int → List Int → Bool
  | [], [] => false
  | [], _ :: _ => true
  | _ :: _, [] => false
  | x :: a, y :: b => if x = y then lexB a b else decide (x < y)
def smallB (s best : Nat) : Bool := decide (sizeS s < sizeS best) || (decide (sizeS s = sizeS best) && lexB (listS s) (listS best))
def cutTo (f : Fu) (best : Nat) : Nat → Nat
  | 0 => best
  | k + 1 => if smallB k (cutTo f best k) && !worksB f k then k else cutTo f best k
def cutS (f : Fu) (parts : Nat) : Nat := cutTo f (2 ^ parts - 1) (2 ^ parts)
end Go.Proofs.YtdlmkblmljhbfaaDoor
namespace Go.Proofs.YtdlmkblmljhbfaaDoor
set_option linter.unusedSimpArgs false
set_option linter.unusedVariables false
open Go.RowKit
set_option maxRecDepth 20000
/-- A slice of the call's own that holds these numbers. -/
def RetI (L : List Int) (w : World) (e : Ending) (w' : World) : Prop :=
  ∃ A c, e = .returned (.slice A L.length c) ∧ Below w.heap.size w w' ∧ w'.ownsRow w.heap.size 3 1 (.slice A L.length c) L.length (L.map (.int .i64))
theorem infoI : (Tryd.prog.info? 3).map (fun i => (i.zero, i.size, i.bytes)) = some (some (.int .i64 0), 1, 8) := by kernel_rfl
theorem own_ge {w : World} {base n : Nat} {e : TypeId} {size : Nat} {v : Value} {xs : List Value} (h : w.ownsRow base e size v n xs) : ∀ k, v.ownBlock = some k → base ≤ k := fun k hk => by
  rcases h.2 with ⟨e, _⟩ | ⟨g, cap, cur, e, hg, _⟩
  · rw [e] at hk; simp [Value.ownBlock] at hk
  · rw [e] at hk; simp [Value.ownBlock] at hk; omega
theorem own_below {W W' : World} {b n : Nat} {e : TypeId} {size : Nat} {v : Value} {xs : List Value} (h : W.ownsRow b e size v n xs) (hb : Below W.heap.size W W') : W'.ownsRow b e size v n xs := by
  refine ⟨h.1, ?_⟩
  rcases h.2 with h2 | ⟨g, cap, cur, e1, e2, e3, e4⟩
  · exact .inl h2
  · exact .inr ⟨g, cap, cur, e1, e2, (hb.block g (Array.getElem?_eq_some_iff.1 e3).1).trans e3, e4⟩
theorem own_mono {W : World} {b b' n : Nat} {e : TypeId} {size : Nat} {v : Value} {xs : List Value} (hb : b ≤ b') (h : W.ownsRow b' e size v n xs) : W.ownsRow b e size v n xs := by
  refine ⟨h.1, ?_⟩
  rcases h.2 with h2 | ⟨g, cap, cur, e1, e2, e4⟩
  · exact .inl h2
  · exact .inr ⟨g, cap, cur, e1, Nat.le_trans hb e2, e4⟩
theorem RetI.of {L : List Int} {w w' : World} {v : Value} (hb : Below w.heap.size w w') (h : w'.ownsRow w.heap.size 3 1 v L.length (L.map (.int .i64))) : RetI L w (.returned v) w' := by
  rcases h.2 with ⟨e, hn⟩ | ⟨g, cap, cur, e, h2⟩
  · refine ⟨none, 0, ?_, hb, ?_⟩
    · rw [e, hn]
    · rw [hn]; rw [e, hn] at h; exact h
  · exact ⟨some ⟨g, 0, none⟩, cap, by rw [e], hb, by rw [e] at h; exact h⟩
theorem own_ck {D b n : Nat} {A B : World} {e : TypeId} {size : Nat} {v : Value} {xs : List Value} (h : A.ownsRow b e size v n xs) (hk : CK D A B) : B.ownsRow b e size v n xs := by
  refine ⟨h.1, ?_⟩
  rcases h.2 with h2 | ⟨g, cap, cur, e1, e2, e3, e4⟩
  · exact .inl h2
  · exact .inr ⟨g, cap, cur, e1, e2, hk.keep g _ e3 (.inr rfl), e4⟩
theorem own_bx {b n : Nat} {X : List Nat} {A B : World} {e : TypeId} {size : Nat} {v : Value} {xs : List Value} (h : A.ownsRow b e size v n xs) (hk : BX X A B) (hX : ∀ x ∈ X, x < b) : B.ownsRow b e size v n xs := by
  refine ⟨h.1, ?_⟩
  rcases h.2 with h2 | ⟨g, cap, cur, e1, e2, e3, e4⟩
  · exact .inl h2
  · exact .inr ⟨g, cap, cur, e1, e2, (hk.block g (Array.getElem?_eq_some_iff.1 e3).1 (fun hx => by have := hX g hx; omega)).trans e3, e4⟩
theorem own_sl {W : World} {b c : Nat} {e : TypeId} {A : Option Addr} {L : List Int} (h : W.ownsRow b e 1 (.slice A L.length c) L.length (L.map (.int .i64))) : Sl cI 1 W A L := by
  intro k x hx
  have hk := (List.getElem?_eq_some_iff.1 hx).1
  rcases h.2 with ⟨_, e0⟩ | ⟨g, cap, cur, e1, _, e3, _, _, _, e4⟩
  · omega
  · injection e1 with e1 _ _
    refine ⟨g, 0, e1, fun j v hv => ?_⟩
    match j, hv with
    | 0, hv =>
      simp only [cI, List.getElem?_cons_zero] at hv
      injection hv with hv
      subst hv
      simp only [World.cell?, e3, Nat.zero_add, Nat.mul_one, Nat.add_zero, Nat.zero_le, if_true]
      have h5 : (cur.toList.take (L.length * 1))[k]? = some (.int .i64 x) := by rw [e4]; simp [hx]
      rw [List.getElem?_take, if_pos (by omega)] at h5
      simpa using h5
    | j + 1, hv => simp [cI] at hv
theorem wide_fn (f : FuncId) : Fence.wide.fn f := trivial
theorem undef_bool {b : Bool} : some undef ≠ some (Value.bool b) := by simp [undef]
theorem flat_len {α β : Type} (f : α → List β) (m : Nat) (h : ∀ x, (f x).length = m) : ∀ l : List α, (l.flatMap f).length = l.length * m
  | [] => by simp
  | x :: l => by
    rw [List.flatMap_cons, List.length_append, h, flat_len f m h l, List.length_cons, Nat.add_mul, Nat.one_mul]
    omega
theorem flat_at {α : Type} {cs : α → List Value} {sz : Nat} (hcs : ∀ x, (cs x).length = sz) : ∀ {l : List α} {j : Nat} {u : Value}, (l.flatMap cs)[j]? = some u → ∃ k x i, l[k]? = some x ∧ (cs x)[i]? = some u ∧ j = k * sz + i
  | [], j, u, h => by simp at h
  | y :: l, j, u, h => by
    rw [List.flatMap_cons, List.getElem?_append] at h
    by_cases hj : j < (cs y).length
    · rw [if_pos hj] at h
      exact ⟨0, y, j, rfl, h, by simp⟩
    · rw [if_neg hj] at h
      obtain ⟨k, x, i, h1, h2, h3⟩ := flat_at hcs h
      refine ⟨k + 1, x, i, by simpa using h1, h2, ?_⟩
      rw [hcs] at h3 hj
      rw [Nat.add_mul]
      omega
theorem flat_len' {α : Type} {cs : α → List Value} {sz : Nat} (hcs : ∀ x, (cs x).length = sz) (l : List α) : (l.flatMap cs).length = l.length * sz := flat_len cs sz hcs l
theorem flat_get {α : Type} {cs : α → List Value} {sz : Nat} (hcs : ∀ x, (cs x).length = sz) : ∀ {l : List α} {k i : Nat} {x : α} {u : Value}, l[k]? = some x → (cs x)[i]? = some u → (l.flatMap cs)[k * sz + i]? = some u
  | [], k, i, x, u, h, _ => by simp at h
  | y :: l, 0, i, x, u, h, hu => by
    simp at h
    subst h
    have := (List.getElem?_eq_some_iff.1 hu).1
    rw [List.flatMap_cons, List.getElem?_append, if_pos (by omega)]
    simpa using hu
  | y :: l, k + 1, i, x, u, h, hu => by
    rw [List.flatMap_cons, List.getElem?_append, hcs, if_neg (by rw [Nat.add_mul]; omega)]
    have := flat_get hcs (l := l) (k := k) (by simpa using h) hu
    rw [← this]
    congr 1
    rw [Nat.add_mul]
    omega
theorem own_slC {α : Type} {cs : α → List Value} {sz : Nat} (hcs : ∀ x, (cs x).length = sz) (h0 : 0 < sz) {W : World} {b c : Nat} {e : TypeId} {A : Option Addr} {l : List α} (h : W.ownsRow b e sz (.slice A l.length c) l.length (l.flatMap cs)) : Sl cs sz W A l := by
  intro k x hx
  have hk := (List.getElem?_eq_some_iff.1 hx).1
  rcases h.2 with ⟨_, e0⟩ | ⟨g, cap, cur, e1, _, e3, _, _, _, e4⟩
  · omega
  · injection e1 with e1 _ _
    refine ⟨g, 0, e1, fun j v hv => ?_⟩
    have h5 := flat_get hcs hx hv
    rw [← e4, List.getElem?_take] at h5
    split at h5
    · simp only [World.cell?, e3, Nat.zero_add, Nat.zero_le, if_true]
      simpa using h5
    · simp at h5
section
variable {P : Program} {α : Type} {cs : α → List Value} {w : World} {t e g size bytes : Nat} {i : TypeInfo} {z : Value} {A : Option Addr} {l : List α} {c : Nat}
/-- 'append([]T{}, l...)': a slice of the call's own with l's elements. -/
theorem run_copy (ty : TypeId) (ht : P.underlying t = some (.slice e)) (hi : P.info? e = some i) (hz : i.zero = some z) (hsize : i.size = size) (hby : i.bytes = bytes) (hzs : z.cells.size = size) (hsz : 0 < size)
    (hcs : ∀ x, (cs x).length = size) (h1 : ∀ x, ∀ u ∈ cs x, u.oneCell' = true) (hs : Sl cs size w A l) (hl : l.length ≤ 1000) (hb : bytes ≤ 1000) (hg : Blk w g e #[]) :
    ∃ A2 c2 w', (Builtin.append_ #[t, t] ty #[.slice (some ⟨g, 0, none⟩) 0 0, .slice A l.length c]).run P w = .ok (.slice A2 l.length c2) w' ∧ w'.ownsRow g e size (.slice A2 l.length c2) l.length (l.flatMap cs) ∧ Below w.heap.size w w' := by
  by_cases h0 : l = []
  · subst h0
    refine ⟨some ⟨g, 0, none⟩, 0, w, ?_, ⟨by simp, .inr ⟨g, 0, #[], rfl, Nat.le_refl _, hg, by simp, by unfold maxLen; omega, by simp, by simp⟩⟩, bl_refl w⟩
    cases A with
    | none => simp [Builtin.append_, run_underlying ht, sizeOf, typeInfo, hi, Builtin.lenOf, Builtin.firstCells, storeCells, loadCells, loadCellsFrom]
    | some ad => simp [Builtin.append_, run_underlying ht, sizeOf, typeInfo, hi, Builtin.lenOf, Builtin.firstCells, storeCells, loadCells, loadCellsFrom]
  · obtain ⟨x, l', rfl⟩ : ∃ x l', l = x :: l' := by
      cases l with
      | nil => exact absurd rfl h0
      | cons x l' => exact ⟨x, l', rfl⟩
    obtain ⟨b, off, hA, -⟩ := hs 0 x rfl
    subst hA
    have hbd : (0 + (x :: l').length) * bytes ≤ 140737488355328 := by
      have := Nat.mul_le_mul hl hb
      rw [Nat.zero_add]
      omega
    obtain ⟨v', w', r1, r2, r3⟩ := run_append_arg_grows (P := P) w t ty e i z size bytes ht hi hz hsize hby hzs hsz ⟨g, 0, none⟩ 0 0 [] (by simp) (by simp) ⟨b, off, none⟩ (x :: l').length c ((x :: l').flatMap cs) (flat_len' hcs _)
      (fun j u hj => by
        obtain ⟨k, y, i', h2, h3, h4⟩ := flat_at hcs hj
        obtain ⟨b', off', e1, hc⟩ := hs k y h2
        injection e1 with e1
        injection e1 with e1 e2 _
        subst e1 e2
        have := hc i' u h3
        rw [h4]
        have hadd : (⟨b, off, none⟩ : Addr).add (k * size + i') = ⟨b, off + k * size + i', none⟩ := by unfold Addr.add; split <;> simp_all [Nat.add_assoc]
        rw [hadd]
        exact this) (by simp) (by unfold maxLen; omega) hbd
    have hw := hg.lt
    rw [Nat.zero_add, List.nil_append] at r2
    rcases r2.2 with ⟨_, e0⟩ | ⟨g2, cap, cur, e1, e2, e3⟩
    · simp at e0
    · subst e1
      exact ⟨_, _, w', r1, own_mono (by omega) r2, ⟨r3.os, r3.tape, r3.output, r3.size, fun k hk => r3.block k hk (by simp)⟩⟩
theorem wp_copy {o : Oper} {a : Act} {K : Act → World → Prop} {Q : Exit → Act → World → Prop} (s x : Operand) (ho : o.op = .call { callee := .builtin .append, args := #[s, x], argTypes := #[t, t] })
    (ht : P.underlying t = some (.slice e)) (hi : P.info? e = some i) (hz : i.zero = some z) (hsize : i.size = size) (hby : i.bytes = bytes) (hzs : z.cells.size = size) (hsz : 0 < size)
    (hcs : ∀ x, (cs x).length = size) (h1 : ∀ x, ∀ u ∈ cs x, u.oneCell' = true) (hs' : a.eval s = .slice (some ⟨g, 0, none⟩) 0 0) (hx : a.eval x = .slice A l.length c) (hs : Sl cs size w A l) (hl : l.length ≤ 1000) (hb : bytes ≤ 1000) (hg : Blk w g e #[])
    (h : ∀ A2 c2 w', w'.ownsRow g e size (.slice A2 l.length c2) l.length (l.flatMap cs) → Below w.heap.size w w' → K (a.put o.dst (.slice A2 l.length c2)) w') : o.wp P a w K Q := by
  obtain ⟨A2, c2, w', hr, h2, h3⟩ := run_copy (P := P) o.type ht hi hz hsize hby hzs hsz hcs h1 hs hl hb hg (c := c)
  unfold Oper.wp execOp
  simp only [ho, resolve, invoke, builtin, Sem.run_bind, Sem.run_pure, Result.andThen_ok, List.map_toArray, List.map_cons, List.map_nil, hs', hx, hr]
  exact h _ _ _ h2 h3
end
/-- A slice of the call's own with these elements. -/
def RetC {α : Type} (cs : α → List Value) (e : TypeId) (sz : Nat) (l : List α) (w : World) (x : Ending) (w' : World) : Prop :=
  ∃ A c, x = .returned (.slice A l.length c) ∧ Below w.heap.size w w' ∧ w'.ownsRow w.heap.size e sz (.slice A l.length c) l.length (l.flatMap cs)
theorem Blk.slC {α : Type} {cs : α → List Value} {sz : Nat} (hcs : ∀ x, (cs x).length = sz) {w : World} {g : Nat} {t : TypeId} {l : List α} (h : Blk w g t (l.flatMap cs).toArray) : Sl cs sz w (some ⟨g, 0, none⟩) l := fun k x hx =>
  ⟨g, 0, rfl, fun j v hv => by
    have := flat_get hcs hx hv
    have e := h.cell (k * sz + j)
    rw [Nat.zero_add, e]
    simpa using this⟩
/-- A block of integers is a slice's list. -/
theorem Blk.ints {w : World} {g : Nat} {t : TypeId} {l : List Int} (h : Blk w g t (l.map (Value.int .i64)).toArray) : Sl cI 1 w (some ⟨g, 0, none⟩) l := fun k x hx =>
  ⟨g, 0, rfl, fun j v hv => by
    have hj : j = 0 := by
      have := (List.getElem?_eq_some_iff.1 hv).1
      simp [cI] at this; omega
    subst hj
    have hv' : v = .int .i64 x := by simpa [cI] using hv.symm
    subst hv'
    have := h.cell k
    simp only [Nat.zero_add, Nat.mul_one, Nat.add_zero]
    rw [this]
    simp [hx]⟩
theorem bx_nil {w W : World} (h : BX [] w W) : Below w.heap.size w W := ⟨h.os, h.tape, h.output, h.size, fun k hk => h.block k hk (by simp)⟩
theorem sl_bx {α : Type} {cs : α → List Value} {sz : Nat} {W W' : World} {X : List Nat} {L : List α} {A : Option Addr} (h : Sl cs sz W A L) (hb : BX X W W') (hX : ∀ x ∈ X, ∀ b o, A = some ⟨b, o, none⟩ → b ≠ x) : Sl cs sz W' A L := fun k x hx => by
  obtain ⟨b, off, e, hc⟩ := h k x hx
  refine ⟨b, off, e, fun j v hv => ?_⟩
  have h1 := hc j v hv
  have hlt := World.block_lt_of_cell? W _ h1
  have hne : b ∉ X := fun hm => hX b hm b off e rfl
  have : W'.heap[b]? = W.heap[b]? := hb.block b hlt hne
  simp only [World.cell?] at h1 ⊢
  rw [this]
  exact h1
/-- What lay in w still lies where only blocks of later than w turned. -/
theorem sl_new {α : Type} {cs : α → List Value} {sz : Nat} {w W : World} {X : List Nat} {L : List α} {A : Option Addr} (h : Sl cs sz w A L) (hb : BX X w W) (hX : ∀ x ∈ X, w.heap.size ≤ x) : Sl cs sz W A L := fun k x hx => by
  obtain ⟨b, off, e, hc⟩ := h k x hx
  refine ⟨b, off, e, fun j v hv => ?_⟩
  have h1 := hc j v hv
  have hlt := World.block_lt_of_cell? w _ h1
  have hne : b ∉ X := fun hm => by have := hX b hm; have : b < w.heap.size := hlt; omega
  have : W.heap[b]? = w.heap[b]? := hb.block b hlt hne
  simp only [World.cell?] at h1 ⊢
  rw [this]
  exact h1
end Go.Proofs.YtdlmkblmljhbfaaDoor
namespace Go.Proofs.YtdlmkblmljhbfaaDoor
set_option linter.unusedSimpArgs false
set_option linter.unusedVariables false
open Go.RowKit Go.Shelf
attribute [local go_sem] bl_al bl_drew bl_drewN bl_refl

set_option maxHeartbeats 800000 in
set_option maxRecDepth 20000 in
theorem c_eachJI (f : FuncId) (lb : Array Value) (err : Nat → Int → Int) (J : Nat → World → Prop) (X : List Nat) (A : Option Addr) (l : List Int) (c : Nat) (w : World) (hl : l.length ≤ 1000000)
    (he : Enters Tryd.prog f) (hJ : ∀ k A B, J k A → Below A.heap.size A B → J k B)
    (hp : ∀ k x, l[k]? = some x → ∀ W : World, BX X w W → J k W → Calls Tryd.prog f (#[.int .i64 (k : Nat), .int .i64 x] ++ lb) W (fun e W' => e = .returned (.int .i64 (err k x)) ∧ BX X W W' ∧ (err k x = 0 → J (k + 1) W')))
    (hr : ∀ W, BX X w W → Sl cI 1 W A l) (h0 : J 0 w) :
    Calls Tryd.prog 75 #[.slice A l.length c, .func (.func f) #[] lb] w (fun e W' => e = .returned (.tuple #[.int .i64 (eachS err l 0).1, .int .i64 (eachS err l 0).2]) ∧ BX X w W' ∧ ((eachS err l 0).2 = 0 → J l.length W')) := by
  have he' : ∀ args w, (callFunc f args).run Tryd.prog w = .ok (.enter f args) w := he
  clear he
  have Hp := Lib.hid hp
  have Hr := Lib.hid hr
  have H0 := Lib.hid h0
  have HJ := Lib.hid hJ
  clear hp hr h0 hJ
  obtain ⟨n, Hn⟩ : ∃ n, Hid (l.length = n) := ⟨_, rfl⟩
  rw [Hn.out] at hl ⊢
  go_enter Tryd.func75, Tryd.ntmps75
  go_wp2
  go_loopw [11] (fun i wr => ∃ k : Nat, k ≤ n ∧ i = .int .i64 k ∧ BX X w wr ∧ J k wr ∧ eachS err l 0 = eachS err (l.drop k) k) (fun i _ => n - (intOf i).toNat)
  case atStart => exact ⟨0, Nat.zero_le _, rfl, bx_refl _ _, H0.out, rfl⟩
  case round =>
    obtain ⟨k, hk, rfl, hb, hj, hi⟩ := hrel
    replace hi := Lib.hid hi
    replace hj := Lib.hid hj
    by_cases hlt : k < n
    · have hx : l[k]? = some (l[k]'(by rw [Hn.out]; exact hlt)) := List.getElem?_eq_getElem _
      generalize l[k]'(by rw [Hn.out]; exact hlt) = x at hx
      replace hx := Lib.hid hx
      obtain ⟨b, off, rfl, hc⟩ := (Hr.out wr hb) k x hx.out
      have c0 : wr.cell? ⟨b, off + k, none⟩ = some (.int .i64 x) := by simpa using hc 0 _ rfl
      have hd := Lib.hid (eachS_drop err l k x hx.out)
      have hcall := Lib.hid (Hp.out k x hx.out)
      clear hc
      go_wp2_with fail
      refine Calls.mono (hcall.out _ ?_ ?_) ?_
      · first | exact hb | exact bx_al _ hb
      · first | exact hj.out | exact HJ.out _ _ _ hj.out (bl_al _ (bl_refl _))
      rintro e w3 ⟨rfl, hb3, hj3⟩
      have hb4 : BX X w w3 := BX.trans (by first | exact hb | exact bx_al _ hb) hb3
      replace hj3 := Lib.hid hj3
      clear hb3
      generalize err k x = ex at *
      by_cases h0 : ex = 0
      · have h0' : (ex != 0) = false := by simp [h0]
        replace h0 := Lib.hid h0
        have hj4 := Lib.hid (hj3.out h0.out)
        go_wp2
        go_roundw
        case rel => exact ⟨k + 1, by omega, by go_num, hb4, hj4.out, by rw [hi.out, hd.out, if_pos h0.out]⟩
        case measure => simp [intOf]; omega
      · have h0' : (ex != 0) = true := by simp [h0]
        replace h0 := Lib.hid h0
        go_wp2
        go_ret2
        exact ⟨by rw [hi.out, hd.out, if_neg h0.out] <;> rfl, hb4, fun h => by rw [hi.out, hd.out, if_neg h0.out] at h; exact absurd h h0.out⟩
    · go_wp2
      go_ret2
      have : k = l.length := by have := Hn.out; omega
      exact ⟨by rw [hi.out, this]; simp [eachS], hb, fun _ => (show k = n by omega) ▸ hj.out⟩
theorem c_eachI (f : FuncId) (lb : Array Value) (err : Nat → Int → Int) (A : Option Addr) (l : List Int) (c : Nat) (w : World) (hl : l.length ≤ 1000000)
    (he : Enters Tryd.prog f) (hp : ∀ k x, l[k]? = some x → ∀ W : World, Below w.heap.size w W → Calls Tryd.prog f (#[.int .i64 (k : Nat), .int .i64 x] ++ lb) W (Ret (.int .i64 (err k x)) W))
    (hr : Sl cI 1 w A l) :
    Calls Tryd.prog 75 #[.slice A l.length c, .func (.func f) #[] lb] w (Ret (.tuple #[.int .i64 (eachS err l 0).1, .int .i64 (eachS err l 0).2]) w) :=
  (c_eachJI f lb err (fun _ _ => True) [] A l c w hl he (fun _ _ _ _ _ => trivial) (fun k x hx W hb _ => (hp k x hx W (bx_nil hb)).mono fun _ _ ⟨h1, h2⟩ => ⟨h1, bx_bl [] h2, fun _ => trivial⟩)
    (fun W hb => hr.below (bx_nil hb)) trivial).mono fun _ _ ⟨h1, h2, _⟩ => ⟨h1, bx_nil h2⟩

set_option maxHeartbeats 800000 in
set_option maxRecDepth 20000 in
theorem c_eachJS (f : FuncId) (lb : Array Value) (err : Nat → Sm → Int) (J : Nat → World → Prop) (X : List Nat) (A : Option Addr) (l : List Sm) (c : Nat) (w : World) (hl : l.length ≤ 1000000)
    (he : Enters Tryd.prog f) (hJ : ∀ k A B, J k A → Below A.heap.size A B → J k B)
    (hp : ∀ k x, l[k]? = some x → ∀ W : World, BX X w W → J k W → Calls Tryd.prog f (#[.int .i64 (k : Nat), .agg #[.string x.name, .int .i64 x.per, .int .i64 x.dl, .int .i64 x.len]] ++ lb) W (fun e W' => e = .returned (.int .i64 (err k x)) ∧ BX X W W' ∧ (err k x = 0 → J (k + 1) W')))
    (hr : ∀ W, BX X w W → Sl cSm 4 W A l) (h0 : J 0 w) :
    Calls Tryd.prog 151 #[.slice A l.length c, .func (.func f) #[] lb] w (fun e W' => e = .returned (.tuple #[.int .i64 (eachS err l 0).1, .int .i64 (eachS err l 0).2]) ∧ BX X w W' ∧ ((eachS err l 0).2 = 0 → J l.length W')) := by
  have he' : ∀ args w, (callFunc f args).run Tryd.prog w = .ok (.enter f args) w := he
  clear he
  have Hp := Lib.hid hp
  have Hr := Lib.hid hr
  have H0 := Lib.hid h0
  have HJ := Lib.hid hJ
  clear hp hr h0 hJ
  obtain ⟨n, Hn⟩ : ∃ n, Hid (l.length = n) := ⟨_, rfl⟩
  rw [Hn.out] at hl ⊢
  go_enter Tryd.func151, Tryd.ntmps151
  go_wp2
  go_loopw [11] (fun i wr => ∃ k : Nat, k ≤ n ∧ i = .int .i64 k ∧ BX X w wr ∧ J k wr ∧ eachS err l 0 = eachS err (l.drop k) k) (fun i _ => n - (intOf i).toNat)
  case atStart => exact ⟨0, Nat.zero_le _, rfl, bx_refl _ _, H0.out, rfl⟩
  case round =>
    obtain ⟨k, hk, rfl, hb, hj, hi⟩ := hrel
    replace hi := Lib.hid hi
    replace hj := Lib.hid hj
    by_cases hlt : k < n
    · have hx : l[k]? = some (l[k]'(by rw [Hn.out]; exact hlt)) := List.getElem?_eq_getElem _
      generalize l[k]'(by rw [Hn.out]; exact hlt) = x at hx
      replace hx := Lib.hid hx
      obtain ⟨b, off, rfl, hc⟩ := (Hr.out wr hb) k x hx.out
      have c0 : wr.cell? ⟨b, off + k * 4, none⟩ = some (.string x.name) := hc 0 _ rfl
      have c1 : wr.cell? ⟨b, off + k * 4 + 1, none⟩ = some (.int .i64 x.per) := hc 1 _ rfl
      have c2 : wr.cell? ⟨b, off + k * 4 + 2, none⟩ = some (.int .i64 x.dl) := hc 2 _ rfl
      have c3 : wr.cell? ⟨b, off + k * 4 + 3, none⟩ = some (.int .i64 x.len) := hc 3 _ rfl
      have hd := Lib.hid (eachS_drop err l k x hx.out)
      have hcall := Lib.hid (Hp.out k x hx.out)
      clear hc
      go_wp2_with fail
      refine Calls.mono (hcall.out _ ?_ ?_) ?_
      · first | exact hb | exact bx_al _ hb
      · first | exact hj.out | exact HJ.out _ _ _ hj.out (bl_al _ (bl_refl _))
      rintro e w3 ⟨rfl, hb3, hj3⟩
      have hb4 : BX X w w3 := BX.trans (by first | exact hb | exact bx_al _ hb) hb3
      replace hj3 := Lib.hid hj3
      clear hb3
      generalize err k x = ex at *
      by_cases h0 : ex = 0
      · have h0' : (ex != 0) = false := by simp [h0]
        replace h0 := Lib.hid h0
        have hj4 := Lib.hid (hj3.out h0.out)
        go_wp2
        go_roundw
        case rel => exact ⟨k + 1, by omega, by go_num, hb4, hj4.out, by rw [hi.out, hd.out, if_pos h0.out]⟩
        case measure => simp [intOf]; omega
      · have h0' : (ex != 0) = true := by simp [h0]
        replace h0 := Lib.hid h0
        go_wp2
        go_ret2
        exact ⟨by rw [hi.out, hd.out, if_neg h0.out] <;> rfl, hb4, fun h => by rw [hi.out, hd.out, if_neg h0.out] at h; exact absurd h h0.out⟩
    · go_wp2
      go_ret2
      have : k = l.length := by have := Hn.out; omega
      exact ⟨by rw [hi.out, this]; simp [eachS], hb, fun _ => (show k = n by omega) ▸ hj.out⟩
theorem c_eachS (f : FuncId) (lb : Array Value) (err : Nat → Sm → Int) (A : Option Addr) (l : List Sm) (c : Nat) (w : World) (hl : l.length ≤ 1000000)
    (he : Enters Tryd.prog f) (hp : ∀ k x, l[k]? = some x → ∀ W : World, Below w.heap.size w W → Calls Tryd.prog f (#[.int .i64 (k : Nat), .agg #[.string x.name, .int .i64 x.per, .int .i64 x.dl, .int .i64 x.len]] ++ lb) W (Ret (.int .i64 (err k x)) W))
    (hr : Sl cSm 4 w A l) :
    Calls Tryd.prog 151 #[.slice A l.length c, .func (.func f) #[] lb] w (Ret (.tuple #[.int .i64 (eachS err l 0).1, .int .i64 (eachS err l 0).2]) w) :=
  (c_eachJS f lb err (fun _ _ => True) [] A l c w hl he (fun _ _ _ _ _ => trivial) (fun k x hx W hb _ => (hp k x hx W (bx_nil hb)).mono fun _ _ ⟨h1, h2⟩ => ⟨h1, bx_bl [] h2, fun _ => trivial⟩)
    (fun W hb => hr.below (bx_nil hb)) trivial).mono fun _ _ ⟨h1, h2, _⟩ => ⟨h1, bx_nil h2⟩

set_option maxHeartbeats 800000 in
set_option maxRecDepth 20000 in
theorem c_eachJN (f : FuncId) (lb : Array Value) (err : Nat → ByteArray → Int) (J : Nat → World → Prop) (X : List Nat) (A : Option Addr) (l : List ByteArray) (c : Nat) (w : World) (hl : l.length ≤ 1000000)
    (he : Enters Tryd.prog f) (hJ : ∀ k A B, J k A → Below A.heap.size A B → J k B)
    (hp : ∀ k x, l[k]? = some x → ∀ W : World, BX X w W → J k W → Calls Tryd.prog f (#[.int .i64 (k : Nat), .string x] ++ lb) W (fun e W' => e = .returned (.int .i64 (err k x)) ∧ BX X W W' ∧ (err k x = 0 → J (k + 1) W')))
    (hr : ∀ W, BX X w W → Sl cS 1 W A l) (h0 : J 0 w) :
    Calls Tryd.prog 102 #[.slice A l.length c, .func (.func f) #[] lb] w (fun e W' => e = .returned (.tuple #[.int .i64 (eachS err l 0).1, .int .i64 (eachS err l 0).2]) ∧ BX X w W' ∧ ((eachS err l 0).2 = 0 → J l.length W')) := by
  have he' : ∀ args w, (callFunc f args).run Tryd.prog w = .ok (.enter f args) w := he
  clear he
  have Hp := Lib.hid hp
  have Hr := Lib.hid hr
  have H0 := Lib.hid h0
  have HJ := Lib.hid hJ
  clear hp hr h0 hJ
  obtain ⟨n, Hn⟩ : ∃ n, Hid (l.length = n) := ⟨_, rfl⟩
  rw [Hn.out] at hl ⊢
  go_enter Tryd.func102, Tryd.ntmps102
  go_wp2
  go_loopw [11] (fun i wr => ∃ k : Nat, k ≤ n ∧ i = .int .i64 k ∧ BX X w wr ∧ J k wr ∧ eachS err l 0 = eachS err (l.drop k) k) (fun i _ => n - (intOf i).toNat)
  case atStart => exact ⟨0, Nat.zero_le _, rfl, bx_refl _ _, H0.out, rfl⟩
  case round =>
    obtain ⟨k, hk, rfl, hb, hj, hi⟩ := hrel
    replace hi := Lib.hid hi
    replace hj := Lib.hid hj
    by_cases hlt : k < n
    · have hx : l[k]? = some (l[k]'(by rw [Hn.out]; exact hlt)) := List.getElem?_eq_getElem _
      generalize l[k]'(by rw [Hn.out]; exact hlt) = x at hx
      replace hx := Lib.hid hx
      obtain ⟨b, off, rfl, hc⟩ := (Hr.out wr hb) k x hx.out
      have c0 : wr.cell? ⟨b, off + k, none⟩ = some (.string x) := by simpa using hc 0 _ rfl
      have hd := Lib.hid (eachS_drop err l k x hx.out)
      have hcall := Lib.hid (Hp.out k x hx.out)
      clear hc
      go_wp2_with fail
      refine Calls.mono (hcall.out _ ?_ ?_) ?_
      · first | exact hb | exact bx_al _ hb
      · first | exact hj.out | exact HJ.out _ _ _ hj.out (bl_al _ (bl_refl _))
      rintro e w3 ⟨rfl, hb3, hj3⟩
      have hb4 : BX X w w3 := BX.trans (by first | exact hb | exact bx_al _ hb) hb3
      replace hj3 := Lib.hid hj3
      clear hb3
      generalize err k x = ex at *
      by_cases h0 : ex = 0
      · have h0' : (ex != 0) = false := by simp [h0]
        replace h0 := Lib.hid h0
        have hj4 := Lib.hid (hj3.out h0.out)
        go_wp2
        go_roundw
        case rel => exact ⟨k + 1, by omega, by go_num, hb4, hj4.out, by rw [hi.out, hd.out, if_pos h0.out]⟩
        case measure => simp [intOf]; omega
      · have h0' : (ex != 0) = true := by simp [h0]
        replace h0 := Lib.hid h0
        go_wp2
        go_ret2
        exact ⟨by rw [hi.out, hd.out, if_neg h0.out] <;> rfl, hb4, fun h => by rw [hi.out, hd.out, if_neg h0.out] at h; exact absurd h h0.out⟩
    · go_wp2
      go_ret2
      have : k = l.length := by have := Hn.out; omega
      exact ⟨by rw [hi.out, this]; simp [eachS], hb, fun _ => (show k = n by omega) ▸ hj.out⟩
theorem c_eachN (f : FuncId) (lb : Array Value) (err : Nat → ByteArray → Int) (A : Option Addr) (l : List ByteArray) (c : Nat) (w : World) (hl : l.length ≤ 1000000)
    (he : Enters Tryd.prog f) (hp : ∀ k x, l[k]? = some x → ∀ W : World, Below w.heap.size w W → Calls Tryd.prog f (#[.int .i64 (k : Nat), .string x] ++ lb) W (Ret (.int .i64 (err k x)) W))
    (hr : Sl cS 1 w A l) :
    Calls Tryd.prog 102 #[.slice A l.length c, .func (.func f) #[] lb] w (Ret (.tuple #[.int .i64 (eachS err l 0).1, .int .i64 (eachS err l 0).2]) w) :=
  (c_eachJN f lb err (fun _ _ => True) [] A l c w hl he (fun _ _ _ _ _ => trivial) (fun k x hx W hb _ => (hp k x hx W (bx_nil hb)).mono fun _ _ ⟨h1, h2⟩ => ⟨h1, bx_bl [] h2, fun _ => trivial⟩)
    (fun W hb => hr.below (bx_nil hb)) trivial).mono fun _ _ ⟨h1, h2, _⟩ => ⟨h1, bx_nil h2⟩

set_option maxHeartbeats 800000 in
set_option maxRecDepth 20000 in
theorem c_eachJF (f : FuncId) (lb : Array Value) (err : Nat → Fu → Int) (J : Nat → World → Prop) (X : List Nat) (A : Option Addr) (l : List Fu) (c : Nat) (w : World) (hl : l.length ≤ 1000000)
    (he : Enters Tryd.prog f) (hJ : ∀ k A B, J k A → Below A.heap.size A B → J k B)
    (hp : ∀ k x, l[k]? = some x → ∀ W : World, BX X w W → J k W → Calls Tryd.prog f (#[.int .i64 (k : Nat), .agg #[.string x.name, .slice x.A x.ws.length x.c]] ++ lb) W (fun e W' => e = .returned (.int .i64 (err k x)) ∧ BX X W W' ∧ (err k x = 0 → J (k + 1) W')))
    (hr : ∀ W, BX X w W → Sl cFu 2 W A l) (h0 : J 0 w) :
    Calls Tryd.prog 104 #[.slice A l.length c, .func (.func f) #[] lb] w (fun e W' => e = .returned (.tuple #[.int .i64 (eachS err l 0).1, .int .i64 (eachS err l 0).2]) ∧ BX X w W' ∧ ((eachS err l 0).2 = 0 → J l.length W')) := by
  have he' : ∀ args w, (callFunc f args).run Tryd.prog w = .ok (.enter f args) w := he
  clear he
  have Hp := Lib.hid hp
  have Hr := Lib.hid hr
  have H0 := Lib.hid h0
  have HJ := Lib.hid hJ
  clear hp hr h0 hJ
  obtain ⟨n, Hn⟩ : ∃ n, Hid (l.length = n) := ⟨_, rfl⟩
  rw [Hn.out] at hl ⊢
  go_enter Tryd.func104, Tryd.ntmps104
  go_wp2
  go_loopw [11] (fun i wr => ∃ k : Nat, k ≤ n ∧ i = .int .i64 k ∧ BX X w wr ∧ J k wr ∧ eachS err l 0 = eachS err (l.drop k) k) (fun i _ => n - (intOf i).toNat)
  case atStart => exact ⟨0, Nat.zero_le _, rfl, bx_refl _ _, H0.out, rfl⟩
  case round =>
    obtain ⟨k, hk, rfl, hb, hj, hi⟩ := hrel
    replace hi := Lib.hid hi
    replace hj := Lib.hid hj
    by_cases hlt : k < n
    · have hx : l[k]? = some (l[k]'(by rw [Hn.out]; exact hlt)) := List.getElem?_eq_getElem _
      generalize l[k]'(by rw [Hn.out]; exact hlt) = x at hx
      replace hx := Lib.hid hx
      obtain ⟨b, off, rfl, hc⟩ := (Hr.out wr hb) k x hx.out
      have c0 : wr.cell? ⟨b, off + k * 2, none⟩ = some (.string x.name) := hc 0 _ rfl
      have c1 : wr.cell? ⟨b, off + k * 2 + 1, none⟩ = some (.slice x.A x.ws.length x.c) := hc 1 _ rfl
      have hd := Lib.hid (eachS_drop err l k x hx.out)
      have hcall := Lib.hid (Hp.out k x hx.out)
      clear hc
      go_wp2_with fail
      refine Calls.mono (hcall.out _ ?_ ?_) ?_
      · first | exact hb | exact bx_al _ hb
      · first | exact hj.out | exact HJ.out _ _ _ hj.out (bl_al _ (bl_refl _))
      rintro e w3 ⟨rfl, hb3, hj3⟩
      have hb4 : BX X w w3 := BX.trans (by first | exact hb | exact bx_al _ hb) hb3
      replace hj3 := Lib.hid hj3
      clear hb3
      generalize err k x = ex at *
      by_cases h0 : ex = 0
      · have h0' : (ex != 0) = false := by simp [h0]
        replace h0 := Lib.hid h0
        have hj4 := Lib.hid (hj3.out h0.out)
        go_wp2
        go_roundw
        case rel => exact ⟨k + 1, by omega, by go_num, hb4, hj4.out, by rw [hi.out, hd.out, if_pos h0.out]⟩
        case measure => simp [intOf]; omega
      · have h0' : (ex != 0) = true := by simp [h0]
        replace h0 := Lib.hid h0
        go_wp2
        go_ret2
        exact ⟨by rw [hi.out, hd.out, if_neg h0.out] <;> rfl, hb4, fun h => by rw [hi.out, hd.out, if_neg h0.out] at h; exact absurd h h0.out⟩
    · go_wp2
      go_ret2
      have : k = l.length := by have := Hn.out; omega
      exact ⟨by rw [hi.out, this]; simp [eachS], hb, fun _ => (show k = n by omega) ▸ hj.out⟩
theorem c_eachF (f : FuncId) (lb : Array Value) (err : Nat → Fu → Int) (A : Option Addr) (l : List Fu) (c : Nat) (w : World) (hl : l.length ≤ 1000000)
    (he : Enters Tryd.prog f) (hp : ∀ k x, l[k]? = some x → ∀ W : World, Below w.heap.size w W → Calls Tryd.prog f (#[.int .i64 (k : Nat), .agg #[.string x.name, .slice x.A x.ws.length x.c]] ++ lb) W (Ret (.int .i64 (err k x)) W))
    (hr : Sl cFu 2 w A l) :
    Calls Tryd.prog 104 #[.slice A l.length c, .func (.func f) #[] lb] w (Ret (.tuple #[.int .i64 (eachS err l 0).1, .int .i64 (eachS err l 0).2]) w) :=
  (c_eachJF f lb err (fun _ _ => True) [] A l c w hl he (fun _ _ _ _ _ => trivial) (fun k x hx W hb _ => (hp k x hx W (bx_nil hb)).mono fun _ _ ⟨h1, h2⟩ => ⟨h1, bx_bl [] h2, fun _ => trivial⟩)
    (fun W hb => hr.below (bx_nil hb)) trivial).mono fun _ _ ⟨h1, h2, _⟩ => ⟨h1, bx_nil h2⟩

set_option maxHeartbeats 800000 in
set_option maxRecDepth 20000 in
theorem c_eachJM (f : FuncId) (lb : Array Value) (err : Nat → Md → Int) (J : Nat → World → Prop) (X : List Nat) (A : Option Addr) (l : List Md) (c : Nat) (w : World) (hl : l.length ≤ 1000000)
    (he : Enters Tryd.prog f) (hJ : ∀ k A B, J k A → Below A.heap.size A B → J k B)
    (hp : ∀ k x, l[k]? = some x → ∀ W : World, BX X w W → J k W → Calls Tryd.prog f (#[.int .i64 (k : Nat), .agg #[.string x.name, .slice x.r.A x.r.l.length x.r.c]] ++ lb) W (fun e W' => e = .returned (.int .i64 (err k x)) ∧ BX X W W' ∧ (err k x = 0 → J (k + 1) W')))
    (hr : ∀ W, BX X w W → Sl cMd 2 W A l) (h0 : J 0 w) :
    Calls Tryd.prog 107 #[.slice A l.length c, .func (.func f) #[] lb] w (fun e W' => e = .returned (.tuple #[.int .i64 (eachS err l 0).1, .int .i64 (eachS err l 0).2]) ∧ BX X w W' ∧ ((eachS err l 0).2 = 0 → J l.length W')) := by
  have he' : ∀ args w, (callFunc f args).run Tryd.prog w = .ok (.enter f args) w := he
  clear he
  have Hp := Lib.hid hp
  have Hr := Lib.hid hr
  have H0 := Lib.hid h0
  have HJ := Lib.hid hJ
  clear hp hr h0 hJ
  obtain ⟨n, Hn⟩ : ∃ n, Hid (l.length = n) := ⟨_, rfl⟩
  rw [Hn.out] at hl ⊢
  go_enter Tryd.func107, Tryd.ntmps107
  go_wp2
  go_loopw [11] (fun i wr => ∃ k : Nat, k ≤ n ∧ i = .int .i64 k ∧ BX X w wr ∧ J k wr ∧ eachS err l 0 = eachS err (l.drop k) k) (fun i _ => n - (intOf i).toNat)
  case atStart => exact ⟨0, Nat.zero_le _, rfl, bx_refl _ _, H0.out, rfl⟩
  case round =>
    obtain ⟨k, hk, rfl, hb, hj, hi⟩ := hrel
    replace hi := Lib.hid hi
    replace hj := Lib.hid hj
    by_cases hlt : k < n
    · have hx : l[k]? = some (l[k]'(by rw [Hn.out]; exact hlt)) := List.getElem?_eq_getElem _
      generalize l[k]'(by rw [Hn.out]; exact hlt) = x at hx
      replace hx := Lib.hid hx
      obtain ⟨b, off, rfl, hc⟩ := (Hr.out wr hb) k x hx.out
      have c0 : wr.cell? ⟨b, off + k * 2, none⟩ = some (.string x.name) := hc 0 _ rfl
      have c1 : wr.cell? ⟨b, off + k * 2 + 1, none⟩ = some (.slice x.r.A x.r.l.length x.r.c) := hc 1 _ rfl
      have hd := Lib.hid (eachS_drop err l k x hx.out)
      have hcall := Lib.hid (Hp.out k x hx.out)
      clear hc
      go_wp2_with fail
      refine Calls.mono (hcall.out _ ?_ ?_) ?_
      · first | exact hb | exact bx_al _ hb
      · first | exact hj.out | exact HJ.out _ _ _ hj.out (bl_al _ (bl_refl _))
      rintro e w3 ⟨rfl, hb3, hj3⟩
      have hb4 : BX X w w3 := BX.trans (by first | exact hb | exact bx_al _ hb) hb3
      replace hj3 := Lib.hid hj3
      clear hb3
      generalize err k x = ex at *
      by_cases h0 : ex = 0
      · have h0' : (ex != 0) = false := by simp [h0]
        replace h0 := Lib.hid h0
        have hj4 := Lib.hid (hj3.out h0.out)
        go_wp2
        go_roundw
        case rel => exact ⟨k + 1, by omega, by go_num, hb4, hj4.out, by rw [hi.out, hd.out, if_pos h0.out]⟩
        case measure => simp [intOf]; omega
      · have h0' : (ex != 0) = true := by simp [h0]
        replace h0 := Lib.hid h0
        go_wp2
        go_ret2
        exact ⟨by rw [hi.out, hd.out, if_neg h0.out] <;> rfl, hb4, fun h => by rw [hi.out, hd.out, if_neg h0.out] at h; exact absurd h h0.out⟩
    · go_wp2
      go_ret2
      have : k = l.length := by have := Hn.out; omega
      exact ⟨by rw [hi.out, this]; simp [eachS], hb, fun _ => (show k = n by omega) ▸ hj.out⟩
theorem c_eachM (f : FuncId) (lb : Array Value) (err : Nat → Md → Int) (A : Option Addr) (l : List Md) (c : Nat) (w : World) (hl : l.length ≤ 1000000)
    (he : Enters Tryd.prog f) (hp : ∀ k x, l[k]? = some x → ∀ W : World, Below w.heap.size w W → Calls Tryd.prog f (#[.int .i64 (k : Nat), .agg #[.string x.name, .slice x.r.A x.r.l.length x.r.c]] ++ lb) W (Ret (.int .i64 (err k x)) W))
    (hr : Sl cMd 2 w A l) :
    Calls Tryd.prog 107 #[.slice A l.length c, .func (.func f) #[] lb] w (Ret (.tuple #[.int .i64 (eachS err l 0).1, .int .i64 (eachS err l 0).2]) w) :=
  (c_eachJM f lb err (fun _ _ => True) [] A l c w hl he (fun _ _ _ _ _ => trivial) (fun k x hx W hb _ => (hp k x hx W (bx_nil hb)).mono fun _ _ ⟨h1, h2⟩ => ⟨h1, bx_bl [] h2, fun _ => trivial⟩)
    (fun W hb => hr.below (bx_nil hb)) trivial).mono fun _ _ ⟨h1, h2, _⟩ => ⟨h1, bx_nil h2⟩

set_option maxHeartbeats 400000 in
set_option maxRecDepth 20000 in
theorem c_IndexFuncS (f : FuncId) (lb : Array Value) (p : Sm → Bool) (A : Option Addr) (l : List Sm) (c : Nat) (w : World) (hl : l.length ≤ 1000000)
    (he : Enters Tryd.prog f) (hp : Preds Tryd.prog f lb w (fun x : Sm => .agg #[.string x.name, .int .i64 x.per, .int .i64 x.dl, .int .i64 x.len]) l p) (hr : Sl cSm 4 w A l) :
    Calls Tryd.prog 158 #[.slice A l.length c, .func (.func f) #[] lb] w (Ret (.int .i64 (idxF p l 0)) w) := by
  have he' : ∀ args w, (callFunc f args).run Tryd.prog w = .ok (.enter f args) w := he
  clear he
  have Hp := Lib.hid hp
  have Hr := Lib.hid hr
  clear hp hr
  obtain ⟨n, Hn⟩ : ∃ n, Hid (l.length = n) := ⟨_, rfl⟩
  rw [Hn.out] at hl ⊢
  go_enter Tryd.func158, Tryd.ntmps158
  go_wp2
  go_loopw [8] (fun i wr => ∃ k : Nat, k ≤ n ∧ i = .int .i64 k ∧ Below w.heap.size w wr ∧ idxF p l 0 = idxF p (l.drop k) k) (fun i _ => n - (intOf i).toNat)
  case atStart => exact ⟨0, Nat.zero_le _, rfl, Below.refl _ _, rfl⟩
  case round =>
    obtain ⟨k, hk, rfl, hb, hi⟩ := hrel
    replace hi := Lib.hid hi
    by_cases hlt : k < n
    · have hx : l[k]? = some (l[k]'(by rw [Hn.out]; exact hlt)) := List.getElem?_eq_getElem _
      generalize l[k]'(by rw [Hn.out]; exact hlt) = x at hx
      replace hx := Lib.hid hx
      obtain ⟨b, off, rfl, hc⟩ := (Hr.out.below hb) k x hx.out
      have c0 : wr.cell? ⟨b, off + k * 4, none⟩ = some (.string x.name) := hc 0 _ rfl
      have c1 : wr.cell? ⟨b, off + k * 4 + 1, none⟩ = some (.int .i64 x.per) := hc 1 _ rfl
      have c2 : wr.cell? ⟨b, off + k * 4 + 2, none⟩ = some (.int .i64 x.dl) := hc 2 _ rfl
      have c3 : wr.cell? ⟨b, off + k * 4 + 3, none⟩ = some (.int .i64 x.len) := hc 3 _ rfl
      have hm : x ∈ l := List.mem_of_getElem? hx.out
      have hd := Lib.hid (idxF_drop p l k x hx.out)
      clear hc hx
      cases hpx : p x
      all_goals
        have hcall := Hp.out x hm wr hb
        rw [hpx] at hcall
        replace hcall := Lib.hid hcall
        replace hpx := Lib.hid hpx
        clear hm
        go_wp2_with fail
        refine hcall.out.mono ?_
        rintro e w3 ⟨rfl, hb3⟩
        go_wp2
      · go_roundw
        case rel => exact ⟨k + 1, by omega, by go_num, bl_tr hb hb3, by rw [hi.out, hd.out, hpx.out]; simp⟩
        case measure => simp [intOf]; omega
      · go_ret
        exact ⟨by rw [hi.out, hd.out, hpx.out] <;> rfl, bl_tr hb hb3⟩
    · go_wp2
      go_ret
      have : k = l.length := by have := Hn.out; omega
      exact ⟨by rw [hi.out, this]; simp [idxF], hb⟩
set_option maxRecDepth 20000 in
theorem c_ContainsFuncS (f : FuncId) (lb : Array Value) (p : Sm → Bool) (A : Option Addr) (l : List Sm) (c : Nat) (w : World) (hl : l.length ≤ 1000000)
    (he : Enters Tryd.prog f) (hp : Preds Tryd.prog f lb w (fun x : Sm => .agg #[.string x.name, .int .i64 x.per, .int .i64 x.dl, .int .i64 x.len]) l p) (hr : Sl cSm 4 w A l) :
    Calls Tryd.prog 153 #[.slice A l.length c, .func (.func f) #[] lb] w (Ret (.bool (l.any p)) w) := by
  have hcall := Lib.hid (c_IndexFuncS f lb p A l c w hl he hp hr)
  have hge := Lib.hid (idxF_ge p l 0 (Int.le_refl 0))
  clear he hp hr
  generalize l.length = n at *
  go_enter Tryd.func153, Tryd.ntmps153
  go_wp2_with fail
  refine hcall.out.mono ?_
  rintro e w3 ⟨rfl, hb3⟩
  go_wp2
  go_ret
  exact ⟨by rw [hge.out]; rfl, hb3⟩

set_option maxHeartbeats 400000 in
set_option maxRecDepth 20000 in
theorem c_IndexFuncW (f : FuncId) (lb : Array Value) (p : Rw → Bool) (A : Option Addr) (l : List Rw) (c : Nat) (w : World) (hl : l.length ≤ 1000000)
    (he : Enters Tryd.prog f) (hp : Preds Tryd.prog f lb w (fun x : Rw => .slice x.A x.l.length x.c) l p) (hr : Sl cRw 1 w A l) :
    Calls Tryd.prog 157 #[.slice A l.length c, .func (.func f) #[] lb] w (Ret (.int .i64 (idxF p l 0)) w) := by
  have he' : ∀ args w, (callFunc f args).run Tryd.prog w = .ok (.enter f args) w := he
  clear he
  have Hp := Lib.hid hp
  have Hr := Lib.hid hr
  clear hp hr
  obtain ⟨n, Hn⟩ : ∃ n, Hid (l.length = n) := ⟨_, rfl⟩
  rw [Hn.out] at hl ⊢
  go_enter Tryd.func157, Tryd.ntmps157
  go_wp2
  go_loopw [8] (fun i wr => ∃ k : Nat, k ≤ n ∧ i = .int .i64 k ∧ Below w.heap.size w wr ∧ idxF p l 0 = idxF p (l.drop k) k) (fun i _ => n - (intOf i).toNat)
  case atStart => exact ⟨0, Nat.zero_le _, rfl, Below.refl _ _, rfl⟩
  case round =>
    obtain ⟨k, hk, rfl, hb, hi⟩ := hrel
    replace hi := Lib.hid hi
    by_cases hlt : k < n
    · have hx : l[k]? = some (l[k]'(by rw [Hn.out]; exact hlt)) := List.getElem?_eq_getElem _
      generalize l[k]'(by rw [Hn.out]; exact hlt) = x at hx
      replace hx := Lib.hid hx
      obtain ⟨b, off, rfl, hc⟩ := (Hr.out.below hb) k x hx.out
      have c0 : wr.cell? ⟨b, off + k, none⟩ = some (.slice x.A x.l.length x.c) := by simpa using hc 0 _ rfl
      have hm : x ∈ l := List.mem_of_getElem? hx.out
      have hd := Lib.hid (idxF_drop p l k x hx.out)
      clear hc hx
      cases hpx : p x
      all_goals
        have hcall := Hp.out x hm wr hb
        rw [hpx] at hcall
        replace hcall := Lib.hid hcall
        replace hpx := Lib.hid hpx
        clear hm
        go_wp2_with fail
        refine hcall.out.mono ?_
        rintro e w3 ⟨rfl, hb3⟩
        go_wp2
      · go_roundw
        case rel => exact ⟨k + 1, by omega, by go_num, bl_tr hb hb3, by rw [hi.out, hd.out, hpx.out]; simp⟩
        case measure => simp [intOf]; omega
      · go_ret
        exact ⟨by rw [hi.out, hd.out, hpx.out] <;> rfl, bl_tr hb hb3⟩
    · go_wp2
      go_ret
      have : k = l.length := by have := Hn.out; omega
      exact ⟨by rw [hi.out, this]; simp [idxF], hb⟩
set_option maxRecDepth 20000 in
theorem c_ContainsFuncW (f : FuncId) (lb : Array Value) (p : Rw → Bool) (A : Option Addr) (l : List Rw) (c : Nat) (w : World) (hl : l.length ≤ 1000000)
    (he : Enters Tryd.prog f) (hp : Preds Tryd.prog f lb w (fun x : Rw => .slice x.A x.l.length x.c) l p) (hr : Sl cRw 1 w A l) :
    Calls Tryd.prog 144 #[.slice A l.length c, .func (.func f) #[] lb] w (Ret (.bool (l.any p)) w) := by
  have hcall := Lib.hid (c_IndexFuncW f lb p A l c w hl he hp hr)
  have hge := Lib.hid (idxF_ge p l 0 (Int.le_refl 0))
  clear he hp hr
  generalize l.length = n at *
  go_enter Tryd.func144, Tryd.ntmps144
  go_wp2_with fail
  refine hcall.out.mono ?_
  rintro e w3 ⟨rfl, hb3⟩
  go_wp2
  go_ret
  exact ⟨by rw [hge.out]; rfl, hb3⟩
end Go.Proofs.YtdlmkblmljhbfaaDoor
namespace Go.Proofs.YtdlmkblmljhbfaaDoor
set_option linter.unusedSimpArgs false
set_option linter.unusedVariables false
open Go.RowKit Go.Shelf
attribute [local go_sem] bl_al bl_drew bl_drewN bl_refl
set_option maxRecDepth 20000
theorem c_within (n lo hi : Int) (w : World) : Calls Tryd.prog 74 #[.int .i64 n, .int .i64 lo, .int .i64 hi] w (Same (.bool (inR n lo hi)) w) := by
  go_enter Tryd.func74, Tryd.ntmps74
  go_wp2
  all_goals (go_ret; exact ⟨by first | (simp [inR, *]; done) | (simp [inR]; intros; omega), rfl⟩)

theorem c_unless (b : Bool) (x : Int) (w : World) : Calls Tryd.prog 78 #[.bool b, .int .i64 x] w (Same (.int .i64 (unl b x)) w) := by
  cases b
  all_goals
    go_enter Tryd.func78, Tryd.ntmps78
    go_wp2
    go_ret
    exact ⟨rfl, rfl⟩

set_option maxRecDepth 20000 in
theorem c_firstL (A : Option Addr) (l : List Int) (c : Nat) (w : World) (hl : l.length ≤ 1000000) (hr : Sl cI 1 w A l) :
    Calls Tryd.prog 77 #[.slice A l.length c] w (Same (.int .i64 (fstE l)) w) := by
  have Hr := Lib.hid hr
  clear hr
  obtain ⟨n, Hn⟩ : ∃ n, Hid (l.length = n) := ⟨_, rfl⟩
  rw [Hn.out] at hl ⊢
  go_enter Tryd.func77, Tryd.ntmps77
  go_wp2
  go_loop [7] (fun i => ∃ k : Nat, k ≤ n ∧ i = .int .i64 k ∧ fstE l = fstE (l.drop k)) (fun i => n - (intOf i).toNat)
  case atStart => exact ⟨0, Nat.zero_le _, rfl, rfl⟩
  case round =>
    obtain ⟨k, hk, rfl, hi⟩ := hrel
    replace hi := Lib.hid hi
    by_cases hlt : k < n
    · have hx : l[k]? = some (l[k]'(by rw [Hn.out]; exact hlt)) := List.getElem?_eq_getElem _
      generalize l[k]'(by rw [Hn.out]; exact hlt) = x at hx
      replace hx := Lib.hid hx
      obtain ⟨b, off, rfl, hc⟩ := Hr.out k x hx.out
      have c0 : w.cell? ⟨b, off + k, none⟩ = some (.int .i64 x) := by simpa using hc 0 _ rfl
      have hd := Lib.hid (fstE_drop l k x hx.out)
      clear hc
      by_cases h0 : x = 0
      · have h0' : (x != 0) = false := by simp [h0]
        replace h0 := Lib.hid h0
        go_wp2
        go_round
        case rel => exact ⟨k + 1, by omega, by go_num, by rw [hi.out, hd.out, if_pos h0.out]⟩
        case measure => simp [intOf]; omega
      · have h0' : (x != 0) = true := by simp [h0]
        replace h0 := Lib.hid h0
        go_wp2
        go_ret
        exact ⟨by rw [hi.out, hd.out, if_neg h0.out] <;> rfl, rfl⟩
    · go_wp2
      go_ret
      have : k = l.length := by have := Hn.out; omega
      exact ⟨by rw [hi.out, this]; simp [fstE], rfl⟩

theorem c_first2 {w : World} {g t : Nat} {a b : Int} (h : Blk w g t #[.int .i64 a, .int .i64 b]) : Calls Tryd.prog 77 #[.slice (some ⟨g, 0, none⟩) 2 2] w (Same (.int .i64 (fstE [a, b])) w) :=
  c_firstL (some ⟨g, 0, none⟩) [a, b] 2 w (by simp) (Blk.ints (l := [a, b]) h)
theorem c_first3 {w : World} {g t : Nat} {a b c : Int} (h : Blk w g t #[.int .i64 a, .int .i64 b, .int .i64 c]) : Calls Tryd.prog 77 #[.slice (some ⟨g, 0, none⟩) 3 3] w (Same (.int .i64 (fstE [a, b, c])) w) :=
  c_firstL (some ⟨g, 0, none⟩) [a, b, c] 3 w (by simp) (Blk.ints (l := [a, b, c]) h)
theorem c_first4 {w : World} {g t : Nat} {a b c d : Int} (h : Blk w g t #[.int .i64 a, .int .i64 b, .int .i64 c, .int .i64 d]) : Calls Tryd.prog 77 #[.slice (some ⟨g, 0, none⟩) 4 4] w (Same (.int .i64 (fstE [a, b, c, d])) w) :=
  c_firstL (some ⟨g, 0, none⟩) [a, b, c, d] 4 w (by simp) (Blk.ints (l := [a, b, c, d]) h)

theorem c_first5 {w : World} {g t : Nat} {a b c d f : Int} (h : Blk w g t #[.int .i64 a, .int .i64 b, .int .i64 c, .int .i64 d, .int .i64 f]) : Calls Tryd.prog 77 #[.slice (some ⟨g, 0, none⟩) 5 5] w (Same (.int .i64 (fstE [a, b, c, d, f])) w) :=
  c_firstL (some ⟨g, 0, none⟩) [a, b, c, d, f] 5 w (by simp) (Blk.ints (l := [a, b, c, d, f]) h)
theorem c_isByte (n : Int) (w : World) : Calls Tryd.prog 81 #[.int .i64 n] w (Same (.bool (byteB n)) w) := by
  go_enter Tryd.func81, Tryd.ntmps81
  go_wp2_with (go_at_call 74; (with_reducible refine (c_within _ _ _ _).mono ?_); rintro e w3 ⟨rfl, rfl⟩)
  go_ret
  exact ⟨rfl, rfl⟩
end Go.Proofs.YtdlmkblmljhbfaaDoor
namespace Go.Proofs.YtdlmkblmljhbfaaDoor
set_option linter.unusedSimpArgs false
set_option linter.unusedVariables false
open Go.RowKit Go.Shelf
attribute [local go_sem] bl_al bl_drew bl_drewN bl_refl
set_option maxRecDepth 20000
theorem letter_in (c : UInt8) : letter c = (inR (c.toNat : Int) 97 122 || inR (c.toNat : Int) 65 90) := by
  rw [Bool.eq_iff_iff, letter_iff, Bool.or_eq_true, inR_iff, inR_iff]
  omega
theorem other_in (c : UInt8) : other c = (inR (c.toNat : Int) 48 57 || ((c.toNat : Int) == 45)) := by
  rw [Bool.eq_iff_iff, other_iff, Bool.or_eq_true, inR_iff, beq_iff_eq]
  omega
set_option maxHeartbeats 1000000 in
theorem c_isName (s : ByteArray) (w : World) (hs : s.size ≤ maxLen) : Calls Tryd.prog 137 #[.string s] w (Same (.bool (nameB s)) w) := by
  unfold maxLen at hs
  have hR : Hid (nameB s = (nameFrom 0 s.data.toList && inR s.size 1 12)) := rfl
  have hend : Hid (nameFrom s.size (s.data.toList.drop s.size) = true) := by
    rw [List.drop_of_length_le (by simp)]
    exact Lib.hid rfl
  have hst : Hid (∀ k (h : k < s.size), nameFrom k (s.data.toList.drop k) = (((inR (s[k].toNat : Int) 97 122 || inR (s[k].toNat : Int) 65 90) || (decide (k ≠ 0) && (inR (s[k].toNat : Int) 48 57 || ((s[k].toNat : Int) == 45)))) && nameFrom (k + 1) (s.data.toList.drop (k + 1)))) := fun k h => by
    have := nameFrom_drop s.data.toList k s[k] (by
      rw [List.getElem?_eq_getElem (by simpa using h)]
      rfl)
    rw [this, letter_in, other_in]
  obtain ⟨nf, hnf⟩ : ∃ nf : Nat → Bool, ∀ k, nameFrom k (s.data.toList.drop k) = nf k := ⟨_, fun _ => rfl⟩
  have h0 : Hid (nameFrom 0 s.data.toList = nf 0) := hnf 0
  simp only [hnf] at hst hend
  clear hnf
  go_enter Tryd.func137, Tryd.ntmps137
  go_wp2
  go_loop [8] (fun i => ∃ k : Nat, k ≤ s.size ∧ i = .int .i64 k ∧ nf 0 = nf k) (fun i => s.size - (intOf i).toNat)
  case atStart => exact ⟨0, Nat.zero_le _, rfl, rfl⟩
  case round =>
    obtain ⟨k, hk, rfl, hi⟩ := hrel
    replace hi := Lib.hid hi
    by_cases hlt : k < s.size
    · have hd := Lib.hid (hst.out k hlt)
      have hm0 : s[k].toNat < 256 := s[k].toNat_lt
      cases h1 : inR (s[k].toNat : Int) 97 122
      case true =>
        rw [h1] at hd
        go_wp2_with (go_at_call 74; (with_reducible refine (c_within _ _ _ _).mono ?_); rintro e w3 ⟨rfl, rfl⟩)
        go_round
        case rel => exact ⟨k + 1, by omega, by go_num, by rw [hi.out, hd.out]; simp⟩
        case measure => simp [intOf]; omega
      cases h2 : inR (s[k].toNat : Int) 65 90
      case true =>
        rw [h1, h2] at hd
        go_wp2_with (go_at_call 74; (with_reducible refine (c_within _ _ _ _).mono ?_); rintro e w3 ⟨rfl, rfl⟩)
        go_round
        case rel => exact ⟨k + 1, by omega, by go_num, by rw [hi.out, hd.out]; simp⟩
        case measure => simp [intOf]; omega
      by_cases hk0 : k = 0
      · subst hk0
        rw [h1, h2] at hd
        go_wp2_with (go_at_call 74; (with_reducible refine (c_within _ _ _ _).mono ?_); rintro e w3 ⟨rfl, rfl⟩)
        go_ret
        exact ⟨by rw [hR.out, h0.out, hd.out]; simp, rfl⟩
      have hk0' : ((k : Int) == 0) = false := by simp; omega
      have hdk : decide (k ≠ 0) = true := by simp; omega
      rw [hdk] at hd
      clear hdk
      cases h3 : ((s[k].toNat : Int) == 45)
      case true =>
        have h3' : ((s[k].toNat : Int) != 45) = false := by simp [bne, h3]
        rw [h1, h2, h3] at hd
        go_wp2_with (go_at_call 74; (with_reducible refine (c_within _ _ _ _).mono ?_); rintro e w3 ⟨rfl, rfl⟩)
        go_round
        case rel => exact ⟨k + 1, by omega, by go_num, by rw [hi.out, hd.out]; simp⟩
        case measure => simp [intOf]; omega
      have h3' : ((s[k].toNat : Int) != 45) = true := by simp [bne, h3]
      cases h4 : inR (s[k].toNat : Int) 48 57
      case true =>
        rw [h1, h2, h3, h4] at hd
        go_wp2_with (go_at_call 74; (with_reducible refine (c_within _ _ _ _).mono ?_); rintro e w3 ⟨rfl, rfl⟩)
        go_round
        case rel => exact ⟨k + 1, by omega, by go_num, by rw [hi.out, hd.out]; simp⟩
        case measure => simp [intOf]; omega
      rw [h1, h2, h3, h4] at hd
      go_wp2_with (go_at_call 74; (with_reducible refine (c_within _ _ _ _).mono ?_); rintro e w3 ⟨rfl, rfl⟩)
      go_ret
      exact ⟨by rw [hR.out, h0.out, hi.out, hd.out]; simp, rfl⟩
    · have hke : k = s.size := by omega
      have h5 : Hid (nf 0 = true) := by rw [hi.out, hke]; exact hend
      go_wp2_with (go_at_call 74; (with_reducible refine (c_within _ _ _ _).mono ?_); rintro e w3 ⟨rfl, rfl⟩)
      go_ret
      exact ⟨by rw [hR.out, h0.out, h5.out] <;> rfl, rfl⟩
end Go.Proofs.YtdlmkblmljhbfaaDoor
namespace Go.Proofs.YtdlmkblmljhbfaaDoor
set_option linter.unusedSimpArgs false
set_option linter.unusedVariables false
theorem crc1_lt {r : Nat} (h : r < 256) : crc1 r < 256 := by
  have : ∀ r : _root_.Fin 256, crc1 r.1 < 256 := by decide +kernel
  exact this ⟨r, h⟩
theorem crcK_lt : ∀ (k : Nat) {r : Nat}, r < 256 → crcK k r < 256
  | 0, _, h => h
  | k + 1, _, h => crcK_lt k (crc1_lt h)
theorem xor_byte {a b : Nat} (ha : a < 256) (hb : b < 256) : a ^^^ b < 256 := Nat.xor_lt_two_pow (n := 8) ha hb
theorem remN_lt : ∀ (l : List Nat) {r : Nat}, r < 256 → (∀ n ∈ l, n < 256) → remN l r < 256
  | [], _, h, _ => h
  | n :: l, _, h, hl => remN_lt l (crcK_lt 8 (xor_byte h (hl n (by simp)))) fun m hm => hl m (by simp [hm])
theorem bytes_ok {l : List Int} (h : bytesE l = 0) : ∀ n ∈ l, 0 ≤ n ∧ n ≤ 255 := fun n hn => by
  obtain ⟨j, hj, rfl⟩ := List.getElem_of_mem hn
  have := eachS_ok _ l 0 h j l[j] (List.getElem?_eq_getElem hj)
  rw [unl_zero (by decide)] at this
  exact inR_iff.1 this
theorem remI_lt {l : List Int} (h : ∀ n ∈ l, 0 ≤ n ∧ n ≤ 255) : remI l < 256 := remN_lt _ (by decide) fun n hn => by
  obtain ⟨m, hm, rfl⟩ := List.mem_map.1 hn
  have := h m hm
  omega
theorem remN_snoc : ∀ (l : List Nat) (n r : Nat), remN (l ++ [n]) r = crcK 8 (remN l r ^^^ n)
  | [], _, _ => rfl
  | _ :: l, n, _ => remN_snoc l n _
theorem bytesE_zero {l : List Int} (h : ∀ n ∈ l, 0 ≤ n ∧ n ≤ 255) : bytesE l = 0 := by
  unfold bytesE
  rw [eachS_zero]
  intro j x hx
  rw [unl_zero (by decide)]
  exact inR_iff.2 (h x (List.mem_of_getElem? hx))
end Go.Proofs.YtdlmkblmljhbfaaDoor
namespace Go.Proofs.YtdlmkblmljhbfaaDoor
set_option linter.unusedSimpArgs false
set_option linter.unusedVariables false
open Go.RowKit Go.Shelf
attribute [local go_sem] bl_al bl_drew bl_drewN bl_refl
set_option maxRecDepth 20000
theorem Same.ret {v : Value} {w w' : World} {e : Ending} (h : Same v w e w') : Ret v w e w' := by
  obtain ⟨rfl, rfl⟩ := h
  exact ⟨rfl, bl_refl w⟩
theorem c_bytesErr1 (k x : Int) (w : World) : Calls Tryd.prog 125 #[.int .i64 k, .int .i64 x] w (Same (.int .i64 (unl (byteB x) 2)) w) := by
  go_enter Tryd.func125, Tryd.ntmps125
  go_wp2_with (first | (go_at_call 81; (with_reducible refine (c_isByte _ _).mono ?_); rintro e w3 ⟨rfl, rfl⟩) | (go_at_call 78; (with_reducible refine (c_unless _ _ _).mono ?_); rintro e w3 ⟨rfl, rfl⟩))
  go_ret
  exact ⟨rfl, rfl⟩
theorem c_bytesErr (l : List Int) (A : Option Addr) (c : Nat) (w : World) (hl : l.length ≤ 1000000) (hr : Sl cI 1 w A l) : Calls Tryd.prog 82 #[.slice A l.length c] w (Ret (.int .i64 (bytesE l)) w) := by
  have hcall := Lib.hid (c_eachI 125 #[] (fun _ n => unl (byteB n) 2) A l c w hl (enters_of Tryd.func125 (by kernel_rfl) rfl) (fun k x _ W _ => (c_bytesErr1 k x W).mono fun _ _ h => h.ret) hr)
  have he : Hid ((eachS (fun _ n => unl (byteB n) 2) l 0).2 = bytesE l) := rfl
  clear hr
  generalize l.length = n at *
  go_enter Tryd.func82, Tryd.ntmps82
  go_wp2_with fail
  refine hcall.out.mono ?_
  rintro e w3 ⟨rfl, hb3⟩
  go_wp2
  go_ret
  exact ⟨by rw [he.out] <;> rfl, hb3⟩
theorem i64_xor (a b : Nat) (ha : a < 1024) (hb : b < 1024) : bits .xor .i64 (a : Int) (b : Int) = ((a ^^^ b : Nat) : Int) := by
  have hx : a ^^^ b < 2 ^ 10 := Nat.xor_lt_two_pow ha hb
  have h1 : (BitVec.ofInt 64 (a : Int)).toNat = a := by
    rw [BitVec.ofInt_natCast, BitVec.toNat_ofNat]; exact Nat.mod_eq_of_lt (by omega)
  have h2 : (BitVec.ofInt 64 (b : Int)).toNat = b := by
    rw [BitVec.ofInt_natCast, BitVec.toNat_ofNat]; exact Nat.mod_eq_of_lt (by omega)
  show IntKind.i64.wrap ((BitVec.ofInt 64 (a : Int) ^^^ BitVec.ofInt 64 (b : Int)).toNat : Int) = _
  rw [BitVec.toNat_xor, h1, h2]
  exact IntWalk.i64_in _ (by omega)
theorem crcK_succ : ∀ (k r : Nat), crcK (k + 1) r = crc1 (crcK k r)
  | 0, _ => rfl
  | k + 1, r => crcK_succ k (crc1 r)
theorem crc_hi {s : Nat} (hs : s < 256) (h : 256 ≤ 2 * s) : bits .xor .i64 ((s : Int) * 2) 263 = ((crc1 s : Nat) : Int) := by
  have := i64_xor (2 * s) 263 (by omega) (by omega)
  rw [show ((2 * s : Nat) : Int) = (s : Int) * 2 by omega, show ((263 : Nat) : Int) = 263 from rfl] at this
  rw [this]
  unfold crc1
  rw [if_pos h]
theorem crc_lo {s : Nat} (h : ¬ 256 ≤ 2 * s) : ((s : Int) * 2) = ((crc1 s : Nat) : Int) := by
  unfold crc1
  rw [if_neg h]
  omega
set_option maxHeartbeats 2000000 in
theorem c_remainder (l : List Int) (A : Option Addr) (c : Nat) (w : World) (hl : l.length ≤ 1000000) (hb : ∀ n ∈ l, 0 ≤ n ∧ n ≤ 255) (hr : Sl cI 1 w A l) : Calls Tryd.prog 83 #[.slice A l.length c] w (Same (.int .i64 (remI l : Nat)) w) := by
  have Hr := Lib.hid hr
  clear hr
  have hlast : Hid (remN ((l.map Int.toNat).take l.length) 0 = remI l) := by rw [List.take_of_length_le (by simp)]; exact Lib.hid rfl
  have hstep : Hid (∀ k x, l[k]? = some x → remN ((l.map Int.toNat).take (k + 1)) 0 = crcK 8 (remN ((l.map Int.toNat).take k) 0 ^^^ x.toNat)) := fun k x hx => by
    rw [List.take_add_one, List.getElem?_map, hx]
    exact remN_snoc _ _ _
  have hlt : Hid (∀ k, remN ((l.map Int.toNat).take k) 0 < 256) := fun k => remN_lt _ (by decide) fun n hn => by
    obtain ⟨m, hm, rfl⟩ := List.mem_map.1 (List.mem_of_mem_take hn)
    have := hb m hm
    omega
  have hbd := Lib.hid fun k x (hx : l[k]? = some x) => hb x (List.mem_of_getElem? hx)
  have h0 : Hid (remN ((l.map Int.toNat).take 0) 0 = 0) := rfl
  generalize (fun k => remN ((l.map Int.toNat).take k) 0) = R at *
  obtain ⟨R, hR⟩ : ∃ R : Nat → Nat, ∀ k, remN ((l.map Int.toNat).take k) 0 = R k := ⟨_, fun _ => rfl⟩
  simp only [hR] at hlast hstep hlt h0
  clear hR hb
  obtain ⟨n, Hn⟩ : ∃ n, Hid (l.length = n) := ⟨_, rfl⟩
  rw [Hn.out] at hl hlast ⊢
  go_enter Tryd.func83, Tryd.ntmps83
  go_wp2
  go_loop [3, 8] (fun r i => ∃ k : Nat, k ≤ n ∧ i = .int .i64 k ∧ r = .int .i64 (R k : Nat)) (fun _ i => n - (intOf i).toNat)
  case atStart => exact ⟨0, Nat.zero_le _, rfl, by rw [h0.out]; rfl⟩
  case round =>
    obtain ⟨k, hk, rfl, rfl⟩ := hrel
    by_cases hltn : k < n
    · have hx : l[k]? = some (l[k]'(by rw [Hn.out]; exact hltn)) := List.getElem?_eq_getElem _
      generalize l[k]'(by rw [Hn.out]; exact hltn) = x at hx
      obtain ⟨b, off, rfl, hc⟩ := Hr.out k x hx
      have c0 : w.cell? ⟨b, off + k, none⟩ = some (.int .i64 x) := by simpa using hc 0 _ rfl
      clear hc
      have hbx := hbd.out k x hx
      obtain ⟨m, rfl⟩ : ∃ m : Nat, x = m := ⟨x.toNat, by omega⟩
      have hRk := hlt.out k
      have hxor := i64_xor (R k) m (by omega) (by omega)
      have hs := hstep.out k m hx
      have hb8 := xor_byte hRk (show m < 256 by omega)
      rw [Int.toNat_natCast] at hs
      replace hs := Lib.hid hs
      generalize hy : R k ^^^ m = y at *
      replace hxor := Lib.hid hxor
      clear hy hx
      go_wp2_with (simp only [hxor.out])
      go_loop [3, 15] (fun r i => ∃ j : Nat, j ≤ 8 ∧ i = .int .i64 j ∧ r = .int .i64 (crcK j y : Nat)) (fun _ i => 8 - (intOf i).toNat)
      case atStart => exact ⟨0, by omega, rfl, rfl⟩
      case round =>
        obtain ⟨j, hj, rfl, rfl⟩ := hrel
        by_cases hj8 : j < 8
        · have hs1 := crcK_lt j hb8
          have hsc := Lib.hid (crcK_succ j y)
          generalize hg : crcK j y = s at *
          replace hg := Lib.hid hg
          by_cases h2 : 256 ≤ 2 * s
          · have e := Lib.hid (crc_hi hs1 h2)
            go_wp2_with (simp only [e.out])
            go_round
            case rel => exact ⟨j + 1, by omega, by go_num, by rw [hsc.out]⟩
            case measure => simp [intOf]; omega
          · have e := Lib.hid (crc_lo h2)
            go_wp2
            go_round
            case rel => exact ⟨j + 1, by omega, by go_num, by rw [hsc.out, ← e.out]⟩
            case measure => simp [intOf]; omega
        · have : j = 8 := by omega
          subst this
          go_wp2
          go_round
          case rel => exact ⟨k + 1, by omega, by go_num, by rw [hs.out]⟩
          case measure => simp [intOf]; omega
    · go_wp2
      go_ret
      have : k = n := by omega
      exact ⟨by rw [this, hlast.out] <;> rfl, rfl⟩
end Go.Proofs.YtdlmkblmljhbfaaDoor
namespace Go.Proofs.YtdlmkblmljhbfaaDoor
set_option linter.unusedSimpArgs false
set_option linter.unusedVariables false
open Go.RowKit Go.Shelf Go.MapKept Go.ChangeMaps Go.WideMaps
attribute [local go_sem] bl_al bl_drew bl_drewN bl_refl bx_al bx_drew bx_drewN bx_refl
set_option maxRecDepth 20000
theorem lawS : Maps.Keyed Tryd.prog 9 := Maps.string_keyed Tryd.underlying9
theorem zeroU (w : World) : (zeroValue 186).run Tryd.prog w = .ok (.agg #[]) w := by kernel_rfl
def setD (L : List ByteArray) : DataW Unit := Maps.setOf (.agg []) (L.map fun s => Lit.string s.data.toList)
theorem setD_snoc (L : List ByteArray) (s : ByteArray) : setD (L ++ [s]) = (setD L).put (.string s.data.toList) (.agg []) := by
  unfold setD
  rw [List.map_append]
  exact Maps.setOf_snoc _ _ _
theorem has_setD (L : List ByteArray) (s : ByteArray) : Maps.has (setD L) (.string s.data.toList) = knownB L s := by
  unfold setD
  rw [Maps.has_setOf _ _ _ (fun x hx => by obtain ⟨y, -, rfl⟩ := List.mem_map.1 hx; exact trivial), List.any_map]
  unfold knownB
  congr 1
  funext o
  show (o.data.toList == s.data.toList) = (o.toList == s.toList)
  rw [ByteArray.toList_eq, ByteArray.toList_eq]
/-- The names that were met so far. -/
structure Seen (L : List ByteArray) (g m : Nat) (w : World) : Prop where
  blk : Blk w g 185 #[.map (some m)]
  map : w.ownsMap Tryd.prog 9 unitElem m L.length (setD L)
theorem map_bx {L : List ByteArray} {m n : Nat} {X : List Nat} {w w' : World} (h : w.ownsMap Tryd.prog 9 unitElem m n (setD L)) (hb : BX X w w') (hX : m ∉ X) : w'.ownsMap Tryd.prog 9 unitElem m n (setD L) := by
  obtain ⟨es, clock, h1, F, hs, hD⟩ := h
  exact ⟨es, clock, (hb.block m (Array.getElem?_eq_some_iff.1 h1).1 hX).trans h1, F, hs, hD⟩
theorem map_below {L : List ByteArray} {m n : Nat} {w w' : World} (h : w.ownsMap Tryd.prog 9 unitElem m n (setD L)) (hb : Below w.heap.size w w') : w'.ownsMap Tryd.prog 9 unitElem m n (setD L) := map_bx (X := []) h (bx_bl [] hb) (by simp)
theorem Seen.below {L : List ByteArray} {g m : Nat} {w w' : World} (h : Seen L g m w) (hb : Below w.heap.size w w') : Seen L g m w' := ⟨h.blk.below hb, map_below h.map hb⟩
theorem Seen.bx {L : List ByteArray} {g m : Nat} {X : List Nat} {w w' : World} (h : Seen L g m w) (hb : BX X w w') (hg : g ∉ X) (hm : m ∉ X) : Seen L g m w' := ⟨h.blk.keep hg hb, map_bx h.map hb hm⟩
theorem map_ne {L : List ByteArray} {g m n : Nat} {t : TypeId} {cs : Array Value} {w : World} (h : w.ownsMap Tryd.prog 9 unitElem m n (setD L)) (k : Blk w g t cs) : g ≠ m := fun e => by
  subst e
  obtain ⟨es, clock, h1, _⟩ := h
  unfold Blk at k
  rw [h1] at k
  cases k
theorem Seen.apart {L : List ByteArray} {g m : Nat} {w : World} (h : Seen L g m w) {b o : Nat} {v : Value} (hc : w.cell? ⟨b, o, none⟩ = some v) : b ≠ m := fun e => by
  subst e
  obtain ⟨es, clock, h1, _⟩ := h.map
  simp [World.cell?, h1] at hc
theorem Seen.lt {L : List ByteArray} {g m : Nat} {w : World} (h : Seen L g m w) : m < w.heap.size := by
  obtain ⟨es, clock, h1, _⟩ := h.map
  exact (Array.getElem?_eq_some_iff.1 h1).1
/-- Slices lie where they lay: a map is no part of them. -/
theorem sl_map {α : Type} {cs : α → List Value} {sz : Nat} {A : Option Addr} {l : List α} {L : List ByteArray} {g m : Nat} {w w' : World} (h : Sl cs sz w A l) (hs : Seen L g m w) (hb : BX [m] w w') : Sl cs sz w' A l := fun k x hx => by
  obtain ⟨b, off, e, hc⟩ := h k x hx
  refine ⟨b, off, e, fun j v hv => ?_⟩
  have h1 := hc j v hv
  have hlt := World.block_lt_of_cell? w _ h1
  have hne := hs.apart h1
  have : w'.heap[b]? = w.heap[b]? := hb.block b hlt (by simpa using hne)
  simp only [World.cell?] at h1 ⊢
  rw [this]
  exact h1
theorem bx_map {b : Nat} {w w' : World} (h : w.mapTurned w' b) : BX [b] w w' := by
  obtain ⟨es, clock, es', clock', hb, rfl⟩ := h
  refine ⟨rfl, rfl, rfl, by simp [setBlock], fun i hi hX => heap_setBlock_other hb _ (fun e => hX (by simp [e])), fun g hg t cs hk => ?_⟩
  have := List.mem_singleton.1 hg
  subst this
  unfold Blk at hk
  rw [hb] at hk
  cases hk
set_option maxHeartbeats 2000000 in
theorem c_names1 (L : List ByteArray) (s : ByteArray) (g m : Nat) (w : World) (hs : Seen L g m w) (hn : s.size ≤ maxLen) (hL : L.length ≤ 1000) :
    Calls Tryd.prog 136 #[.string s, .pointer (some ⟨g, 0, none⟩)] w
      (fun e w' => e = .returned (.int .i64 (fstE [unl (nameB s) 4, unl (!knownB L s) 5])) ∧ BX [m] w w' ∧ Seen (L ++ [s]) g m w') := by
  have hkey := keyOf_string_mk Tryd.underlying9 hn
  have hgm := map_ne hs.map hs.blk
  have k0 := hs.blk
  have hmap := Lib.hid hs.map
  have hhas := has_setD L s
  clear hs
  have L0 := k0.cell
  have hq := k0.lt
  replace hhas := Lib.hid hhas
  have hgw : g ≠ w.heap.size := Nat.ne_of_lt hq
  go_enter Tryd.func136, Tryd.ntmps136
  go_wp2_with (first
    | (at_lookup; refine wpList_lookup_own_unit _ rfl _ _ 185 rfl 9 186 lawS Tryd.underlying185 (zeroU _) m L.length _ rfl hmap.out _ _ rfl hkey ?_)
    | (at_mapUpdate; refine wpList_mapUpdate_in _ rfl _ _ _ 185 rfl 9 186 lawS Tryd.underlying185 (unitElem (H := Unit)) m L.length _ rfl (hmap.out.alloc _) (by unfold maxLen; omega) _ _ _ rfl rfl hkey _ [] unitElem_mk ?_; intro w1 hown1 hturn1))
  have hb1 : BX [m] w w1 := (bx_al _ (bx_refl [m] w)).trans (bx_map hturn1)
  have k1 := k0.keep (by simpa using hgm) hb1
  have hnew : w1.ownsMap Tryd.prog 9 unitElem m (L ++ [s]).length (setD (L ++ [s])) := by
    rw [setD_snoc, List.length_append]
    exact hown1
  replace hnew := Lib.hid hnew
  clear hown1 hturn1 L0 k0 hmap
  rw [hhas.out]
  go_wp2_with (first | (go_at_call 137; (with_reducible refine (c_isName s _ hn).mono ?_); rintro e w3 ⟨rfl, rfl⟩) | (go_at_call 78; (with_reducible refine (c_unless _ _ _).mono ?_); rintro e w3 ⟨rfl, rfl⟩) | (go_at_call 77; (with_reducible refine (c_first2 (Blk.new _ _ _)).mono ?_); rintro e w3 ⟨rfl, rfl⟩))
  go_ret
  exact ⟨rfl, bx_al _ hb1, k1.alloc _, map_below hnew.out (bl_al _ (bl_refl _))⟩
set_option maxHeartbeats 2000000 in
theorem c_names (w : World) : Calls Tryd.prog 101 #[] w (fun e w' => e = .returned (.func (.func 136) #[] #[.pointer (some ⟨w.heap.size + 1, 0, none⟩)]) ∧ Below w.heap.size w w' ∧ Seen [] (w.heap.size + 1) w.heap.size w') := by
  have hmm := @run_makeMap Tryd.prog
  go_enter Tryd.func101, Tryd.ntmps101
  go_wp2
  go_ret
  refine ⟨rfl, bl_al _ (bl_al _ (bl_refl w)), ?_, ?_⟩
  · have := Blk.new (w.alloc (.map #[] 0)) 185 #[.map (some w.heap.size)]
    rwa [World.size_alloc] at this
  · exact map_below (L := []) (World.ownsMap_made w _ _ _) (bl_al _ (bl_refl _))
/-! ### Ascending indexes. -/
set_option maxHeartbeats 2000000 in
theorem c_idx1 (k x la ct : Int) (B1 B2 : Nat) (w : World) (hct : 0 ≤ ct ∧ ct ≤ 1000000) (k1 : Blk w B1 3 #[.int .i64 ct]) (k2 : Blk w B2 3 #[.int .i64 la]) :
    Calls Tryd.prog 138 #[.int .i64 k, .int .i64 x, .pointer (some ⟨B1, 0, none⟩), .pointer (some ⟨B2, 0, none⟩)] w
      (fun e w' => e = .returned (.int .i64 (fstE [unl (inR x 0 (ct - 1)) 6, unl (decide (la < x)) 9])) ∧ BX [B2] w w' ∧ Blk w' B2 3 #[.int .i64 x]) := by
  obtain ⟨h1, h2⟩ := hct
  go_enter Tryd.func138, Tryd.ntmps138
  go_upto_region 1 with fail
  first
  | apply absB2 (w0 := w) (g0 := B1) (g1 := B2)
  | apply absTB2 (w0 := w) (g0 := B1) (g1 := B2)
  | apply absIB2 (w0 := w) (g0 := B1) (g1 := B2)
  iterate 3 (focus ((with_reducible (repeat' (first | assumption | apply jA | apply jB | apply jC | apply jD | apply jE | apply jF | apply hb3 | apply jG | apply jH | apply jI | apply jJ | apply jK | apply hb3x | (apply jL; first | (simp; done) | rfl) | apply jM | apply jN | apply jO | apply jP | apply jQ | apply jR | apply jS | apply jT (hb := hb3 _ (jA _)) | omega | (simp; done) | (simp; omega) | (dsimp only; omega)))); done))
  intro wa hb0' k1' k2'
  (try simp only [List.setIfInBounds_toArray, List.set_cons_zero, List.set_cons_succ] at k1' k2')
  try clear hb3
  try clear hb0
  try clear k1
  try clear k2
  have hb0 := hb0'; clear hb0'
  have k1 := k1'; clear k1'
  have k2 := k2'; clear k2'
  have Lk1 := k1.later
  have Fk1 := k1.laterF
  have Qk1 := k1.lt
  have Lk2 := k2.later
  have Fk2 := k2.laterF
  have Qk2 := k2.lt
  refine wp_any (w0 := wa) ⟨[], [], [some 8, some 9, some 10, some 11, some 12, some 13, some 14, some 15, some 16, some 17, some 18, some 7], [[], [], [1], [0, 1, 2], [0, 1, 2, 3], [], [], [5, 6], [0, 1, 2, 3, 4, 5, 6, 7], [0, 1, 2, 3, 4, 5, 6, 7, 8], [0, 1, 2, 3, 4, 5, 6, 7, 8, 9], [0, 1, 2, 3, 4, 5, 6, 7, 8, 9, 10]], [[], [], [1], [0, 2], [3], [], [], [5, 6], [7], [4, 8], [9], [9, 10]]⟩ (fun _ => []) (by kernel_rfl) (by kernel_rfl) (by (with_reducible (repeat' (first | assumption | apply jA | apply jB | apply jC | apply jD | apply jE | apply jF | apply hb3 | omega | (simp; done) | (simp; omega) | (dsimp only; omega))))) (fun u => by simp only [putD, Act.put, List.setIfInBounds_toArray, List.set_cons_zero, List.set_cons_succ, Nat.zero_add, Nat.reduceAdd]; rfl) ?_
  apply RGW.on (i := 0) rfl
  · (simp only [gA, gB, gC] <;> rfl)
  · intro γ u W hcur hd
    clear hd
    (try dsimp only)
    refine ⟨rfl, ?_⟩
    go_simp <;> (try go_bits) <;> with_reducible rfl
  · exact fun _ _ _ => rfl
  · rfl
  dsimp only [nA, cA]
  apply RGW.on (i := 1) rfl
  · (simp only [gA, gB, gC] <;> rfl)
  · intro γ u W hcur hd
    clear hd
    (try dsimp only)
    refine ⟨rfl, ?_⟩
    go_simp <;> (try go_bits) <;> with_reducible rfl
  · exact fun _ _ _ => rfl
  · rfl
  dsimp only [nA, cA]
  apply RGW.on (i := 2) rfl
  · (simp only [gA, gB, gC] <;> rfl)
  · intro γ u W hcur hd
    obtain ⟨⟨h1, -, -⟩, -⟩ := hd
    dsimp only at h1
    (try simp only [h1])
    refine ⟨rfl, ?_⟩
    go_simp <;> (try go_bits) <;> with_reducible rfl
  · exact fun _ _ _ => rfl
  · rfl
  dsimp only [nA, cA]
  apply RGW.call (i := 3) rfl
  · (simp only [gA, gB, gC] <;> rfl)
  · intro γ u W hcur hd
    obtain ⟨⟨h0, -, -⟩, ⟨h2, -, -⟩, -⟩ := hd
    dsimp only at h0 h2
    (try simp only [h0, h2])
    refine ⟨rfl, fun K hK => ?_⟩
    go_simp
    first
    | (go_at_call 74; (with_reducible refine (c_within _ _ _ _).mono ?_); rintro e w3 ⟨rfl, rfl⟩)
    | (go_at_call 78; (with_reducible refine (c_unless _ _ _).mono ?_); rintro e w3 ⟨rfl, rfl⟩)
    | (go_at_call 77; (with_reducible refine (c_first2 (by (with_reducible (repeat' (first | assumption | (apply jL; first | (simp; done) | rfl) | apply jM | apply jN | apply jO | apply jP | apply jQ | apply jR | apply jS | apply jT (hb := hb3 _ (jA _)) | omega | (simp; done) | (simp; omega) | (dsimp only; omega)))))).mono ?_); rintro e w3 ⟨rfl, rfl⟩)
    (try dsimp only)
    exact hK.out _ _ rfl (by (with_reducible (repeat' (first | assumption | apply jA | apply jB | apply jC | apply jD | apply jE | apply jF | apply hb3 | omega | (simp; done) | (simp; omega) | (dsimp only; omega)))))
  · exact fun _ _ _ => rfl
  · rfl
  dsimp only [nA, cA]
  apply RGW.call (i := 4) rfl
  · (simp only [gA, gB, gC] <;> rfl)
  · intro γ u W hcur hd
    obtain ⟨⟨h3, -, -⟩, -⟩ := hd
    dsimp only at h3
    (try simp only [h3])
    refine ⟨rfl, fun K hK => ?_⟩
    go_simp
    first
    | (go_at_call 74; (with_reducible refine (c_within _ _ _ _).mono ?_); rintro e w3 ⟨rfl, rfl⟩)
    | (go_at_call 78; (with_reducible refine (c_unless _ _ _).mono ?_); rintro e w3 ⟨rfl, rfl⟩)
    | (go_at_call 77; (with_reducible refine (c_first2 (by (with_reducible (repeat' (first | assumption | (apply jL; first | (simp; done) | rfl) | apply jM | apply jN | apply jO | apply jP | apply jQ | apply jR | apply jS | apply jT (hb := hb3 _ (jA _)) | omega | (simp; done) | (simp; omega) | (dsimp only; omega)))))).mono ?_); rintro e w3 ⟨rfl, rfl⟩)
    (try dsimp only)
    exact hK.out _ _ rfl (by (with_reducible (repeat' (first | assumption | apply jA | apply jB | apply jC | apply jD | apply jE | apply jF | apply hb3 | omega | (simp; done) | (simp; omega) | (dsimp only; omega)))))
  · exact fun _ _ _ => rfl
  · rfl
  dsimp only [nA, cA]
  apply RGW.on (i := 5) rfl
  · (simp only [gA, gB, gC] <;> rfl)
  · intro γ u W hcur hd
    clear hd
    (try dsimp only)
    refine ⟨rfl, ?_⟩
    go_simp <;> (try go_bits) <;> with_reducible rfl
  · exact fun _ _ _ => rfl
  · rfl
  dsimp only [nA, cA]
  apply RGW.on (i := 6) rfl
  · (simp only [gA, gB, gC] <;> rfl)
  · intro γ u W hcur hd
    clear hd
    (try dsimp only)
    refine ⟨rfl, ?_⟩
    go_simp <;> (try go_bits) <;> with_reducible rfl
  · exact fun _ _ _ => rfl
  · rfl
  dsimp only [nA, cA]
  apply RGW.on (i := 7) rfl
  · (simp only [gA, gB, gC] <;> rfl)
  · intro γ u W hcur hd
    obtain ⟨⟨h5, -, -⟩, ⟨h6, -, -⟩, -⟩ := hd
    dsimp only at h5 h6
    (try simp only [h5, h6])
    refine ⟨rfl, ?_⟩
    go_simp <;> (try go_bits) <;> with_reducible rfl
  · exact fun _ _ _ => rfl
  · rfl
  dsimp only [nA, cA]
  apply RGW.call (i := 8) rfl
  · (simp only [gA, gB, gC] <;> rfl)
  · intro γ u W hcur hd
    obtain ⟨⟨h7, -, -⟩, -⟩ := hd
    dsimp only at h7
    (try simp only [h7])
    refine ⟨rfl, fun K hK => ?_⟩
    go_simp
    first
    | (go_at_call 74; (with_reducible refine (c_within _ _ _ _).mono ?_); rintro e w3 ⟨rfl, rfl⟩)
    | (go_at_call 78; (with_reducible refine (c_unless _ _ _).mono ?_); rintro e w3 ⟨rfl, rfl⟩)
    | (go_at_call 77; (with_reducible refine (c_first2 (by (with_reducible (repeat' (first | assumption | (apply jL; first | (simp; done) | rfl) | apply jM | apply jN | apply jO | apply jP | apply jQ | apply jR | apply jS | apply jT (hb := hb3 _ (jA _)) | omega | (simp; done) | (simp; omega) | (dsimp only; omega)))))).mono ?_); rintro e w3 ⟨rfl, rfl⟩)
    (try dsimp only)
    exact hK.out _ _ rfl (by (with_reducible (repeat' (first | assumption | apply jA | apply jB | apply jC | apply jD | apply jE | apply jF | apply hb3 | omega | (simp; done) | (simp; omega) | (dsimp only; omega)))))
  · exact fun _ _ _ => rfl
  · rfl
  dsimp only [nA, cA]
  apply RGW.bslice (i := 9) rfl
  · (simp only [gA, gB, gC] <;> rfl)
  · intro γ u W hcur hd
    obtain ⟨⟨h4, -, -⟩, ⟨h8, -, -⟩, -⟩ := hd
    dsimp only at h4 h8
    (try simp only [h4, h8])
    refine ⟨rfl, fun K hK => ?_⟩
    go_simp
    exact hK.out _ _ rfl rfl
  · exact fun _ _ _ => rfl
  · rfl
  · rfl
  dsimp only [nA, cA]
  apply RGW.call (i := 10) rfl
  · (simp only [gA, gB, gC] <;> rfl)
  · intro γ u W hcur hd
    obtain ⟨⟨h9, r9, -⟩, -⟩ := hd
    dsimp only at h9 r9
    have L9 := r9.cell
    (try simp only [h9])
    refine ⟨rfl, fun K hK => ?_⟩
    go_simp
    first
    | (go_at_call 74; (with_reducible refine (c_within _ _ _ _).mono ?_); rintro e w3 ⟨rfl, rfl⟩)
    | (go_at_call 78; (with_reducible refine (c_unless _ _ _).mono ?_); rintro e w3 ⟨rfl, rfl⟩)
    | (go_at_call 77; (with_reducible refine (c_first2 (by (with_reducible (repeat' (first | assumption | (apply jL; first | (simp; done) | rfl) | apply jM | apply jN | apply jO | apply jP | apply jQ | apply jR | apply jS | apply jT (hb := hb3 _ (jA _)) | omega | (simp; done) | (simp; omega) | (dsimp only; omega)))))).mono ?_); rintro e w3 ⟨rfl, rfl⟩)
    (try dsimp only)
    exact hK.out _ _ rfl (by (with_reducible (repeat' (first | assumption | apply jA | apply jB | apply jC | apply jD | apply jE | apply jF | apply hb3 | omega | (simp; done) | (simp; omega) | (dsimp only; omega)))))
  · first
    | exact fun _ _ _ => rfl
    | intro γ γ' hg
      try dsimp only
      have e9 := hg 9 (by decide)
      simp only [e9]
  · rfl
  dsimp only [nA, cA]
  apply RGW.on (i := 11) rfl
  · (simp only [gA, gB, gC] <;> rfl)
  · intro γ u W hcur hd
    obtain ⟨⟨h9, r9, -⟩, ⟨h10, -, -⟩, -⟩ := hd
    dsimp only at h9 h10 r9
    have L9 := r9.cell
    (try simp only [h9, h10])
    refine ⟨rfl, ?_⟩
    go_simp <;> (try go_bits) <;> with_reducible rfl
  · first
    | exact fun _ _ _ => rfl
    | intro γ γ' hg
      try dsimp only
      have e9 := hg 9 (by decide)
      simp only [e9]
  · rfl
  dsimp only [nA, cA]
  refine RGW.fin (fun γ u wb hwb hd hdis => ?_)
  obtain ⟨⟨h0, -, -⟩, ⟨h1, -, -⟩, ⟨h2, -, -⟩, ⟨h3, -, -⟩, ⟨h4, -, -⟩, ⟨h5, -, -⟩, ⟨h6, -, -⟩, ⟨h7, -, -⟩, ⟨h8, -, -⟩, ⟨h9, r9, b9⟩, ⟨h10, -, -⟩, ⟨h11, -, -⟩, -⟩ := hd
  dsimp only at h0 h1 h2 h3 h4 h5 h6 h7 h8 h9 h10 h11 r9 b9
  clear hdis
  simp only [h0, h1, h2, h3, h4, h5, h6, h7, h8, h9, h10, h11]
  clear h11 h10 h9 h8 h7 h6 h5 h4 h3 h2 h1 h0
  replace b9 := b9 _ (List.mem_singleton.2 rfl)
  generalize hγ9 : (γ 9).n = g9 at *
  clear hγ9
  clear u
  simp only [List.map_nil]
  refine PlanW.done ?_
  have hb3 := bl_tt hwb
  have hbw := hb3 _ hb0
  replace k2 := k2.below hwb
  have L2 := k2.cell
  have F2 := k2.frozen
  go_wp2
  go_ret
  exact ⟨rfl, bx_set (.inl (by simp)) _ (bx_bl _ hbw), k2.set1 (by simp)⟩
set_option maxHeartbeats 2000000 in
theorem c_indexesErr (l : List Int) (ct : Int) (A : Option Addr) (c : Nat) (w : World) (hs : Sl cI 1 w A l) (hl : l.length ≤ 1000) (hct : 0 ≤ ct ∧ ct ≤ 1000000) :
    Calls Tryd.prog 106 #[.slice A l.length c, .int .i64 ct] w (Ret (.int .i64 (idxErr l ct)) w) := by
  have Hs := Lib.hid hs
  have hev := Lib.hid fun (B1 B2 : Nat) (W : World) (hb : Below w.heap.size w W) (k1 : Blk W B1 3 #[.int .i64 ct]) (k2 : Blk W B2 3 #[.int .i64 (-1)]) (h2 : w.heap.size ≤ B2) (h12 : B1 ≠ B2) =>
    c_eachJI 138 #[.pointer (some ⟨B1, 0, none⟩), .pointer (some ⟨B2, 0, none⟩)] (fun k n => fstE [unl (inR n 0 (ct - 1)) 6, unl (decide (prevI l k < n)) 9]) (fun k W => Blk W B2 3 #[.int .i64 (prevI l k)]) [B2] A l c W (by omega)
      (enters_of Tryd.func138 (by kernel_rfl) rfl) (fun k X Y h hb => h.below hb)
      (fun k x hx W' hb' hk => (c_idx1 k x (prevI l k) ct B1 B2 W' hct (k1.keep (by simpa using h12) hb') hk).mono fun e W2 ⟨e1, e2, e3⟩ => ⟨e1, e2, fun _ => by
        have : prevI l (k + 1) = x := by simp [prevI, hx]
        rw [this]
        exact e3⟩)
      (fun W' hb' => sl_new Hs.out ((bx_bl [B2] hb).trans hb') (by simpa using h2)) k2
  have hev2 : Hid ((eachS (fun k n => fstE [unl (inR n 0 (ct - 1)) 6, unl (decide (prevI l k < n)) 9]) l 0).2 = idxErr l ct) := rfl
  clear hs
  generalize l.length = n at *
  go_enter Tryd.func106, Tryd.ntmps106
  go_upto_region 2 with fail
  first
  | apply absB2 (w0 := w) (g0 := w.heap.size) (g1 := w.heap.size + 1)
  | apply absTB2 (w0 := w) (g0 := w.heap.size) (g1 := w.heap.size + 1)
  | apply absIB2 (w0 := w) (g0 := w.heap.size) (g1 := w.heap.size + 1)
  iterate 3 (focus ((with_reducible (repeat' (first | assumption | apply jA | apply jB | apply jC | apply jD | apply jE | apply jF | apply hb3 | apply jG | apply jH | apply jI | apply jJ | apply jK | apply hb3x | (apply jL; first | (simp; done) | rfl) | apply jM | apply jN | apply jO | apply jP | apply jQ | apply jR | apply jS | apply jT (hb := hb3 _ (jA _)) | omega | (simp; done) | (simp; omega) | (dsimp only; omega)))); done))
  intro wa hb0' k0' k1'
  (try simp only [List.setIfInBounds_toArray, List.set_cons_zero, List.set_cons_succ] at k0' k1')
  try clear hb3
  try clear hb0
  try clear k0
  try clear k1
  have hb0 := hb0'; clear hb0'
  have k0 := k0'; clear k0'
  have k1 := k1'; clear k1'
  go_wp2_with fail
  refine (hev.out w.heap.size (w.heap.size + 1) wa hb0 k0 k1 (by omega) (by omega)).mono ?_
  rintro e w3 ⟨rfl, hbx, -⟩
  rw [hev2.out]
  replace hb0 := bx_below hb0 hbx (by simp)
  clear hev hev2 hbx k0 k1
  go_wp2
  go_ret
  exact ⟨rfl, hb0⟩
end Go.Proofs.YtdlmkblmljhbfaaDoor
namespace Go.Proofs.YtdlmkblmljhbfaaDoor
set_option linter.unusedSimpArgs false
set_option linter.unusedVariables false
open Go.RowKit
section
variable {P : Program} {ops : Array Oper} {Q : Exit → Act → World → Prop} {m : Nat} {M : List Nat}
def StM (m : Nat) (M : List Nat) (i : Nat) (W W' : World) : Prop := if i = m then BX M W W' else Below W.heap.size W W'
theorem StM.bx {i : Nat} {W W' : World} (h : StM m M i W W') : BX M W W' := by
  unfold StM at h
  split at h
  · exact h
  · exact bx_bl M h
def PreM (m : Nat) (M : List Nat) (i : Nat) (w0 W : World) : Prop := if i = m then Below w0.heap.size w0 W else BX M w0 W
def OpWM (P : Program) (ops : Array Oper) (Q : Exit → Act → World → Prop) (m : Nat) (M : List Nat) (i : Nat) (o : Oper) (s : Sp) (γ : Nat → Gh) (a : Act) (W : World) : Prop :=
  wpOp P ops Q i (fun a' W' => ∃ g, a' = a.put o.dst (s.val (up γ i g)) ∧ StM m M i W W' ∧ s.R (up γ i g) W' ∧ ∀ x ∈ s.bl g, W.heap.size ≤ x ∧ x < W'.heap.size) a W
def OpOKM (P : Program) (ops : Array Oper) (Q : Exit → Act → World → Prop) (m : Nat) (M : List Nat) (w0 : World) (A : (Nat → Value) → Act) (p : Parts) (h : List Sp) (i : Nat) (s : Sp) : Prop :=
  Cong (p.C.getD i []) i s ∧ (∀ γ W W', Below W.heap.size W W' → s.R γ W → s.R γ W') ∧
  (i ≠ m → ∀ γ W W', (∀ x ∈ s.bl (γ i), w0.heap.size ≤ x ∧ x < W.heap.size) → BX M W W' → s.R γ W → s.R γ W') ∧
  (∀ γ u W, PreM m M i w0 W → Known h γ u w0 W (p.D.getD i []) → ∃ o, ops[i]? = some o ∧ OpWM P ops Q m M i o s γ (A u) W)
def FinM (ops : Array Oper) (Q : Exit → Act → World → Prop) (M : List Nat) (w0 : World) (A : (Nat → Value) → Act) (h : List Sp) : Prop :=
  ∀ γ u W, BX M w0 W → Known h γ u w0 W (List.range ops.size) → Q .normal (A u) W
def RGM (P : Program) (ops : Array Oper) (Q : Exit → Act → World → Prop) (m : Nat) (M : List Nat) (w0 : World) (A : (Nat → Value) → Act) (p : Parts) : Nat → List Sp → Prop
  | 0, h => FinM ops Q M w0 A h
  | k + 1, h => ∃ s, OpOKM P ops Q m M w0 A p h h.length s ∧ RGM P ops Q m M w0 A p k (h ++ [s])
theorem RGM_all {w0 : World} {A : (Nat → Value) → Act} {p : Parts} (F : AnyF ops p) (ht : p.tail = []) :
    ∀ (k : Nat) (h : List Sp), h.length + k = ops.size → RGM P ops Q m M w0 A p k h →
      ∃ hs, (∀ j, j < h.length → spAt hs j = spAt h j) ∧ (∀ i, h.length ≤ i → i < ops.size → OpOKM P ops Q m M w0 A p hs i (spAt hs i)) ∧ FinM ops Q M w0 A hs
  | 0, h, hk, H => ⟨h, fun _ _ => rfl, fun i h1 h2 => by omega, H⟩
  | k + 1, h, hk, ⟨s, hop, H⟩ => by
    obtain ⟨hs, e, ok, fin⟩ := RGM_all F ht k (h ++ [s]) (by simp; omega) H
    have el : spAt hs h.length = s := (e h.length (by simp)).trans (spAt_last h s)
    have ej : ∀ j, j < h.length → spAt hs j = spAt h j := fun j hj => (e j (by simp; omega)).trans (spAt_app h s j hj)
    refine ⟨hs, ej, fun i h1 h2 => ?_, fin⟩
    by_cases hi : i = h.length
    · subst hi
      obtain ⟨c1, c2, c3, c4⟩ := hop
      rw [el]
      refine ⟨c1, c2, c3, fun γ u W hb hkn => c4 γ u W hb (Known.of fun j hj => ?_)⟩
      have := hkn.mem j hj
      obtain ⟨_, _, _, _, hD⟩ := F.dst h.length h2 (by rw [ht]; rfl)
      unfold Known1 at this ⊢
      rw [ej j (hD j hj).2] at this
      exact this
    · exact ok i (by simp; omega) h2
structure InvM (ops : Array Oper) (p : Parts) (hs : List Sp) (m : Nat) (M : List Nat) (w0 : World) (a0 : Act) (listed : Array Bool) (γ : Nat → Gh) (u : Nat → Value) (a : Act) (W : World) : Prop where
  bx : BX M w0 W
  bl : listed.getD m false = false → Below w0.heap.size w0 W
  put : a = putD a0 p.ds 0 u
  kn : ∀ j, j < ops.size → listed.getD j false = true → Known1 hs γ u w0 W j
theorem inv_upM {p : Parts} {hs : List Sp} {w0 : World} {a0 : Act} {A : (Nat → Value) → Act} (F : AnyF ops p) (ht : p.tail = [])
    (ok : ∀ i, i < ops.size → OpOKM P ops Q m M w0 A p hs i (spAt hs i)) {listed : Array Bool} {γ : Nat → Gh} {u : Nat → Value} {a : Act} {W W' : World} (inv : LInv ops p listed) (I : InvM ops p hs m M w0 a0 listed γ u a W)
    {i : Nat} {o : Oper} (hi : i < ops.size) (hun : listed.getD i true = false) (ho : ops[i]? = some o) (g : Gh)
    (hb' : StM m M i W W') (hR : (spAt hs i).R (up γ i g) W') (hbl : ∀ x ∈ (spAt hs i).bl g, W.heap.size ≤ x ∧ x < W'.heap.size) :
    InvM ops p hs m M w0 a0 (listed.setIfInBounds i true) (up γ i g) (up u i ((spAt hs i).val (up γ i g))) (a.put o.dst ((spAt hs i).val (up γ i g))) W' := by
  have htf : ∀ k, p.tail.contains k = false := fun k => by rw [ht]; rfl
  obtain ⟨hbx, hb, ha, hkn⟩ := I
  obtain ⟨o', ho', hdst, _, hD⟩ := F.dst i hi (htf i)
  obtain rfl : o = o' := Option.some.inj (ho.symm.trans ho')
  have hCl : ∀ j, j < ops.size → listed.getD j false = true → ∀ k ∈ p.C.getD j [], listed.getD k false = true := fun j hj hl =>
    F.closed_C inv j hj (htf j) fun o' ho' => inv.closed j o' ho' hl
  have hni : ∀ j, listed.getD j false = true → j ≠ i := fun j hj e => by rw [e, getD_both hun] at hj; cases hj
  have hbx' := hb'.bx
  refine ⟨hbx.trans hbx', fun hl => ?_, ?_, fun j hj hl => ?_⟩
  · have him : i ≠ m := fun e => by
      subst e
      have hlt : i < listed.size := by rw [inv.size]; exact hi
      simp [hlt] at hl
    have hl' : listed.getD m false = false := by rwa [getD_set_ne false him] at hl
    unfold StM at hb'
    rw [if_neg him] at hb'
    exact (hb hl').trans (hb'.mono (hb hl').size)
  · rw [ha, hdst]
    have := putD_up p.ds a0 0 i u ((spAt hs i).val (up γ i g)) F.dis (Nat.zero_le _) (by rw [F.len]; omega)
    simpa using this
  · rcases listed_set hl with rfl | hl
    · exact ⟨by simp [up], hR, fun x hx => by
        have : x ∈ (spAt hs j).bl g := by simpa [up] using hx
        have := hbl x this
        exact ⟨Nat.le_trans hbx.size this.1, this.2⟩⟩
    · have hji := hni j hl
      obtain ⟨k1, k2, k3⟩ := hkn j hj hl
      have hcg := (ok j hj).1 γ (up γ i g) (fun k hk => by
        have : k ≠ i := by
          rcases hk with rfl | hk
          · exact hji
          · exact hni k (hCl j hj hl k hk)
        simp [up, this])
      refine ⟨?_, hcg.2 _ ?_, fun x hx => ?_⟩
      · rw [← hcg.1, ← k1]; simp [up, hji]
      · unfold StM at hb'
        by_cases him : i = m
        · subst him
          rw [if_pos rfl] at hb'
          exact (ok j hj).2.2.1 hji γ W W' k3 hb' k2
        · rw [if_neg him] at hb'
          exact (ok j hj).2.1 γ W W' hb' k2
      · have := k3 x (by simpa [up, hji] using hx)
        exact ⟨this.1, Nat.lt_of_lt_of_le this.2 hbx'.size⟩
theorem any_headM {p : Parts} {hs : List Sp} {w0 : World} {a0 : Act} {A : (Nat → Value) → Act} (F : AnyF ops p) (ht : p.tail = []) (hA : ∀ u, putD a0 p.ds 0 u = A u)
    (ok : ∀ i, i < ops.size → OpOKM P ops Q m M w0 A p hs i (spAt hs i)) (fin : FinM ops Q M w0 A hs) :
    ∀ (f : Nat) (listed : Array Bool) (γ : Nat → Gh) (u : Nat → Value) (a : Act) (W : World), LInv ops p listed → cntp ops.size p listed = f → InvM ops p hs m M w0 a0 listed γ u a W →
      wpAny P .any ops Q f listed a W := by
  have htf : ∀ k, p.tail.contains k = false := fun k => by rw [ht]; rfl
  intro f
  induction f with
  | zero =>
    intro listed γ u a W inv hc I
    have e := cntp_zero inv hc
    have hl : ∀ j, j < ops.size → listed.getD j true = true := fun j hj => by
      rw [e, headA_at _ _ hj, htf]; rfl
    have hr : Region.ready .any ops listed = [] := by
      cases hrr : Region.ready .any ops listed with
      | nil => rfl
      | cons i l =>
        have hm : i ∈ Region.ready .any ops listed := by rw [hrr]; simp
        obtain ⟨hun, o, ho, _⟩ := mem_ready.1 hm
        rw [hl i (Array.getElem?_eq_some_iff.1 ho).1] at hun
        cases hun
    refine wpAny_done hr ?_ 0
    rw [I.put, hA]
    refine fin γ u W I.bx (Known.of fun j hj => ?_)
    have hjs := List.mem_range.1 hj
    refine I.kn j hjs ?_
    rw [e, headA_at _ _ hjs, htf]; rfl
  | succ f ih =>
    intro listed γ u a W inv hc I
    obtain ⟨j, hj, htj, hun⟩ := cntp_pos (n := ops.size) (p := p) (listed := listed) (by omega)
    refine ⟨fun h => ?_, fun i hr => ?_⟩
    · obtain ⟨i, _, _, hr⟩ := ready_first F inv j hj htj hun
      rw [h] at hr
      cases hr
    · obtain ⟨huni, o, ho, hall⟩ := mem_ready.1 hr
      have hi : i < ops.size := (Array.getElem?_eq_some_iff.1 ho).1
      have hlt : i < listed.size := by rw [inv.size]; exact hi
      have hkn : Known hs γ u w0 W (p.D.getD i []) := by
        obtain ⟨o', ho', hdst, hbk, hD⟩ := F.dst i hi (htf i)
        have hCi := F.closed_C inv i hi (htf i) fun o' ho' => by
          obtain rfl : o = o' := Option.some.inj (ho.symm.trans ho')
          exact hall
        exact Known.of fun k hk => I.kn k (by have := (hD k hk).2; omega) (hCi k (hD k hk).1)
      have hpre : PreM m M i w0 W := by
        unfold PreM
        split
        · rename_i e
          subst e
          exact I.bl (getD_both huni)
        · exact I.bx
      obtain ⟨o', ho', hop⟩ := (ok i hi).2.2.2 γ u W hpre hkn
      obtain rfl : o = o' := Option.some.inj (ho.symm.trans ho')
      rw [← hA, ← I.put] at hop
      unfold OpWM at hop
      refine wpOp_mono (fun a' W' hp => ?_) hop
      obtain ⟨g, e, hb', hR, hbl⟩ := hp
      rw [e]
      exact ih _ _ _ _ W' (inv.set hr (htf i)) (by have := cntp_set hi hlt (htf i) huni; omega) (inv_upM F ht ok inv I hi huni ho g hb' hR hbl)
end
/-- The walk of such a region. -/
theorem wp_anyM {P : Program} {Q : Exit → Act → World → Prop} {id : Nat} {a0 : Act} {w w0 : World} {l : List Oper} {A : (Nat → Value) → Act} (m : Nat) (M : List Nat) (p : Parts) (hm : P.follows .mixedOrders = true)
    (hB : anyOk l.toArray p = true) (ht : p.tail = []) (hb : Below w0.heap.size w0 w.drew) (hA : ∀ u, putD a0 p.ds 0 u = A u) (h : RGM P l.toArray (NoPanic Q) m M w0 A p l.toArray.size []) :
    (Code.region id l.toArray true).wp P Q a0 w := by
  refine wp_region_noPanic (wp_region_any hm ?_)
  have F := anyOk_spec hB
  obtain ⟨hs, _, ok, fin⟩ := RGM_all F ht _ [] (by simp) h
  have inv0 : LInv l.toArray p (Array.replicate l.toArray.size false) :=
    ⟨by simp, fun j oj _ hl => (by rw [getD_replicate_false] at hl; cases hl), fun t ht => getD_in (by have := F.tin t ht; simpa using this) (getD_replicate_false _ _)⟩
  have hc : cntp l.toArray.size p (Array.replicate l.toArray.size false) = l.toArray.size := by
    have hcn := F.cnt
    rw [ht] at hcn
    have : cntp l.toArray.size p (Array.replicate l.toArray.size false) = (List.range l.toArray.size).countP (fun j => !([] : List Nat).contains j) := by
      unfold cntp
      rw [ht]
      refine List.countP_congr fun j hj => ?_
      have : j < l.length := by have := List.mem_range.1 hj; simpa using this
      simp [this]
    rw [this]
    simp
  exact any_headM (P := P) (Q := NoPanic Q) F ht hA (fun i hi => ok i (Nat.zero_le _) hi) fin _ _ (fun _ => gh0) (fun j => match p.ds.getD j none with | some t => a0.tmps.getD t undef | none => undef) a0 w.drew inv0 hc
    ⟨bx_bl M hb, fun _ => hb, (putD_old p.ds a0 0 _ fun j _ => by rw [Nat.zero_add]; cases p.ds.getD j none <;> rfl).symm, fun j _ hl => (by rw [getD_replicate_false] at hl; cases hl)⟩
section
variable {P : Program} {ops : Array Oper} {Q : Exit → Act → World → Prop} {m : Nat} {M : List Nat} {w0 : World} {A : (Nat → Value) → Act} {p : Parts} {k i : Nat} {h : List Sp} {o : Oper} {val : (Nat → Gh) → Value}
theorem RGM.on (hn : h.length = i) (hne : i ≠ m) (hi : ops[i]? = some o) (hop : ∀ γ u W, BX M w0 W → KnownL h γ u w0 W (p.D.getD i []) → Region.wanted o (yielded ops (A u).tmps) = true ∧ (execOp (A u).eval o).run P W = .ok (.value (val γ)) W)
    (hc : ∀ γ γ' : Nat → Gh, (∀ j, j = i ∨ j ∈ p.C.getD i [] → γ j = γ' j) → val γ = val γ')
    (H : RGM P ops Q m M w0 A p k (h ++ [⟨val, fun _ _ => True, fun _ => []⟩])) : RGM P ops Q m M w0 A p (k + 1) h := by
  subst hn
  refine ⟨_, ⟨fun γ γ' hg => ⟨hc γ γ' hg, fun _ h => h⟩, fun _ _ _ _ h => h, fun _ _ _ _ _ _ h => h, fun γ u W hb hk => ⟨o, hi, ?_⟩⟩, H⟩
  unfold PreM at hb
  rw [if_neg hne] at hb
  obtain ⟨hw, hv⟩ := hop γ u W hb hk.toL
  unfold OpWM wpOp
  simp only [hi]
  rw [if_pos hw]
  refine .inl ?_
  unfold Oper.wp
  simp only [hv, Oper.upon]
  refine ⟨γ h.length, ?_, ?_, trivial, fun x hx => by cases hx⟩
  · rw [up_self]
  · unfold StM
    rw [if_neg hne]
    exact Below.refl _ _
/-- Any operation that meets a specification with a ghost. -/
theorem RGM.gh (s : Sp) (hn : h.length = i) (hne : i ≠ m) (hi : ops[i]? = some o)
    (hop : ∀ γ u W, BX M w0 W → KnownL h γ u w0 W (p.D.getD i []) → Region.wanted o (yielded ops (A u).tmps) = true ∧
      ∀ K : Act → World → Prop, Shut (∀ g v W', v = s.val (up γ i g) → Below W.heap.size W W' → s.R (up γ i g) W' → (∀ x ∈ s.bl g, W.heap.size ≤ x ∧ x < W'.heap.size) → K ((A u).put o.dst v) W') → Oper.wp P o (A u) W K Q)
    (hc : Cong (p.C.getD i []) i s) (hm : ∀ γ W W', Below W.heap.size W W' → s.R γ W → s.R γ W') (hx : ∀ γ W W', (∀ x ∈ s.bl (γ i), w0.heap.size ≤ x ∧ x < W.heap.size) → BX M W W' → s.R γ W → s.R γ W')
    (H : RGM P ops Q m M w0 A p k (h ++ [s])) : RGM P ops Q m M w0 A p (k + 1) h := by
  subst hn
  refine ⟨s, ⟨hc, hm, fun _ => hx, fun γ u W hb hk => ⟨o, hi, ?_⟩⟩, H⟩
  unfold PreM at hb
  rw [if_neg hne] at hb
  obtain ⟨hw, hx⟩ := hop γ u W hb hk.toL
  unfold OpWM wpOp
  simp only [hi]
  rw [if_pos hw]
  exact .inl (hx _ (shut_in fun g v W' hv hb' hR hbl => ⟨g, by rw [hv], by unfold StM; rw [if_neg hne]; exact hb', hR, hbl⟩))
theorem RGM.call (hn : h.length = i) (hne : i ≠ m) (hi : ops[i]? = some o)
    (hop : ∀ γ u W, BX M w0 W → KnownL h γ u w0 W (p.D.getD i []) → Region.wanted o (yielded ops (A u).tmps) = true ∧
      ∀ K : Act → World → Prop, Shut (∀ v W', v = val γ → Below W.heap.size W W' → K ((A u).put o.dst v) W') → Oper.wp P o (A u) W K Q)
    (hc : ∀ γ γ' : Nat → Gh, (∀ j, j = i ∨ j ∈ p.C.getD i [] → γ j = γ' j) → val γ = val γ')
    (H : RGM P ops Q m M w0 A p k (h ++ [⟨val, fun _ _ => True, fun _ => []⟩])) : RGM P ops Q m M w0 A p (k + 1) h :=
  RGM.gh _ hn hne hi (fun γ u W hb hk => ⟨(hop γ u W hb hk).1, fun K hK => (hop γ u W hb hk).2 K (shut_in fun v W' hv hb' => hK.out (γ i) v W' (by rw [up_self]; exact hv) hb' trivial (fun x hx => by cases hx))⟩)
    (fun γ γ' hg => ⟨hc γ γ' hg, fun _ h => h⟩) (fun _ _ _ _ h => h) (fun _ _ _ _ _ h => h) H
/-- The operation that turns the blocks M. -/
theorem RGM.mut (s : Sp) (hn : h.length = i) (he : i = m) (hi : ops[i]? = some o)
    (hop : ∀ γ u W, Below w0.heap.size w0 W → KnownL h γ u w0 W (p.D.getD i []) → Region.wanted o (yielded ops (A u).tmps) = true ∧
      ∀ K : Act → World → Prop, Shut (∀ g v W', v = s.val (up γ i g) → BX M W W' → s.R (up γ i g) W' → (∀ x ∈ s.bl g, W.heap.size ≤ x ∧ x < W'.heap.size) → K ((A u).put o.dst v) W') → Oper.wp P o (A u) W K Q)
    (hc : Cong (p.C.getD i []) i s) (hm : ∀ γ W W', Below W.heap.size W W' → s.R γ W → s.R γ W')
    (H : RGM P ops Q m M w0 A p k (h ++ [s])) : RGM P ops Q m M w0 A p (k + 1) h := by
  subst hn
  refine ⟨s, ⟨hc, hm, fun h => absurd he h, fun γ u W hb hk => ⟨o, hi, ?_⟩⟩, H⟩
  unfold PreM at hb
  rw [if_pos he] at hb
  obtain ⟨hw, hx⟩ := hop γ u W hb hk.toL
  unfold OpWM wpOp
  simp only [hi]
  rw [if_pos hw]
  exact .inl (hx _ (shut_in fun g v W' hv hb' hR hbl => ⟨g, by rw [hv], by unfold StM; rw [if_pos he]; exact hb', hR, hbl⟩))
/-- A new block, and a slice of it. -/
theorem RGM.bslice {t : TypeId} {cs : (Nat → Gh) → Array Value} {n c : Nat} (hn : h.length = i) (hne : i ≠ m) (hM : ∀ x ∈ M, x < w0.heap.size) (hi : ops[i]? = some o)
    (hop : ∀ γ u W, BX M w0 W → KnownL h γ u w0 W (p.D.getD i []) → Region.wanted o (yielded ops (A u).tmps) = true ∧
      ∀ K : Act → World → Prop, Shut (∀ v W', v = .slice (some ⟨W.heap.size, 0, none⟩) n c → W' = W.alloc (.cells (cs γ) t) → K ((A u).put o.dst v) W') → Oper.wp P o (A u) W K Q)
    (hc : ∀ γ γ' : Nat → Gh, (∀ j, j ≠ i → j ∈ p.C.getD i [] → γ j = γ' j) → cs γ = cs γ') (hni : (p.C.getD i []).contains i = false)
    (H : RGM P ops Q m M w0 A p k (h ++ [⟨fun γ => .slice (some ⟨(γ i).n, 0, none⟩) n c, fun γ W => Blk W (γ i).n t (cs γ), fun g => [g.n]⟩])) : RGM P ops Q m M w0 A p (k + 1) h := by
  refine RGM.gh _ hn hne hi (fun γ u W hb hk => ⟨(hop γ u W hb hk).1, fun K hK => (hop γ u W hb hk).2 K (shut_in fun v W' hv hW => ?_)⟩) (fun γ γ' hg => ?_) (fun γ W W' hb hR => Blk.below hR hb) (fun γ W W' hbd hb hR => ?_) H
  · subst hW
    refine hK.out ⟨W.heap.size, undef, none, 0⟩ v _ (by simp [up, hv]) (bl_al _ (bl_refl W)) ?_ (fun x hx => ?_)
    · have : cs (up γ i ⟨W.heap.size, undef, none, 0⟩) = cs γ := hc _ _ fun j hj _ => by simp [up, hj]
      dsimp only
      rw [this]
      simpa [up] using Blk.new W t (cs γ)
    · have : x = W.heap.size := by simpa using hx
      subst this
      simp
  · have h1 := hg i (.inl rfl)
    have h2 : cs γ = cs γ' := hc γ γ' fun j _ hj => hg j (.inr hj)
    exact ⟨by dsimp only; rw [h1], fun W hR => by dsimp only at hR ⊢; rw [← h1, ← h2]; exact hR⟩
  · refine Blk.keep hR (fun hx => ?_) hb
    have h1 := hM _ hx
    have h2 := hbd _ (List.mem_singleton.2 rfl)
    omega
theorem RGM.fin (H : ∀ γ u W, BX M w0 W → KnownL h γ u w0 W (List.range ops.size) → Q .normal (A u) W) : RGM P ops (NoPanic Q) m M w0 A p 0 h := fun γ u W hb hk => H γ u W hb hk.toL
end
end Go.Proofs.YtdlmkblmljhbfaaDoor
