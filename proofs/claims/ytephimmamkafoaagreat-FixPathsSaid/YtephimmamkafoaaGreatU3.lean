/-
  The world under a new name: what is known of it is that nothing old turned, and some of its blocks.
  A region that draws its order, in whatever order, within a round of a range over a function: each operation is carried out there as anywhere.
  A loop over a bound method that is an iterator: its body, walked once, goes on; a round may turn the caller's own blocks X alone.
  What chapter 5 computes, as plain functions on numbers and lists: boxes, nets, readings, votes. Nothing here speaks of the program.
  slices.IndexFunc and slices.ContainsFunc at ranges, at beacons and at integers: the place of the first element of which a function value says yes, whether there is one. (Printed by gen_idx.py.)
  Walks of chapter 5's smallest functions: comparisons, errors, boxes taken apart and put together, and whether a box is sized and ordered.
  Walks: whether a box is sized, whether a string is a name, which nets and boxes are valid.
  The walk of isName: whether a string is a name.
  What chapter 5 computes, continued: which nets, boxes, moves, readings and votes are valid, boxes carried, squares, votes.
-/
import Derived.Test.YtephimmamkafoaaGreatU2
import Derived.Deep.Cut
import Derived.LoopNIn
import Derived.RangeFuncNested
import Derived.RangeFuncCalls
import Derived.OrdersIn
import Derived.RangeFuncLeaves
import GoSem.Core.Value
import Derived.Test.YtephimmamkafoaaGreatU1
import Derived.Shelf.Abstract
set_option linter.unusedSimpArgs false
set_option linter.unusedVariables false
namespace Go.Proofs.YtephimmamkafoaaGreat
open Go.RowKit
section
variable {P : Program} {w0 w : World} {a : Act}

theorem absX1 {G : World → Prop} {g0 : Nat} {t0 : TypeId} {c0 : Array Value} (hb : Below w0.heap.size w0 w) (k0 : Blk w g0 t0 c0) (h : ∀ W, Below w0.heap.size w0 W → Blk W g0 t0 c0 → G W) : G w := h w hb k0
theorem absB1 {c : Code} {Q : Exit → Act → World → Prop} {g0 : Nat} {t0 : TypeId} {c0 : Array Value} (hb : Below w0.heap.size w0 w) (k0 : Blk w g0 t0 c0) (h : ∀ W, Below w0.heap.size w0 W → Blk W g0 t0 c0 → c.wp P Q a W) : c.wp P Q a w := h w hb k0
theorem absTB1 {K : Act → World → Prop} {Q : Exit → Act → World → Prop} {x : Exit} {g0 : Nat} {t0 : TypeId} {c0 : Array Value} (hb : Below w0.heap.size w0 w) (k0 : Blk w g0 t0 c0) (h : ∀ W, Below w0.heap.size w0 W → Blk W g0 t0 c0 → Exit.then K Q x a W) : Exit.then K Q x a w := h w hb k0
theorem absPB1 {fn : Func} {R : Ending → World → Prop} {x : Exit} {g0 : Nat} {t0 : TypeId} {c0 : Array Value} (hb : Below w0.heap.size w0 w) (k0 : Blk w g0 t0 c0) (h : ∀ W, Below w0.heap.size w0 W → Blk W g0 t0 c0 → bodyPost P fn R x a W) : bodyPost P fn R x a w := h w hb k0
theorem absX2 {G : World → Prop} {g0 g1 : Nat} {t0 t1 : TypeId} {c0 c1 : Array Value} (hb : Below w0.heap.size w0 w) (k0 : Blk w g0 t0 c0) (k1 : Blk w g1 t1 c1) (h : ∀ W, Below w0.heap.size w0 W → Blk W g0 t0 c0 → Blk W g1 t1 c1 → G W) : G w := h w hb k0 k1
theorem absB2 {c : Code} {Q : Exit → Act → World → Prop} {g0 g1 : Nat} {t0 t1 : TypeId} {c0 c1 : Array Value} (hb : Below w0.heap.size w0 w) (k0 : Blk w g0 t0 c0) (k1 : Blk w g1 t1 c1) (h : ∀ W, Below w0.heap.size w0 W → Blk W g0 t0 c0 → Blk W g1 t1 c1 → c.wp P Q a W) : c.wp P Q a w := h w hb k0 k1
theorem absRB2 {c : Code} {Q : Exit → Act → World → Prop} {m : Nat} {g0 g1 : Nat} {t0 t1 : TypeId} {c0 c1 : Array Value} (hb : Below w0.heap.size w0 w) (k0 : Blk w g0 t0 c0) (k1 : Blk w g1 t1 c1) (h : ∀ W, Below w0.heap.size w0 W → Blk W g0 t0 c0 → Blk W g1 t1 c1 → c.rounds P Q m a W) : c.rounds P Q m a w := h w hb k0 k1
theorem absTB2 {K : Act → World → Prop} {Q : Exit → Act → World → Prop} {x : Exit} {g0 g1 : Nat} {t0 t1 : TypeId} {c0 c1 : Array Value} (hb : Below w0.heap.size w0 w) (k0 : Blk w g0 t0 c0) (k1 : Blk w g1 t1 c1) (h : ∀ W, Below w0.heap.size w0 W → Blk W g0 t0 c0 → Blk W g1 t1 c1 → Exit.then K Q x a W) : Exit.then K Q x a w := h w hb k0 k1
theorem absPB2 {fn : Func} {R : Ending → World → Prop} {x : Exit} {g0 g1 : Nat} {t0 t1 : TypeId} {c0 c1 : Array Value} (hb : Below w0.heap.size w0 w) (k0 : Blk w g0 t0 c0) (k1 : Blk w g1 t1 c1) (h : ∀ W, Below w0.heap.size w0 W → Blk W g0 t0 c0 → Blk W g1 t1 c1 → bodyPost P fn R x a W) : bodyPost P fn R x a w := h w hb k0 k1
theorem absX3 {G : World → Prop} {g0 g1 g2 : Nat} {t0 t1 t2 : TypeId} {c0 c1 c2 : Array Value} (hb : Below w0.heap.size w0 w) (k0 : Blk w g0 t0 c0) (k1 : Blk w g1 t1 c1) (k2 : Blk w g2 t2 c2) (h : ∀ W, Below w0.heap.size w0 W → Blk W g0 t0 c0 → Blk W g1 t1 c1 → Blk W g2 t2 c2 → G W) : G w := h w hb k0 k1 k2
theorem absK3 {c : Code} {Q : Exit → Act → World → Prop} {X : List Nat} {g0 g1 g2 : Nat} {t0 t1 t2 : TypeId} {c0 c1 c2 : Array Value} (hb : BX X w0 w) (k0 : Blk w g0 t0 c0) (k1 : Blk w g1 t1 c1) (k2 : Blk w g2 t2 c2) (h : ∀ W, BX X w0 W → Blk W g0 t0 c0 → Blk W g1 t1 c1 → Blk W g2 t2 c2 → c.wp P Q a W) : c.wp P Q a w := h w hb k0 k1 k2
theorem absB3 {c : Code} {Q : Exit → Act → World → Prop} {g0 g1 g2 : Nat} {t0 t1 t2 : TypeId} {c0 c1 c2 : Array Value} (hb : Below w0.heap.size w0 w) (k0 : Blk w g0 t0 c0) (k1 : Blk w g1 t1 c1) (k2 : Blk w g2 t2 c2) (h : ∀ W, Below w0.heap.size w0 W → Blk W g0 t0 c0 → Blk W g1 t1 c1 → Blk W g2 t2 c2 → c.wp P Q a W) : c.wp P Q a w := h w hb k0 k1 k2
theorem absRK3 {c : Code} {Q : Exit → Act → World → Prop} {m : Nat} {X : List Nat} {g0 g1 g2 : Nat} {t0 t1 t2 : TypeId} {c0 c1 c2 : Array Value} (hb : BX X w0 w) (k0 : Blk w g0 t0 c0) (k1 : Blk w g1 t1 c1) (k2 : Blk w g2 t2 c2) (h : ∀ W, BX X w0 W → Blk W g0 t0 c0 → Blk W g1 t1 c1 → Blk W g2 t2 c2 → c.rounds P Q m a W) : c.rounds P Q m a w := h w hb k0 k1 k2
theorem absRB3 {c : Code} {Q : Exit → Act → World → Prop} {m : Nat} {g0 g1 g2 : Nat} {t0 t1 t2 : TypeId} {c0 c1 c2 : Array Value} (hb : Below w0.heap.size w0 w) (k0 : Blk w g0 t0 c0) (k1 : Blk w g1 t1 c1) (k2 : Blk w g2 t2 c2) (h : ∀ W, Below w0.heap.size w0 W → Blk W g0 t0 c0 → Blk W g1 t1 c1 → Blk W g2 t2 c2 → c.rounds P Q m a W) : c.rounds P Q m a w := h w hb k0 k1 k2
theorem absIK3 {F : Fence} {n : Nat} {c : Code} {Q : Exit → Act → World → Prop} {X : List Nat} {g0 g1 g2 : Nat} {t0 t1 t2 : TypeId} {c0 c1 c2 : Array Value} (hb : BX X w0 w) (k0 : Blk w g0 t0 c0) (k1 : Blk w g1 t1 c1) (k2 : Blk w g2 t2 c2) (h : ∀ W, BX X w0 W → Blk W g0 t0 c0 → Blk W g1 t1 c1 → Blk W g2 t2 c2 → c.wpIn F n P Q a W) : c.wpIn F n P Q a w := h w hb k0 k1 k2
theorem absIB3 {F : Fence} {n : Nat} {c : Code} {Q : Exit → Act → World → Prop} {g0 g1 g2 : Nat} {t0 t1 t2 : TypeId} {c0 c1 c2 : Array Value} (hb : Below w0.heap.size w0 w) (k0 : Blk w g0 t0 c0) (k1 : Blk w g1 t1 c1) (k2 : Blk w g2 t2 c2) (h : ∀ W, Below w0.heap.size w0 W → Blk W g0 t0 c0 → Blk W g1 t1 c1 → Blk W g2 t2 c2 → c.wpIn F n P Q a W) : c.wpIn F n P Q a w := h w hb k0 k1 k2
theorem absJK3 {F : Fence} {n : Nat} {c : Code} {Q : Exit → Act → World → Prop} {m : Nat} {X : List Nat} {g0 g1 g2 : Nat} {t0 t1 t2 : TypeId} {c0 c1 c2 : Array Value} (hb : BX X w0 w) (k0 : Blk w g0 t0 c0) (k1 : Blk w g1 t1 c1) (k2 : Blk w g2 t2 c2) (h : ∀ W, BX X w0 W → Blk W g0 t0 c0 → Blk W g1 t1 c1 → Blk W g2 t2 c2 → c.roundsIn F n P Q m a W) : c.roundsIn F n P Q m a w := h w hb k0 k1 k2
theorem absTK3 {K : Act → World → Prop} {Q : Exit → Act → World → Prop} {x : Exit} {X : List Nat} {g0 g1 g2 : Nat} {t0 t1 t2 : TypeId} {c0 c1 c2 : Array Value} (hb : BX X w0 w) (k0 : Blk w g0 t0 c0) (k1 : Blk w g1 t1 c1) (k2 : Blk w g2 t2 c2) (h : ∀ W, BX X w0 W → Blk W g0 t0 c0 → Blk W g1 t1 c1 → Blk W g2 t2 c2 → Exit.then K Q x a W) : Exit.then K Q x a w := h w hb k0 k1 k2
theorem absTB3 {K : Act → World → Prop} {Q : Exit → Act → World → Prop} {x : Exit} {g0 g1 g2 : Nat} {t0 t1 t2 : TypeId} {c0 c1 c2 : Array Value} (hb : Below w0.heap.size w0 w) (k0 : Blk w g0 t0 c0) (k1 : Blk w g1 t1 c1) (k2 : Blk w g2 t2 c2) (h : ∀ W, Below w0.heap.size w0 W → Blk W g0 t0 c0 → Blk W g1 t1 c1 → Blk W g2 t2 c2 → Exit.then K Q x a W) : Exit.then K Q x a w := h w hb k0 k1 k2
theorem absPB3 {fn : Func} {R : Ending → World → Prop} {x : Exit} {g0 g1 g2 : Nat} {t0 t1 t2 : TypeId} {c0 c1 c2 : Array Value} (hb : Below w0.heap.size w0 w) (k0 : Blk w g0 t0 c0) (k1 : Blk w g1 t1 c1) (k2 : Blk w g2 t2 c2) (h : ∀ W, Below w0.heap.size w0 W → Blk W g0 t0 c0 → Blk W g1 t1 c1 → Blk W g2 t2 c2 → bodyPost P fn R x a W) : bodyPost P fn R x a w := h w hb k0 k1 k2
theorem absX4 {G : World → Prop} {g0 g1 g2 g3 : Nat} {t0 t1 t2 t3 : TypeId} {c0 c1 c2 c3 : Array Value} (hb : Below w0.heap.size w0 w) (k0 : Blk w g0 t0 c0) (k1 : Blk w g1 t1 c1) (k2 : Blk w g2 t2 c2) (k3 : Blk w g3 t3 c3) (h : ∀ W, Below w0.heap.size w0 W → Blk W g0 t0 c0 → Blk W g1 t1 c1 → Blk W g2 t2 c2 → Blk W g3 t3 c3 → G W) : G w := h w hb k0 k1 k2 k3
theorem absB4 {c : Code} {Q : Exit → Act → World → Prop} {g0 g1 g2 g3 : Nat} {t0 t1 t2 t3 : TypeId} {c0 c1 c2 c3 : Array Value} (hb : Below w0.heap.size w0 w) (k0 : Blk w g0 t0 c0) (k1 : Blk w g1 t1 c1) (k2 : Blk w g2 t2 c2) (k3 : Blk w g3 t3 c3) (h : ∀ W, Below w0.heap.size w0 W → Blk W g0 t0 c0 → Blk W g1 t1 c1 → Blk W g2 t2 c2 → Blk W g3 t3 c3 → c.wp P Q a W) : c.wp P Q a w := h w hb k0 k1 k2 k3
theorem absRB4 {c : Code} {Q : Exit → Act → World → Prop} {m : Nat} {g0 g1 g2 g3 : Nat} {t0 t1 t2 t3 : TypeId} {c0 c1 c2 c3 : Array Value} (hb : Below w0.heap.size w0 w) (k0 : Blk w g0 t0 c0) (k1 : Blk w g1 t1 c1) (k2 : Blk w g2 t2 c2) (k3 : Blk w g3 t3 c3) (h : ∀ W, Below w0.heap.size w0 W → Blk W g0 t0 c0 → Blk W g1 t1 c1 → Blk W g2 t2 c2 → Blk W g3 t3 c3 → c.rounds P Q m a W) : c.rounds P Q m a w := h w hb k0 k1 k2 k3
theorem absIB4 {F : Fence} {n : Nat} {c : Code} {Q : Exit → Act → World → Prop} {g0 g1 g2 g3 : Nat} {t0 t1 t2 t3 : TypeId} {c0 c1 c2 c3 : Array Value} (hb : Below w0.heap.size w0 w) (k0 : Blk w g0 t0 c0) (k1 : Blk w g1 t1 c1) (k2 : Blk w g2 t2 c2) (k3 : Blk w g3 t3 c3) (h : ∀ W, Below w0.heap.size w0 W → Blk W g0 t0 c0 → Blk W g1 t1 c1 → Blk W g2 t2 c2 → Blk W g3 t3 c3 → c.wpIn F n P Q a W) : c.wpIn F n P Q a w := h w hb k0 k1 k2 k3
theorem absTB4 {K : Act → World → Prop} {Q : Exit → Act → World → Prop} {x : Exit} {g0 g1 g2 g3 : Nat} {t0 t1 t2 t3 : TypeId} {c0 c1 c2 c3 : Array Value} (hb : Below w0.heap.size w0 w) (k0 : Blk w g0 t0 c0) (k1 : Blk w g1 t1 c1) (k2 : Blk w g2 t2 c2) (k3 : Blk w g3 t3 c3) (h : ∀ W, Below w0.heap.size w0 W → Blk W g0 t0 c0 → Blk W g1 t1 c1 → Blk W g2 t2 c2 → Blk W g3 t3 c3 → Exit.then K Q x a W) : Exit.then K Q x a w := h w hb k0 k1 k2 k3
theorem absPB4 {fn : Func} {R : Ending → World → Prop} {x : Exit} {g0 g1 g2 g3 : Nat} {t0 t1 t2 t3 : TypeId} {c0 c1 c2 c3 : Array Value} (hb : Below w0.heap.size w0 w) (k0 : Blk w g0 t0 c0) (k1 : Blk w g1 t1 c1) (k2 : Blk w g2 t2 c2) (k3 : Blk w g3 t3 c3) (h : ∀ W, Below w0.heap.size w0 W → Blk W g0 t0 c0 → Blk W g1 t1 c1 → Blk W g2 t2 c2 → Blk W g3 t3 c3 → bodyPost P fn R x a W) : bodyPost P fn R x a w := h w hb k0 k1 k2 k3
theorem absB5 {c : Code} {Q : Exit → Act → World → Prop} {g0 g1 g2 g3 g4 : Nat} {t0 t1 t2 t3 t4 : TypeId} {c0 c1 c2 c3 c4 : Array Value} (hb : Below w0.heap.size w0 w) (k0 : Blk w g0 t0 c0) (k1 : Blk w g1 t1 c1) (k2 : Blk w g2 t2 c2) (k3 : Blk w g3 t3 c3) (k4 : Blk w g4 t4 c4) (h : ∀ W, Below w0.heap.size w0 W → Blk W g0 t0 c0 → Blk W g1 t1 c1 → Blk W g2 t2 c2 → Blk W g3 t3 c3 → Blk W g4 t4 c4 → c.wp P Q a W) : c.wp P Q a w := h w hb k0 k1 k2 k3 k4
theorem absRB5 {c : Code} {Q : Exit → Act → World → Prop} {m : Nat} {g0 g1 g2 g3 g4 : Nat} {t0 t1 t2 t3 t4 : TypeId} {c0 c1 c2 c3 c4 : Array Value} (hb : Below w0.heap.size w0 w) (k0 : Blk w g0 t0 c0) (k1 : Blk w g1 t1 c1) (k2 : Blk w g2 t2 c2) (k3 : Blk w g3 t3 c3) (k4 : Blk w g4 t4 c4) (h : ∀ W, Below w0.heap.size w0 W → Blk W g0 t0 c0 → Blk W g1 t1 c1 → Blk W g2 t2 c2 → Blk W g3 t3 c3 → Blk W g4 t4 c4 → c.rounds P Q m a W) : c.rounds P Q m a w := h w hb k0 k1 k2 k3 k4
theorem absTB5 {K : Act → World → Prop} {Q : Exit → Act → World → Prop} {x : Exit} {g0 g1 g2 g3 g4 : Nat} {t0 t1 t2 t3 t4 : TypeId} {c0 c1 c2 c3 c4 : Array Value} (hb : Below w0.heap.size w0 w) (k0 : Blk w g0 t0 c0) (k1 : Blk w g1 t1 c1) (k2 : Blk w g2 t2 c2) (k3 : Blk w g3 t3 c3) (k4 : Blk w g4 t4 c4) (h : ∀ W, Below w0.heap.size w0 W → Blk W g0 t0 c0 → Blk W g1 t1 c1 → Blk W g2 t2 c2 → Blk W g3 t3 c3 → Blk W g4 t4 c4 → Exit.then K Q x a W) : Exit.then K Q x a w := h w hb k0 k1 k2 k3 k4
theorem absPB5 {fn : Func} {R : Ending → World → Prop} {x : Exit} {g0 g1 g2 g3 g4 : Nat} {t0 t1 t2 t3 t4 : TypeId} {c0 c1 c2 c3 c4 : Array Value} (hb : Below w0.heap.size w0 w) (k0 : Blk w g0 t0 c0) (k1 : Blk w g1 t1 c1) (k2 : Blk w g2 t2 c2) (k3 : Blk w g3 t3 c3) (k4 : Blk w g4 t4 c4) (h : ∀ W, Below w0.heap.size w0 W → Blk W g0 t0 c0 → Blk W g1 t1 c1 → Blk W g2 t2 c2 → Blk W g3 t3 c3 → Blk W g4 t4 c4 → bodyPost P fn R x a W) : bodyPost P fn R x a w := h w hb k0 k1 k2 k3 k4
theorem absX6 {G : World → Prop} {g0 g1 g2 g3 g4 g5 : Nat} {t0 t1 t2 t3 t4 t5 : TypeId} {c0 c1 c2 c3 c4 c5 : Array Value} (hb : Below w0.heap.size w0 w) (k0 : Blk w g0 t0 c0) (k1 : Blk w g1 t1 c1) (k2 : Blk w g2 t2 c2) (k3 : Blk w g3 t3 c3) (k4 : Blk w g4 t4 c4) (k5 : Blk w g5 t5 c5) (h : ∀ W, Below w0.heap.size w0 W → Blk W g0 t0 c0 → Blk W g1 t1 c1 → Blk W g2 t2 c2 → Blk W g3 t3 c3 → Blk W g4 t4 c4 → Blk W g5 t5 c5 → G W) : G w := h w hb k0 k1 k2 k3 k4 k5
theorem absB6 {c : Code} {Q : Exit → Act → World → Prop} {g0 g1 g2 g3 g4 g5 : Nat} {t0 t1 t2 t3 t4 t5 : TypeId} {c0 c1 c2 c3 c4 c5 : Array Value} (hb : Below w0.heap.size w0 w) (k0 : Blk w g0 t0 c0) (k1 : Blk w g1 t1 c1) (k2 : Blk w g2 t2 c2) (k3 : Blk w g3 t3 c3) (k4 : Blk w g4 t4 c4) (k5 : Blk w g5 t5 c5) (h : ∀ W, Below w0.heap.size w0 W → Blk W g0 t0 c0 → Blk W g1 t1 c1 → Blk W g2 t2 c2 → Blk W g3 t3 c3 → Blk W g4 t4 c4 → Blk W g5 t5 c5 → c.wp P Q a W) : c.wp P Q a w := h w hb k0 k1 k2 k3 k4 k5
theorem absRB6 {c : Code} {Q : Exit → Act → World → Prop} {m : Nat} {g0 g1 g2 g3 g4 g5 : Nat} {t0 t1 t2 t3 t4 t5 : TypeId} {c0 c1 c2 c3 c4 c5 : Array Value} (hb : Below w0.heap.size w0 w) (k0 : Blk w g0 t0 c0) (k1 : Blk w g1 t1 c1) (k2 : Blk w g2 t2 c2) (k3 : Blk w g3 t3 c3) (k4 : Blk w g4 t4 c4) (k5 : Blk w g5 t5 c5) (h : ∀ W, Below w0.heap.size w0 W → Blk W g0 t0 c0 → Blk W g1 t1 c1 → Blk W g2 t2 c2 → Blk W g3 t3 c3 → Blk W g4 t4 c4 → Blk W g5 t5 c5 → c.rounds P Q m a W) : c.rounds P Q m a w := h w hb k0 k1 k2 k3 k4 k5
theorem absIK6 {F : Fence} {n : Nat} {c : Code} {Q : Exit → Act → World → Prop} {X : List Nat} {g0 g1 g2 g3 g4 g5 : Nat} {t0 t1 t2 t3 t4 t5 : TypeId} {c0 c1 c2 c3 c4 c5 : Array Value} (hb : BX X w0 w) (k0 : Blk w g0 t0 c0) (k1 : Blk w g1 t1 c1) (k2 : Blk w g2 t2 c2) (k3 : Blk w g3 t3 c3) (k4 : Blk w g4 t4 c4) (k5 : Blk w g5 t5 c5) (h : ∀ W, BX X w0 W → Blk W g0 t0 c0 → Blk W g1 t1 c1 → Blk W g2 t2 c2 → Blk W g3 t3 c3 → Blk W g4 t4 c4 → Blk W g5 t5 c5 → c.wpIn F n P Q a W) : c.wpIn F n P Q a w := h w hb k0 k1 k2 k3 k4 k5
theorem absIB6 {F : Fence} {n : Nat} {c : Code} {Q : Exit → Act → World → Prop} {g0 g1 g2 g3 g4 g5 : Nat} {t0 t1 t2 t3 t4 t5 : TypeId} {c0 c1 c2 c3 c4 c5 : Array Value} (hb : Below w0.heap.size w0 w) (k0 : Blk w g0 t0 c0) (k1 : Blk w g1 t1 c1) (k2 : Blk w g2 t2 c2) (k3 : Blk w g3 t3 c3) (k4 : Blk w g4 t4 c4) (k5 : Blk w g5 t5 c5) (h : ∀ W, Below w0.heap.size w0 W → Blk W g0 t0 c0 → Blk W g1 t1 c1 → Blk W g2 t2 c2 → Blk W g3 t3 c3 → Blk W g4 t4 c4 → Blk W g5 t5 c5 → c.wpIn F n P Q a W) : c.wpIn F n P Q a w := h w hb k0 k1 k2 k3 k4 k5
theorem absJK6 {F : Fence} {n : Nat} {c : Code} {Q : Exit → Act → World → Prop} {m : Nat} {X : List Nat} {g0 g1 g2 g3 g4 g5 : Nat} {t0 t1 t2 t3 t4 t5 : TypeId} {c0 c1 c2 c3 c4 c5 : Array Value} (hb : BX X w0 w) (k0 : Blk w g0 t0 c0) (k1 : Blk w g1 t1 c1) (k2 : Blk w g2 t2 c2) (k3 : Blk w g3 t3 c3) (k4 : Blk w g4 t4 c4) (k5 : Blk w g5 t5 c5) (h : ∀ W, BX X w0 W → Blk W g0 t0 c0 → Blk W g1 t1 c1 → Blk W g2 t2 c2 → Blk W g3 t3 c3 → Blk W g4 t4 c4 → Blk W g5 t5 c5 → c.roundsIn F n P Q m a W) : c.roundsIn F n P Q m a w := h w hb k0 k1 k2 k3 k4 k5
theorem absTK6 {K : Act → World → Prop} {Q : Exit → Act → World → Prop} {x : Exit} {X : List Nat} {g0 g1 g2 g3 g4 g5 : Nat} {t0 t1 t2 t3 t4 t5 : TypeId} {c0 c1 c2 c3 c4 c5 : Array Value} (hb : BX X w0 w) (k0 : Blk w g0 t0 c0) (k1 : Blk w g1 t1 c1) (k2 : Blk w g2 t2 c2) (k3 : Blk w g3 t3 c3) (k4 : Blk w g4 t4 c4) (k5 : Blk w g5 t5 c5) (h : ∀ W, BX X w0 W → Blk W g0 t0 c0 → Blk W g1 t1 c1 → Blk W g2 t2 c2 → Blk W g3 t3 c3 → Blk W g4 t4 c4 → Blk W g5 t5 c5 → Exit.then K Q x a W) : Exit.then K Q x a w := h w hb k0 k1 k2 k3 k4 k5
theorem absTB6 {K : Act → World → Prop} {Q : Exit → Act → World → Prop} {x : Exit} {g0 g1 g2 g3 g4 g5 : Nat} {t0 t1 t2 t3 t4 t5 : TypeId} {c0 c1 c2 c3 c4 c5 : Array Value} (hb : Below w0.heap.size w0 w) (k0 : Blk w g0 t0 c0) (k1 : Blk w g1 t1 c1) (k2 : Blk w g2 t2 c2) (k3 : Blk w g3 t3 c3) (k4 : Blk w g4 t4 c4) (k5 : Blk w g5 t5 c5) (h : ∀ W, Below w0.heap.size w0 W → Blk W g0 t0 c0 → Blk W g1 t1 c1 → Blk W g2 t2 c2 → Blk W g3 t3 c3 → Blk W g4 t4 c4 → Blk W g5 t5 c5 → Exit.then K Q x a W) : Exit.then K Q x a w := h w hb k0 k1 k2 k3 k4 k5
theorem absPB6 {fn : Func} {R : Ending → World → Prop} {x : Exit} {g0 g1 g2 g3 g4 g5 : Nat} {t0 t1 t2 t3 t4 t5 : TypeId} {c0 c1 c2 c3 c4 c5 : Array Value} (hb : Below w0.heap.size w0 w) (k0 : Blk w g0 t0 c0) (k1 : Blk w g1 t1 c1) (k2 : Blk w g2 t2 c2) (k3 : Blk w g3 t3 c3) (k4 : Blk w g4 t4 c4) (k5 : Blk w g5 t5 c5) (h : ∀ W, Below w0.heap.size w0 W → Blk W g0 t0 c0 → Blk W g1 t1 c1 → Blk W g2 t2 c2 → Blk W g3 t3 c3 → Blk W g4 t4 c4 → Blk W g5 t5 c5 → bodyPost P fn R x a W) : bodyPost P fn R x a w := h w hb k0 k1 k2 k3 k4 k5
theorem absIK7 {F : Fence} {n : Nat} {c : Code} {Q : Exit → Act → World → Prop} {X : List Nat} {g0 g1 g2 g3 g4 g5 g6 : Nat} {t0 t1 t2 t3 t4 t5 t6 : TypeId} {c0 c1 c2 c3 c4 c5 c6 : Array Value} (hb : BX X w0 w) (k0 : Blk w g0 t0 c0) (k1 : Blk w g1 t1 c1) (k2 : Blk w g2 t2 c2) (k3 : Blk w g3 t3 c3) (k4 : Blk w g4 t4 c4) (k5 : Blk w g5 t5 c5) (k6 : Blk w g6 t6 c6) (h : ∀ W, BX X w0 W → Blk W g0 t0 c0 → Blk W g1 t1 c1 → Blk W g2 t2 c2 → Blk W g3 t3 c3 → Blk W g4 t4 c4 → Blk W g5 t5 c5 → Blk W g6 t6 c6 → c.wpIn F n P Q a W) : c.wpIn F n P Q a w := h w hb k0 k1 k2 k3 k4 k5 k6
theorem absB8 {c : Code} {Q : Exit → Act → World → Prop} {g0 g1 g2 g3 g4 g5 g6 g7 : Nat} {t0 t1 t2 t3 t4 t5 t6 t7 : TypeId} {c0 c1 c2 c3 c4 c5 c6 c7 : Array Value} (hb : Below w0.heap.size w0 w) (k0 : Blk w g0 t0 c0) (k1 : Blk w g1 t1 c1) (k2 : Blk w g2 t2 c2) (k3 : Blk w g3 t3 c3) (k4 : Blk w g4 t4 c4) (k5 : Blk w g5 t5 c5) (k6 : Blk w g6 t6 c6) (k7 : Blk w g7 t7 c7) (h : ∀ W, Below w0.heap.size w0 W → Blk W g0 t0 c0 → Blk W g1 t1 c1 → Blk W g2 t2 c2 → Blk W g3 t3 c3 → Blk W g4 t4 c4 → Blk W g5 t5 c5 → Blk W g6 t6 c6 → Blk W g7 t7 c7 → c.wp P Q a W) : c.wp P Q a w := h w hb k0 k1 k2 k3 k4 k5 k6 k7
end
end Go.Proofs.YtephimmamkafoaaGreat
namespace Go.Proofs.YtephimmamkafoaaGreat
open Go.RowKit
/-- The region's only way out is its end. -/
def Only (Q : Exit → Act → World → Prop) : Exit → Act → World → Prop
  | .normal, a, w => Q .normal a w
  | _, _, _ => False
theorem Only.imp {Q : Exit → Act → World → Prop} : ∀ (e : Exit) (a : Act) (w : World), NoPanic (Only Q) e a w → Q e a w := fun e a w h => by
  cases e <;> first | exact h | exact (h : False).elim
theorem only_done {Q : Exit → Act → World → Prop} {a : Act} {w : World} (h : Q .normal a w) : Only Q .normal a w := h
theorem only_shut {Q : Exit → Act → World → Prop} : ¬ LetsOut (NoPanic (Only Q)) := fun ⟨_, _, h⟩ => h
def noDefer (ops : Array Oper) : Bool := ops.all fun o => match o.op with | .defer _ => false | _ => true
theorem noDefer_at {ops : Array Oper} (h : noDefer ops = true) {i : Nat} {o : Oper} (ho : ops[i]? = some o) : ∀ c, o.op ≠ .defer c := fun c hc => by
  have hm := Array.mem_of_getElem? ho
  have := Array.all_eq_true'.1 h o hm
  rw [hc] at this
  cases this
theorem bx_cell0 {X : List Nat} {w0 w : World} {g : Nat} {t : TypeId} {old : Value} (hb : BX X w0 w) (hk : Blk w0 g t #[old]) (hg : g ∈ X) : ∃ c, w.cell? ⟨g, 0, none⟩ = some c ∧ w.frozen? ⟨g, 0, none⟩ = false := by
  obtain ⟨cs, h1, h2⟩ := hb.shape g hg t _ hk
  refine ⟨cs.getD 0 undef, ?_, h1.frozen 0⟩
  rw [h1.cell 0]
  have : 0 < cs.size := by rw [h2]; simp
  simp [this]
section
variable {P : Program} {ops : Array Oper} {Q : Exit → Act → World → Prop} {n l : Nat}
theorem opIn_of_wp {o : Oper} {a : Act} {w : World} {K : Act → World → Prop} (hd : ∀ c, o.op ≠ .defer c) (h : o.wp P a w K Q) : o.wpIn (Fence.wide.inRound l) n P a w K Q := by
  unfold Oper.wpIn
  refine ⟨fun _ _ => trivial, ?_⟩
  rw [Fence.inRound_round, Oper.semAt_some l _ _ hd]
  unfold Oper.wp at h
  generalize (execOp a.eval o).run P w = r at *
  cases r with
  | ok x w' =>
    cases x <;> simp only [Oper.upon, Oper.uponIn] at h ⊢
    case value => exact h
    case skip => exact h
    case defer => exact h
    case enter => exact ⟨fun hd => (by simp [Fence.wide] at hd), CallsIn.inRound l (callsIn_wide.2 h)⟩
    case row => exact ⟨fun hd => (by simp [Fence.wide] at hd), fun c cs _ => let ⟨v, w', r, s⟩ := h c cs; ⟨v, w', r, stepsIn_wide.2 s⟩⟩
  | halt x w' => cases x <;> simp only [Oper.upon, Oper.uponIn] at h ⊢ <;> exact h
theorem wpOpIn_of {i : Nat} {a : Act} {w : World} {K : Act → World → Prop} (hd : noDefer ops = true) (hQ : ¬ LetsOut Q) (h : wpOp P ops Q i K a w) : wpOpIn (Fence.wide.inRound l) n P ops Q i K a w := by
  unfold wpOp at h
  unfold wpOpIn
  cases ho : ops[i]? with
  | none => simpa [ho] using h
  | some o =>
    simp only [ho] at h ⊢
    split
    · rename_i hw
      rw [if_pos hw] at h
      rcases h with h | ⟨_, h⟩
      · exact opIn_of_wp (noDefer_at hd ho) h
      · exact (hQ h).elim
    · rename_i hw
      rw [if_neg hw] at h
      exact ⟨fun _ _ => trivial, h⟩
theorem wpAnyIn_of {md : Region.Mode} (hd : noDefer ops = true) (hQ : ¬ LetsOut Q) : ∀ (fuel : Nat) (listed : Array Bool) (a : Act) (w : World),
    wpAny P md ops Q fuel listed a w → wpAnyIn (Fence.wide.inRound l) n P md ops Q fuel listed a w
  | 0, _, _, _, h => h
  | fuel + 1, listed, a, w, h => ⟨h.1, fun i hi => wpOpIn_of hd hQ (wpOp_mono (fun a' w' h' => wpAnyIn_of hd hQ fuel _ a' w' h') (h.2 i hi))⟩
end
/-- The walk of a region in whatever order, in a round. -/
theorem wpIn_any {P : Program} {Q : Exit → Act → World → Prop} {n ln id : Nat} {a0 : Act} {w w0 : World} {l : List Oper} {A : (Nat → Value) → Act} (p : Parts) (X : (Nat → Gh) → List Nat) (hm : P.follows .mixedOrders = true)
    (hd : noDefer l.toArray = true) (hB : anyOk l.toArray p = true) (hb : Below w0.heap.size w0 w.drew) (hA : ∀ u, putD a0 p.ds 0 u = A u) (h : RGW P l.toArray (NoPanic (Only Q)) w0 A X p l.toArray.size []) :
    (Code.region id l.toArray true).wpIn (Fence.wide.inRound ln) n P Q a0 w :=
  Code.wpIn_mono Only.imp (wpIn_region_any hm (wpAnyIn_of hd only_shut _ _ _ _ (wpAny_rg p X hB hb hA h)))
end Go.Proofs.YtephimmamkafoaaGreat
namespace Go.Proofs.YtephimmamkafoaaGreat
open Go.RowKit
/-- Since A all cells lie as they lay, and whatever lay below D. -/
structure CK (D : Nat) (A B : World) : Prop where
  os : B.os = A.os
  tape : B.tape = A.tape
  output : B.output = A.output
  size : A.heap.size ≤ B.heap.size
  keep : ∀ k o, A.heap[k]? = some o → (k < D ∨ o.isCells = true) → B.heap[k]? = some o
theorem CK.of_below {D : Nat} {A B : World} (h : Below A.heap.size A B) : CK D A B :=
  ⟨h.os, h.tape, h.output, h.size, fun k _ hk _ => (h.block k (Array.getElem?_eq_some_iff.1 hk).1).trans hk⟩
theorem CK.put {D r : Nat} {A : World} {o : Obj} (o' : Obj) (h : A.heap[r]? = some o) (hc : o.isCells = false) (hr : D ≤ r) : CK D A (A.putObj r o') :=
  ⟨rfl, rfl, rfl, by simp, fun k u hk hu => by
    by_cases e : k = r
    · subst e
      rw [h] at hk; cases hk
      rcases hu with hu | hu
      · omega
      · rw [hc] at hu; cases hu
    · exact (World.putObj_heap_other e).trans hk⟩
theorem CK.blk {D g : Nat} {A B : World} {t : TypeId} {cs : Array Value} (h : CK D A B) (hk : Blk A g t cs) : Blk B g t cs := h.keep g _ hk (.inr rfl)
theorem CK.belowOf {D : Nat} {w A B : World} (hD : w.heap.size ≤ D) (h : CK D A B) (hb : Below w.heap.size w A) : Below w.heap.size w B :=
  ⟨h.os.trans hb.os, h.tape.trans hb.tape, h.output.trans hb.output, Nat.le_trans hb.size h.size, fun k hk => by
    have hk' : k < A.heap.size := Nat.lt_of_lt_of_le hk hb.size
    have := h.keep k A.heap[k] (Array.getElem?_eq_getElem hk') (.inl (by omega))
    rw [this, ← Array.getElem?_eq_getElem hk', hb.block k hk]⟩
theorem BX.trans {X : List Nat} {a b c : World} (h : BX X a b) (k : BX X b c) : BX X a c :=
  ⟨k.os.trans h.os, k.tape.trans h.tape, k.output.trans h.output, Nat.le_trans h.size k.size, fun i hi hX => (k.block i (Nat.lt_of_lt_of_le hi h.size) hX).trans (h.block i hi hX),
   fun g hg t cs hk => by obtain ⟨c1, h1, h2⟩ := h.shape g hg t cs hk; obtain ⟨c2, h3, h4⟩ := k.shape g hg t c1 h1; exact ⟨c2, h3, h4.trans h2⟩⟩
theorem BX.wider {X : List Nat} {a b : World} (r : Nat) (h : BX X a b) : BX (r :: X) a b :=
  ⟨h.os, h.tape, h.output, h.size, fun i hi hX => h.block i hi (fun e => hX (List.mem_cons_of_mem _ e)), fun g hg t cs hk => by
    by_cases e : g ∈ X
    · exact h.shape g e t cs hk
    · exact ⟨cs, (h.block g (Array.getElem?_eq_some_iff.1 hk).1 e).trans hk, rfl⟩⟩
theorem BX.drop {X : List Nat} {a b : World} {r : Nat} (h : BX (r :: X) a b) (e : b.heap[r]? = a.heap[r]?) : BX X a b :=
  ⟨h.os, h.tape, h.output, h.size, fun i hi hX => by
    by_cases e' : i = r
    · rw [e', e]
    · exact h.block i hi (by simp [e', hX]), fun g hg => h.shape g (List.mem_cons_of_mem _ hg)⟩
theorem bx_loop {X : List Nat} {A : World} {r : Nat} {q : Loop} (q' : Loop) (h : A.heap[r]? = some (.loop q)) : BX (r :: X) A (A.putObj r (.loop q')) :=
  ⟨rfl, rfl, rfl, by simp, fun i _ hX => World.putObj_heap_other (fun e => hX (by simp [e])), fun g _ t cs hk => by
    refine ⟨cs, ?_, rfl⟩
    have : g ≠ r := fun e => by subst e; unfold Blk at hk; rw [h] at hk; cases hk
    exact (World.putObj_heap_other this).trans hk⟩
def Goes {α : Type} (X : List Nat) (I : List α → World → Prop) (xs : List α) (W : World) : Exit → Act → World → Prop
  | .normal, _, W' => BX X W W' ∧ I xs W'
  | _, _, _ => False
/-- What an iterator promises: it yields the members of xs, in their order. -/
def Iter (P : Program) {α : Type} (m : Nat) (gf : Nat) (rb : Array Value) (encs : α → Array Value) (xs : List α) : Prop :=
  ∀ (l : Nat) (X : List Nat) (J : List α → World → Prop) (W : World), (∀ x ∈ X, x < W.heap.size) → (∀ s A B, J s A → Below A.heap.size A B → J s B) →
    (∀ pre x W1, J pre W1 → pre ++ [x] <+: xs → YieldAt Fence.wide (m - 1) P l (encs x) W1 fun e W' => e = .returned (.bool true) ∧ J (pre ++ [x]) W' ∧ BX X W1 W') →
    J [] W → CallsIn Fence.wide m P gf (rb ++ #[.func (.yield l) #[] #[]]) W fun e W' => (∃ v, e = .returned v) ∧ J xs W'
theorem wp_range {P : Program} {α : Type} {g : Operand} {ps : Array Tmp} {assign body : Code} {Q : Exit → Act → World → Prop} {a : Act} {w : World} {gf : Nat} {rb : Array Value}
    (hg : a.eval g = .func (.func gf) rb #[]) (eg : ∀ args w, (callFunc gf args).run P w = .ok (.enter gf args) w) {encs : α → Array Value} {xs : List α}
    (hseq : Iter P 5 gf rb encs xs) (hps : ∀ x, (encs x).size = ps.size) (X : List Nat) (hX : ∀ x ∈ X, x < w.heap.size)
    (I : List α → World → Prop) (hI : ∀ s A B, I s A → CK w.heap.size A B → I s B)
    (h0 : I [] w)
    (hround : ∀ l pre x W, I pre W → pre ++ [x] <+: xs → assign.wpIn (Fence.wide.inRound l) 4 P
      (Exit.then (fun a1 W1 => BX X W W1 ∧ ∀ W2, CK w.heap.size W1 W2 → body.wpIn (Fence.wide.inRound l) 4 P (Goes X I (pre ++ [x]) W2) a1 W2) (fun _ _ _ => False))
      { tmps := (ps.zip (encs x)).foldl (fun t (p, v) => t.setIfInBounds p v) a.tmps, defers := [] } W)
    (hdone : ∀ W, I xs W → W.heap[w.heap.size]? = some (.deferred (some [])) → Q .normal { a with defers := { target := .collected w.heap.size, args := #[] } :: a.defers } W) :
    (Code.rangeFunc g ps assign body).wp P Q a w := by
  refine (wpIn_wide (n := 6)).1 (wpIn_rangeFunc ?_)
  intro fn _
  rw [Fence.wide_round]
  obtain ⟨rec, hrec⟩ : ∃ rec : LoopState → Loop, rec = fun st => { state := st, pending := none, fn, tmps := a.tmps, params := ps, assign, body, defers := w.heap.size } := ⟨_, rfl⟩
  have hst : ∀ s, (rec s).state = s := fun s => by rw [hrec]
  have hpd : ∀ s, (rec s).pending = none := fun s => by rw [hrec]
  have hsp : ∀ s, (rec s).params = ps := fun s => by rw [hrec]
  have hup : ∀ s s' , { rec s with state := s' } = rec s' := fun s s' => by rw [hrec]
  have hen : ∀ s s', ({ rec s with state := s', pending := none } : Loop) = rec s' := fun s s' => by rw [hrec]
  have hrun := run_enterLoop_outer (P := P) (w := w) fn a.tmps ps assign body
  obtain ⟨W1, hW1⟩ : ∃ W1, (w.alloc (.deferred (some []))).alloc (.loop (rec .ready)) = W1 := ⟨_, rfl⟩
  have hb1 : Below w.heap.size w W1 := by
    rw [← hW1]; exact ((Below.refl _ w).alloc (Nat.le_refl _) _).alloc (by simp) _
  have hs1 : W1.heap.size = w.heap.size + 2 := by rw [← hW1]; simp
  have hL1 : W1.heap[w.heap.size + 1]? = some (.loop (rec .ready)) := by
    rw [← hW1]; have := World.alloc_heap_new (w.alloc (.deferred (some []))) (.loop (rec .ready)); rwa [World.size_alloc] at this
  have hK1 : W1.heap[w.heap.size]? = some (.deferred (some [])) := by
    rw [← hW1]; exact (Below.heap_alloc _ _ _ (by simp)).trans (World.alloc_heap_new w _)
  have hI1 : I [] W1 := hI _ _ _ h0 ⟨hb1.os, hb1.tape, hb1.output, hb1.size, fun k o hk _ => (hb1.block k (Array.getElem?_eq_some_iff.1 hk).1).trans hk⟩
  have hDX : ∀ i, w.heap.size ≤ i → i ∉ X := fun i hi hx => by have := hX i hx; omega
  refine ⟨w.heap.size + 1, [{ target := .collected w.heap.size, args := #[] }], W1, { target := .fn (.func gf) #[], args := rb ++ #[.func (.yield (w.heap.size + 1)) #[] #[]] }, W1, gf,
    rb ++ #[.func (.yield (w.heap.size + 1)) #[] #[]], W1, ?_, ?_, fun _ _ => trivial, ?_, fun h => (by simp [Fence.wide] at h), ?_⟩
  · rw [hrun, ← hW1, hrec]
  · simp only [resolve, hg]
    simp [go_sem]
  · simp [invoke, go_sem, eg]
  refine (hseq (w.heap.size + 1) X (fun pre W => I pre W ∧ W.heap[w.heap.size + 1]? = some (.loop (rec .ready)) ∧ W.heap[w.heap.size]? = some (.deferred (some [])))
    W1 (fun x hx => by have := hX x hx; omega) (fun s A B hs hb => ⟨hI s A B hs.1 (.of_below hb), (hb.block _ (Array.getElem?_eq_some_iff.1 hs.2.1).1).trans hs.2.1, (hb.block _ (Array.getElem?_eq_some_iff.1 hs.2.2).1).trans hs.2.2⟩) ?_ ⟨hI1, hL1, hK1⟩).mono ?_
  · rintro pre x W ⟨hi, hl, hk⟩ hpre
    have hy := run_yield (P := P) (args := encs x) hl (by rw [hsp]; exact hps x)
    rw [hrec] at hy
    refine ⟨fn, _, assign, body, hy, roundIn_of_wpIn trivial (wpIn_mono (hround _ pre x W hi hpre) ?_)⟩
    intro e a1 W2 hp
    cases e with
    | normal =>
      obtain ⟨hbx, hbody⟩ := hp
      have hl2 := (hbx.block (w.heap.size + 1) (Array.getElem?_eq_some_iff.1 hl).1 (hDX _ (by omega))).trans hl
      have hk2 := (hbx.block w.heap.size (Array.getElem?_eq_some_iff.1 hk).1 (hDX _ (by omega))).trans hk
      have hr := run_beginRound (P := P) hl2 (hst _)
      rw [hup] at hr
      have hlt2 := (Array.getElem?_eq_some_iff.1 hl2).1
      have hl3 := World.putObj_heap_same (w := W2) (o := .loop (rec .busy)) hlt2
      have hk3 := (World.putObj_heap_other (w := W2) (o := .loop (rec .busy)) (show w.heap.size ≠ w.heap.size + 1 by omega)).trans hk2
      refine ⟨_, hr, wpIn_mono (hbody _ (.put _ hl2 rfl (by omega))) ?_⟩
      intro e a3 W3 hp
      cases e with
      | normal =>
        obtain ⟨hb3, hi3⟩ := hp
        have hl4 := (hb3.block _ (Array.getElem?_eq_some_iff.1 hl3).1 (hDX _ (by omega))).trans hl3
        have hk4 := (hb3.block _ (Array.getElem?_eq_some_iff.1 hk3).1 (hDX _ (by omega))).trans hk3
        have he := run_endRound (P := P) none hl4
        simp only [Option.isNone_none, if_true] at he
        rw [hen] at he
        have hl5 := World.putObj_heap_same (w := W3) (o := .loop (rec .ready)) (Array.getElem?_eq_some_iff.1 hl4).1
        refine ⟨_, _, he, rfl, ⟨hI _ _ _ hi3 (.put _ hl4 rfl (by omega)), hl5, (World.putObj_heap_other (by omega)).trans hk4⟩, ?_⟩
        refine BX.drop (r := w.heap.size + 1) ?_ (hl5.trans hl.symm)
        exact (((hbx.wider _).trans (bx_loop _ hl2)).trans (hb3.wider _)).trans (bx_loop _ hl4)
      | _ => exact (hp : False).elim
    | _ => exact (hp : False).elim
  · rintro e W2 ⟨⟨v, rfl⟩, hi, hl, hk⟩
    have he := run_endLoop (P := P) hl (by rw [hst]; simp)
    rw [hpd] at he
    exact ⟨none, _, he, hdone _ (hI _ _ _ hi (.put _ hl rfl (by omega))) ((World.putObj_heap_other (by omega)).trans hk)⟩
/-- A function whose body holds a range over a function. -/
theorem calls_marks {P : Program} {f : FuncId} {fn : Func} {c : Code} {args : Array Value} {w : World} {R : Ending → World → Prop} (hf : P.funcs[f]? = some fn) (hb : fn.body = some c)
    (h : c.wp P (bodyPostM Fence.wide 6 P fn R) { tmps := args ++ Array.replicate (fn.ntmps - args.size) undef, defers := [] } w) : Calls P f args w R :=
  callsIn_wide.1 (callsIn_of_wp_marks (n := 6) hf hb trivial (wpIn_wide.2 h))
end Go.Proofs.YtephimmamkafoaaGreat
namespace Go.Proofs.YtephimmamkafoaaGreat

structure Rg where
  lo : Int
  hi : Int
  deriving DecidableEq
structure Bx where
  x : Rg
  y : Rg
  z : Rg
  deriving DecidableEq
structure Pl where
  x : Int
  y : Int
  z : Int
  deriving DecidableEq
structure Bc where
  name : ByteArray
  pl : Pl
structure Nt where
  world : Bx
  bs : List Bc
structure Rd where
  kind : Int
  idx : Int
  v : Rg
structure Mv where
  ticks : Int
  speed : Bx
structure Vt where
  rs : List Rd
  wrong : Int
structure St where
  mv : Mv
  vt : Vt

def cI (x : Int) : List Value := [.int .i64 x]
def cRg (x : Rg) : List Value := [.int .i64 x.lo, .int .i64 x.hi]
def cBc (x : Bc) : List Value := [.string x.name, .int .i64 x.pl.x, .int .i64 x.pl.y, .int .i64 x.pl.z]
def cRd (x : Rd) : List Value := [.int .i64 x.kind, .int .i64 x.idx, .int .i64 x.v.lo, .int .i64 x.v.hi]

abbrev vRg (r : Rg) : Value := .agg #[.int .i64 r.lo, .int .i64 r.hi]
abbrev vBx (b : Bx) : Value := .agg #[.int .i64 b.x.lo, .int .i64 b.x.hi, .int .i64 b.y.lo, .int .i64 b.y.hi, .int .i64 b.z.lo, .int .i64 b.z.hi]
abbrev vPl (p : Pl) : Value := .agg #[.int .i64 p.x, .int .i64 p.y, .int .i64 p.z]

/-- The first error, and its place. -/
def eachS {α : Type} (err : Nat → α → Int) : List α → Nat → Int × Int
  | [], _ => (0, 0)
  | x :: l, k => if err k x = 0 then eachS err l (k + 1) else ((k : Int), err k x)
theorem eachS_drop {α : Type} (err : Nat → α → Int) (l : List α) (k : Nat) (x : α) (hx : l[k]? = some x) :
    eachS err (l.drop k) k = if err k x = 0 then eachS err (l.drop (k + 1)) (k + 1) else ((k : Int), err k x) := by
  have hk : k < l.length := (List.getElem?_eq_some_iff.1 hx).1
  have e : l[k] = x := (List.getElem?_eq_some_iff.1 hx).2
  rw [List.drop_eq_getElem_cons hk, e]
  rfl

def inR (n lo hi : Int) : Bool := decide (lo ≤ n) && decide (n ≤ hi)
theorem inR_iff {n lo hi : Int} : inR n lo hi = true ↔ lo ≤ n ∧ n ≤ hi := by simp [inR]
/-- Letters, and what else may stand in a name behind its first letter. -/
def letter (c : UInt8) : Bool := (decide (97 ≤ c.toNat) && decide (c.toNat ≤ 122)) || (decide (65 ≤ c.toNat) && decide (c.toNat ≤ 90))
def other (c : UInt8) : Bool := (decide (48 ≤ c.toNat) && decide (c.toNat ≤ 57)) || decide (c.toNat = 45)
def nameFrom : Nat → List UInt8 → Bool
  | _, [] => true
  | i, c :: l => (letter c || (decide (i ≠ 0) && other c)) && nameFrom (i + 1) l
def nameB (s : ByteArray) : Bool := nameFrom 0 s.data.toList && inR s.size 1 12
theorem nameFrom_drop (l : List UInt8) (k : Nat) (c : UInt8) (hx : l[k]? = some c) : nameFrom k (l.drop k) = ((letter c || (decide (k ≠ 0) && other c)) && nameFrom (k + 1) (l.drop (k + 1))) := by
  have hk : k < l.length := (List.getElem?_eq_some_iff.1 hx).1
  have e : l[k] = c := (List.getElem?_eq_some_iff.1 hx).2
  rw [List.drop_eq_getElem_cons hk, e]
  rfl
theorem letter_iff (c : UInt8) : letter c = true ↔ (97 ≤ c.toNat ∧ c.toNat ≤ 122 ∨ 65 ≤ c.toNat ∧ c.toNat ≤ 90) := by unfold letter; simp
theorem other_iff (c : UInt8) : other c = true ↔ (48 ≤ c.toNat ∧ c.toNat ≤ 57 ∨ c.toNat = 45) := by unfold other; simp
/-- An error unless a condition holds; the first error of some. -/
def unl (b : Bool) (e : Int) : Int := if b then 0 else e
def fstE : List Int → Int
  | [] => 0
  | e :: l => if e = 0 then fstE l else e
def szd (n l : Int) : Bool := inR n (-l) l
def Bx.sides (b : Bx) : List Rg := [b.x, b.y, b.z]
def Pl.co (p : Pl) : List Int := [p.x, p.y, p.z]
def Bx.sized (b : Bx) (l : Int) : Bool := !(b.sides.any fun r => !szd r.lo l || !szd r.hi l)
def Bx.ordered (b : Bx) : Bool := !(b.sides.any fun r => decide (r.hi < r.lo))

end Go.Proofs.YtephimmamkafoaaGreat
namespace Go.Proofs.YtephimmamkafoaaGreat
open Go.RowKit Go.Shelf

set_option maxHeartbeats 400000 in
set_option maxRecDepth 20000 in
theorem c_IndexFuncR (f : FuncId) (lb : Array Value) (p : Rg → Bool) (A : Option Addr) (l : List Rg) (c : Nat) (w : World) (hl : l.length ≤ 1000000)
    (he : Enters Tryz.prog f) (hp : Preds Tryz.prog f lb w (fun x : Rg => .agg #[.int .i64 x.lo, .int .i64 x.hi]) l p) (hr : Sl cRg 2 w A l) :
    Calls Tryz.prog 129 #[.slice A l.length c, .func (.func f) #[] lb] w (Ret (.int .i64 (idxF p l 0)) w) := by
  have he' : ∀ args w, (callFunc f args).run Tryz.prog w = .ok (.enter f args) w := he
  clear he
  have Hp := Lib.hid hp
  have Hr := Lib.hid hr
  clear hp hr
  obtain ⟨n, Hn⟩ : ∃ n, Hid (l.length = n) := ⟨_, rfl⟩
  rw [Hn.out] at hl ⊢
  go_enter Tryz.func129, Tryz.ntmps129
  go_wp2
  go_loopw [8] (fun i wr => ∃ k : Nat, k ≤ n ∧ i = .int .i64 k ∧ Below w.heap.size w wr ∧ idxF p l 0 = idxF p (l.drop k) k) (fun i _ => n - (intOf i).toNat)
  case atStart => exact ⟨0, Nat.zero_le _, rfl, Below.refl _ _, rfl⟩
  case round =>
    obtain ⟨k, hk, rfl, hb, hi⟩ := hrel
    replace hi := Lib.hid hi
    by_cases hlt : k < n
    · have hx : l[k]? = some (l[k]'(by rw [Hn.out]; exact hlt)) := List.getElem?_eq_getElem _
      generalize l[k]'(by rw [Hn.out]; exact hlt) = x at hx
      replace hx := Lib.hid hx
      obtain ⟨b, off, rfl, hc⟩ := Hr.out k x hx.out
      have c0 : wr.cell? ⟨b, off + k * 2, none⟩ = some (.int .i64 x.lo) := kcell hb (hc 0 _ rfl)
      have c1 : wr.cell? ⟨b, off + k * 2 + 1, none⟩ = some (.int .i64 x.hi) := kcell hb (hc 1 _ rfl)
      have hm : x ∈ l := List.mem_of_getElem? hx.out
      have hd := Lib.hid (idxF_drop p l k x hx.out)
      clear hc hx
      cases hpx : p x
      all_goals
        have hcall := Hp.out x hm wr hb
        rw [hpx] at hcall
        replace hcall := Lib.hid hcall
        replace hpx := Lib.hid hpx
        clear hm
        go_wp2_with fail
        refine hcall.out.mono ?_
        rintro e w3 ⟨rfl, hb3⟩
        go_wp2
      · go_roundw
        case rel => exact ⟨k + 1, by omega, by go_num, bl_tr hb hb3, by rw [hi.out, hd.out, hpx.out]; simp⟩
        case measure => simp [intOf]; omega
      · go_ret
        exact ⟨by rw [hi.out, hd.out, hpx.out] <;> rfl, bl_tr hb hb3⟩
    · go_wp2
      go_ret
      have : k = l.length := by have := Hn.out; omega
      exact ⟨by rw [hi.out, this]; simp [idxF], hb⟩
set_option maxRecDepth 20000 in
theorem c_ContainsFuncR (f : FuncId) (lb : Array Value) (p : Rg → Bool) (A : Option Addr) (l : List Rg) (c : Nat) (w : World) (hl : l.length ≤ 1000000)
    (he : Enters Tryz.prog f) (hp : Preds Tryz.prog f lb w (fun x : Rg => .agg #[.int .i64 x.lo, .int .i64 x.hi]) l p) (hr : Sl cRg 2 w A l) :
    Calls Tryz.prog 116 #[.slice A l.length c, .func (.func f) #[] lb] w (Ret (.bool (l.any p)) w) := by
  have hcall := Lib.hid (c_IndexFuncR f lb p A l c w hl he hp hr)
  have hge := Lib.hid (idxF_ge p l 0 (Int.le_refl 0))
  clear he hp hr
  generalize l.length = n at *
  go_enter Tryz.func116, Tryz.ntmps116
  go_wp2_with fail
  refine hcall.out.mono ?_
  rintro e w3 ⟨rfl, hb3⟩
  go_wp2
  go_ret
  exact ⟨by rw [hge.out]; rfl, hb3⟩

set_option maxHeartbeats 400000 in
set_option maxRecDepth 20000 in
theorem c_IndexFuncB (f : FuncId) (lb : Array Value) (p : Bc → Bool) (A : Option Addr) (l : List Bc) (c : Nat) (w : World) (hl : l.length ≤ 1000000)
    (he : Enters Tryz.prog f) (hp : Preds Tryz.prog f lb w (fun x : Bc => .agg #[.string x.name, .int .i64 x.pl.x, .int .i64 x.pl.y, .int .i64 x.pl.z]) l p) (hr : Sl cBc 4 w A l) :
    Calls Tryz.prog 127 #[.slice A l.length c, .func (.func f) #[] lb] w (Ret (.int .i64 (idxF p l 0)) w) := by
  have he' : ∀ args w, (callFunc f args).run Tryz.prog w = .ok (.enter f args) w := he
  clear he
  have Hp := Lib.hid hp
  have Hr := Lib.hid hr
  clear hp hr
  obtain ⟨n, Hn⟩ : ∃ n, Hid (l.length = n) := ⟨_, rfl⟩
  rw [Hn.out] at hl ⊢
  go_enter Tryz.func127, Tryz.ntmps127
  go_wp2
  go_loopw [8] (fun i wr => ∃ k : Nat, k ≤ n ∧ i = .int .i64 k ∧ Below w.heap.size w wr ∧ idxF p l 0 = idxF p (l.drop k) k) (fun i _ => n - (intOf i).toNat)
  case atStart => exact ⟨0, Nat.zero_le _, rfl, Below.refl _ _, rfl⟩
  case round =>
    obtain ⟨k, hk, rfl, hb, hi⟩ := hrel
    replace hi := Lib.hid hi
    by_cases hlt : k < n
    · have hx : l[k]? = some (l[k]'(by rw [Hn.out]; exact hlt)) := List.getElem?_eq_getElem _
      generalize l[k]'(by rw [Hn.out]; exact hlt) = x at hx
      replace hx := Lib.hid hx
      obtain ⟨b, off, rfl, hc⟩ := Hr.out k x hx.out
      have c0 : wr.cell? ⟨b, off + k * 4, none⟩ = some (.string x.name) := kcell hb (hc 0 _ rfl)
      have c1 : wr.cell? ⟨b, off + k * 4 + 1, none⟩ = some (.int .i64 x.pl.x) := kcell hb (hc 1 _ rfl)
      have c2 : wr.cell? ⟨b, off + k * 4 + 2, none⟩ = some (.int .i64 x.pl.y) := kcell hb (hc 2 _ rfl)
      have c3 : wr.cell? ⟨b, off + k * 4 + 3, none⟩ = some (.int .i64 x.pl.z) := kcell hb (hc 3 _ rfl)
      have hm : x ∈ l := List.mem_of_getElem? hx.out
      have hd := Lib.hid (idxF_drop p l k x hx.out)
      clear hc hx
      cases hpx : p x
      all_goals
        have hcall := Hp.out x hm wr hb
        rw [hpx] at hcall
        replace hcall := Lib.hid hcall
        replace hpx := Lib.hid hpx
        clear hm
        go_wp2_with fail
        refine hcall.out.mono ?_
        rintro e w3 ⟨rfl, hb3⟩
        go_wp2
      · go_roundw
        case rel => exact ⟨k + 1, by omega, by go_num, bl_tr hb hb3, by rw [hi.out, hd.out, hpx.out]; simp⟩
        case measure => simp [intOf]; omega
      · go_ret
        exact ⟨by rw [hi.out, hd.out, hpx.out] <;> rfl, bl_tr hb hb3⟩
    · go_wp2
      go_ret
      have : k = l.length := by have := Hn.out; omega
      exact ⟨by rw [hi.out, this]; simp [idxF], hb⟩
set_option maxRecDepth 20000 in
theorem c_ContainsFuncB (f : FuncId) (lb : Array Value) (p : Bc → Bool) (A : Option Addr) (l : List Bc) (c : Nat) (w : World) (hl : l.length ≤ 1000000)
    (he : Enters Tryz.prog f) (hp : Preds Tryz.prog f lb w (fun x : Bc => .agg #[.string x.name, .int .i64 x.pl.x, .int .i64 x.pl.y, .int .i64 x.pl.z]) l p) (hr : Sl cBc 4 w A l) :
    Calls Tryz.prog 110 #[.slice A l.length c, .func (.func f) #[] lb] w (Ret (.bool (l.any p)) w) := by
  have hcall := Lib.hid (c_IndexFuncB f lb p A l c w hl he hp hr)
  have hge := Lib.hid (idxF_ge p l 0 (Int.le_refl 0))
  clear he hp hr
  generalize l.length = n at *
  go_enter Tryz.func110, Tryz.ntmps110
  go_wp2_with fail
  refine hcall.out.mono ?_
  rintro e w3 ⟨rfl, hb3⟩
  go_wp2
  go_ret
  exact ⟨by rw [hge.out]; rfl, hb3⟩

set_option maxHeartbeats 400000 in
set_option maxRecDepth 20000 in
theorem c_IndexFuncI (f : FuncId) (lb : Array Value) (p : Int → Bool) (A : Option Addr) (l : List Int) (c : Nat) (w : World) (hl : l.length ≤ 1000000)
    (he : Enters Tryz.prog f) (hp : Preds Tryz.prog f lb w (fun x : Int => .int .i64 x) l p) (hr : Sl cI 1 w A l) :
    Calls Tryz.prog 128 #[.slice A l.length c, .func (.func f) #[] lb] w (Ret (.int .i64 (idxF p l 0)) w) := by
  have he' : ∀ args w, (callFunc f args).run Tryz.prog w = .ok (.enter f args) w := he
  clear he
  have Hp := Lib.hid hp
  have Hr := Lib.hid hr
  clear hp hr
  obtain ⟨n, Hn⟩ : ∃ n, Hid (l.length = n) := ⟨_, rfl⟩
  rw [Hn.out] at hl ⊢
  go_enter Tryz.func128, Tryz.ntmps128
  go_wp2
  go_loopw [8] (fun i wr => ∃ k : Nat, k ≤ n ∧ i = .int .i64 k ∧ Below w.heap.size w wr ∧ idxF p l 0 = idxF p (l.drop k) k) (fun i _ => n - (intOf i).toNat)
  case atStart => exact ⟨0, Nat.zero_le _, rfl, Below.refl _ _, rfl⟩
  case round =>
    obtain ⟨k, hk, rfl, hb, hi⟩ := hrel
    replace hi := Lib.hid hi
    by_cases hlt : k < n
    · have hx : l[k]? = some (l[k]'(by rw [Hn.out]; exact hlt)) := List.getElem?_eq_getElem _
      generalize l[k]'(by rw [Hn.out]; exact hlt) = x at hx
      replace hx := Lib.hid hx
      obtain ⟨b, off, rfl, hc⟩ := Hr.out k x hx.out
      have c0 : wr.cell? ⟨b, off + k, none⟩ = some (.int .i64 x) := by simpa using kcell hb (hc 0 _ rfl)
      have hm : x ∈ l := List.mem_of_getElem? hx.out
      have hd := Lib.hid (idxF_drop p l k x hx.out)
      clear hc hx
      cases hpx : p x
      all_goals
        have hcall := Hp.out x hm wr hb
        rw [hpx] at hcall
        replace hcall := Lib.hid hcall
        replace hpx := Lib.hid hpx
        clear hm
        go_wp2_with fail
        refine hcall.out.mono ?_
        rintro e w3 ⟨rfl, hb3⟩
        go_wp2
      · go_roundw
        case rel => exact ⟨k + 1, by omega, by go_num, bl_tr hb hb3, by rw [hi.out, hd.out, hpx.out]; simp⟩
        case measure => simp [intOf]; omega
      · go_ret
        exact ⟨by rw [hi.out, hd.out, hpx.out] <;> rfl, bl_tr hb hb3⟩
    · go_wp2
      go_ret
      have : k = l.length := by have := Hn.out; omega
      exact ⟨by rw [hi.out, this]; simp [idxF], hb⟩
set_option maxRecDepth 20000 in
theorem c_ContainsFuncI (f : FuncId) (lb : Array Value) (p : Int → Bool) (A : Option Addr) (l : List Int) (c : Nat) (w : World) (hl : l.length ≤ 1000000)
    (he : Enters Tryz.prog f) (hp : Preds Tryz.prog f lb w (fun x : Int => .int .i64 x) l p) (hr : Sl cI 1 w A l) :
    Calls Tryz.prog 112 #[.slice A l.length c, .func (.func f) #[] lb] w (Ret (.bool (l.any p)) w) := by
  have hcall := Lib.hid (c_IndexFuncI f lb p A l c w hl he hp hr)
  have hge := Lib.hid (idxF_ge p l 0 (Int.le_refl 0))
  clear he hp hr
  generalize l.length = n at *
  go_enter Tryz.func112, Tryz.ntmps112
  go_wp2_with fail
  refine hcall.out.mono ?_
  rintro e w3 ⟨rfl, hb3⟩
  go_wp2
  go_ret
  exact ⟨by rw [hge.out]; rfl, hb3⟩

set_option maxHeartbeats 800000 in
set_option maxRecDepth 20000 in
theorem c_eachB (f : FuncId) (lb : Array Value) (err : Nat → Bc → Int) (A : Option Addr) (l : List Bc) (c : Nat) (w : World) (hl : l.length ≤ 1000000)
    (he : Enters Tryz.prog f) (hp : ∀ k x, l[k]? = some x → ∀ W : World, Below w.heap.size w W → Calls Tryz.prog f (#[.int .i64 (k : Nat), .agg #[.string x.name, .int .i64 x.pl.x, .int .i64 x.pl.y, .int .i64 x.pl.z]] ++ lb) W (Ret (.int .i64 (err k x)) W))
    (hr : Sl cBc 4 w A l) :
    Calls Tryz.prog 108 #[.slice A l.length c, .func (.func f) #[] lb] w (Ret (.tuple #[.int .i64 (eachS err l 0).1, .int .i64 (eachS err l 0).2]) w) := by
  have he' : ∀ args w, (callFunc f args).run Tryz.prog w = .ok (.enter f args) w := he
  clear he
  have Hp := Lib.hid hp
  have Hr := Lib.hid hr
  clear hp hr
  obtain ⟨n, Hn⟩ : ∃ n, Hid (l.length = n) := ⟨_, rfl⟩
  rw [Hn.out] at hl ⊢
  go_enter Tryz.func108, Tryz.ntmps108
  go_wp2
  go_loopw [11] (fun i wr => ∃ k : Nat, k ≤ n ∧ i = .int .i64 k ∧ Below w.heap.size w wr ∧ eachS err l 0 = eachS err (l.drop k) k) (fun i _ => n - (intOf i).toNat)
  case atStart => exact ⟨0, Nat.zero_le _, rfl, Below.refl _ _, rfl⟩
  case round =>
    obtain ⟨k, hk, rfl, hb, hi⟩ := hrel
    replace hi := Lib.hid hi
    by_cases hlt : k < n
    · have hx : l[k]? = some (l[k]'(by rw [Hn.out]; exact hlt)) := List.getElem?_eq_getElem _
      generalize l[k]'(by rw [Hn.out]; exact hlt) = x at hx
      replace hx := Lib.hid hx
      obtain ⟨b, off, rfl, hc⟩ := Hr.out k x hx.out
      have c0 : wr.cell? ⟨b, off + k * 4, none⟩ = some (.string x.name) := kcell hb (hc 0 _ rfl)
      have c1 : wr.cell? ⟨b, off + k * 4 + 1, none⟩ = some (.int .i64 x.pl.x) := kcell hb (hc 1 _ rfl)
      have c2 : wr.cell? ⟨b, off + k * 4 + 2, none⟩ = some (.int .i64 x.pl.y) := kcell hb (hc 2 _ rfl)
      have c3 : wr.cell? ⟨b, off + k * 4 + 3, none⟩ = some (.int .i64 x.pl.z) := kcell hb (hc 3 _ rfl)
      have hd := Lib.hid (eachS_drop err l k x hx.out)
      have hcall := Lib.hid (Hp.out k x hx.out)
      clear hc
      go_wp2_with fail
      refine (hcall.out _ (bl_al _ hb)).mono ?_
      rintro e w3 ⟨rfl, hb3⟩
      have hb4 := bl_tr (bl_al _ hb) hb3
      clear hb3
      generalize err k x = ex at *
      by_cases h0 : ex = 0
      · have h0' : (ex != 0) = false := by simp [h0]
        replace h0 := Lib.hid h0
        go_wp2
        go_roundw
        case rel => exact ⟨k + 1, by omega, by go_num, hb4, by rw [hi.out, hd.out, if_pos h0.out]⟩
        case measure => simp [intOf]; omega
      · have h0' : (ex != 0) = true := by simp [h0]
        replace h0 := Lib.hid h0
        go_wp2
        go_ret2
        exact ⟨by rw [hi.out, hd.out, if_neg h0.out] <;> rfl, hb4⟩
    · go_wp2
      go_ret2
      have : k = l.length := by have := Hn.out; omega
      exact ⟨by rw [hi.out, this]; simp [eachS], hb⟩

set_option maxHeartbeats 800000 in
set_option maxRecDepth 20000 in
theorem c_eachR (f : FuncId) (lb : Array Value) (err : Nat → Rd → Int) (A : Option Addr) (l : List Rd) (c : Nat) (w : World) (hl : l.length ≤ 1000000)
    (he : Enters Tryz.prog f) (hp : ∀ k x, l[k]? = some x → ∀ W : World, Below w.heap.size w W → Calls Tryz.prog f (#[.int .i64 (k : Nat), .agg #[.int .i64 x.kind, .int .i64 x.idx, .int .i64 x.v.lo, .int .i64 x.v.hi]] ++ lb) W (Ret (.int .i64 (err k x)) W))
    (hr : Sl cRd 4 w A l) :
    Calls Tryz.prog 121 #[.slice A l.length c, .func (.func f) #[] lb] w (Ret (.tuple #[.int .i64 (eachS err l 0).1, .int .i64 (eachS err l 0).2]) w) := by
  have he' : ∀ args w, (callFunc f args).run Tryz.prog w = .ok (.enter f args) w := he
  clear he
  have Hp := Lib.hid hp
  have Hr := Lib.hid hr
  clear hp hr
  obtain ⟨n, Hn⟩ : ∃ n, Hid (l.length = n) := ⟨_, rfl⟩
  rw [Hn.out] at hl ⊢
  go_enter Tryz.func121, Tryz.ntmps121
  go_wp2
  go_loopw [11] (fun i wr => ∃ k : Nat, k ≤ n ∧ i = .int .i64 k ∧ Below w.heap.size w wr ∧ eachS err l 0 = eachS err (l.drop k) k) (fun i _ => n - (intOf i).toNat)
  case atStart => exact ⟨0, Nat.zero_le _, rfl, Below.refl _ _, rfl⟩
  case round =>
    obtain ⟨k, hk, rfl, hb, hi⟩ := hrel
    replace hi := Lib.hid hi
    by_cases hlt : k < n
    · have hx : l[k]? = some (l[k]'(by rw [Hn.out]; exact hlt)) := List.getElem?_eq_getElem _
      generalize l[k]'(by rw [Hn.out]; exact hlt) = x at hx
      replace hx := Lib.hid hx
      obtain ⟨b, off, rfl, hc⟩ := Hr.out k x hx.out
      have c0 : wr.cell? ⟨b, off + k * 4, none⟩ = some (.int .i64 x.kind) := kcell hb (hc 0 _ rfl)
      have c1 : wr.cell? ⟨b, off + k * 4 + 1, none⟩ = some (.int .i64 x.idx) := kcell hb (hc 1 _ rfl)
      have c2 : wr.cell? ⟨b, off + k * 4 + 2, none⟩ = some (.int .i64 x.v.lo) := kcell hb (hc 2 _ rfl)
      have c3 : wr.cell? ⟨b, off + k * 4 + 3, none⟩ = some (.int .i64 x.v.hi) := kcell hb (hc 3 _ rfl)
      have hd := Lib.hid (eachS_drop err l k x hx.out)
      have hcall := Lib.hid (Hp.out k x hx.out)
      clear hc
      go_wp2_with fail
      refine (hcall.out _ (bl_al _ hb)).mono ?_
      rintro e w3 ⟨rfl, hb3⟩
      have hb4 := bl_tr (bl_al _ hb) hb3
      clear hb3
      generalize err k x = ex at *
      by_cases h0 : ex = 0
      · have h0' : (ex != 0) = false := by simp [h0]
        replace h0 := Lib.hid h0
        go_wp2
        go_roundw
        case rel => exact ⟨k + 1, by omega, by go_num, hb4, by rw [hi.out, hd.out, if_pos h0.out]⟩
        case measure => simp [intOf]; omega
      · have h0' : (ex != 0) = true := by simp [h0]
        replace h0 := Lib.hid h0
        go_wp2
        go_ret2
        exact ⟨by rw [hi.out, hd.out, if_neg h0.out] <;> rfl, hb4⟩
    · go_wp2
      go_ret2
      have : k = l.length := by have := Hn.out; omega
      exact ⟨by rw [hi.out, this]; simp [eachS], hb⟩
end Go.Proofs.YtephimmamkafoaaGreat
namespace Go.Proofs.YtephimmamkafoaaGreat
open Go.RowKit Go.Shelf
attribute [local go_sem] bl_al bl_drew bl_drewN bl_refl

theorem c_within (n lo hi : Int) (w : World) : Calls Tryz.prog 75 #[.int .i64 n, .int .i64 lo, .int .i64 hi] w (Same (.bool (inR n lo hi)) w) := by
  go_enter Tryz.func75, Tryz.ntmps75
  go_wp2
  all_goals (go_ret; exact ⟨by first | (simp [inR, *]; done) | (simp [inR]; intros; omega), rfl⟩)

theorem c_sized (n l : Int) (w : World) (h1 : -1000000 ≤ l) (h2 : l ≤ 1000000) : Calls Tryz.prog 114 #[.int .i64 n, .int .i64 l] w (Same (.bool (szd n l)) w) := by
  go_enter Tryz.func114, Tryz.ntmps114
  go_wp2_with (go_at_call 75; refine (c_within _ _ _ _).mono ?_; rintro e w3 ⟨rfl, rfl⟩)
  go_ret
  exact ⟨rfl, rfl⟩

theorem c_unless (b : Bool) (x : Int) (w : World) : Calls Tryz.prog 49 #[.bool b, .int .i64 x] w (Same (.int .i64 (unl b x)) w) := by
  cases b
  all_goals
    go_enter Tryz.func49, Tryz.ntmps49
    go_wp2
    go_ret
    exact ⟨rfl, rfl⟩

theorem fstE_drop (l : List Int) (k : Nat) (x : Int) (hx : l[k]? = some x) : fstE (l.drop k) = if x = 0 then fstE (l.drop (k + 1)) else x := by
  have hk : k < l.length := (List.getElem?_eq_some_iff.1 hx).1
  have e : l[k] = x := (List.getElem?_eq_some_iff.1 hx).2
  rw [List.drop_eq_getElem_cons hk, e]
  rfl
set_option maxRecDepth 20000 in
theorem c_firstL (A : Option Addr) (l : List Int) (c : Nat) (w : World) (hl : l.length ≤ 1000000) (hr : Sl cI 1 w A l) :
    Calls Tryz.prog 48 #[.slice A l.length c] w (Same (.int .i64 (fstE l)) w) := by
  have Hr := Lib.hid hr
  clear hr
  obtain ⟨n, Hn⟩ : ∃ n, Hid (l.length = n) := ⟨_, rfl⟩
  rw [Hn.out] at hl ⊢
  go_enter Tryz.func48, Tryz.ntmps48
  go_wp2
  go_loop [7] (fun i => ∃ k : Nat, k ≤ n ∧ i = .int .i64 k ∧ fstE l = fstE (l.drop k)) (fun i => n - (intOf i).toNat)
  case atStart => exact ⟨0, Nat.zero_le _, rfl, rfl⟩
  case round =>
    obtain ⟨k, hk, rfl, hi⟩ := hrel
    replace hi := Lib.hid hi
    by_cases hlt : k < n
    · have hx : l[k]? = some (l[k]'(by rw [Hn.out]; exact hlt)) := List.getElem?_eq_getElem _
      generalize l[k]'(by rw [Hn.out]; exact hlt) = x at hx
      replace hx := Lib.hid hx
      obtain ⟨b, off, rfl, hc⟩ := Hr.out k x hx.out
      have c0 : w.cell? ⟨b, off + k, none⟩ = some (.int .i64 x) := by simpa using hc 0 _ rfl
      have hd := Lib.hid (fstE_drop l k x hx.out)
      clear hc
      by_cases h0 : x = 0
      · have h0' : (x != 0) = false := by simp [h0]
        replace h0 := Lib.hid h0
        go_wp2
        go_round
        case rel => exact ⟨k + 1, by omega, by go_num, by rw [hi.out, hd.out, if_pos h0.out]⟩
        case measure => simp [intOf]; omega
      · have h0' : (x != 0) = true := by simp [h0]
        replace h0 := Lib.hid h0
        go_wp2
        go_ret
        exact ⟨by rw [hi.out, hd.out, if_neg h0.out] <;> rfl, rfl⟩
    · go_wp2
      go_ret
      have : k = l.length := by have := Hn.out; omega
      exact ⟨by rw [hi.out, this]; simp [fstE], rfl⟩

/-- A block of integers is a slice's list. -/
theorem Blk.ints {w : World} {g : Nat} {t : TypeId} {l : List Int} (h : Blk w g t (l.map (Value.int .i64)).toArray) : Sl cI 1 w (some ⟨g, 0, none⟩) l := fun k x hx =>
  ⟨g, 0, rfl, fun j v hv => by
    have hj : j = 0 := by
      have := (List.getElem?_eq_some_iff.1 hv).1
      simp [cI] at this; omega
    subst hj
    have hv' : v = .int .i64 x := by simpa [cI] using hv.symm
    subst hv'
    have := h.cell k
    simp only [Nat.zero_add, Nat.mul_one, Nat.add_zero]
    rw [this]
    simp [hx]⟩
theorem c_first2 {w : World} {g t : Nat} {a b : Int} (h : Blk w g t #[.int .i64 a, .int .i64 b]) : Calls Tryz.prog 48 #[.slice (some ⟨g, 0, none⟩) 2 2] w (Same (.int .i64 (fstE [a, b])) w) :=
  c_firstL (some ⟨g, 0, none⟩) [a, b] 2 w (by simp) (Blk.ints (l := [a, b]) h)
theorem c_first3 {w : World} {g t : Nat} {a b c : Int} (h : Blk w g t #[.int .i64 a, .int .i64 b, .int .i64 c]) : Calls Tryz.prog 48 #[.slice (some ⟨g, 0, none⟩) 3 3] w (Same (.int .i64 (fstE [a, b, c])) w) :=
  c_firstL (some ⟨g, 0, none⟩) [a, b, c] 3 w (by simp) (Blk.ints (l := [a, b, c]) h)
theorem c_first4 {w : World} {g t : Nat} {a b c d : Int} (h : Blk w g t #[.int .i64 a, .int .i64 b, .int .i64 c, .int .i64 d]) : Calls Tryz.prog 48 #[.slice (some ⟨g, 0, none⟩) 4 4] w (Same (.int .i64 (fstE [a, b, c, d])) w) :=
  c_firstL (some ⟨g, 0, none⟩) [a, b, c, d] 4 w (by simp) (Blk.ints (l := [a, b, c, d]) h)

theorem c_of (b : Bx) (w : World) : Calls Tryz.prog 74 #[vBx b] w (Ret (vBx b) w) := by
  go_enter Tryz.func74, Tryz.ntmps74
  go_wp2
  exact bodyPost_ret (v := vBx b) (by simp [results, Tryz.results74, go_sem]) rfl ⟨rfl, by solve_by_elim (maxDepth := 40) only [bl_al, bl_drew, bl_refl, *]⟩
theorem c_at (p : Pl) (w : World) : Calls Tryz.prog 71 #[vPl p] w (Ret (vPl p) w) := by
  go_enter Tryz.func71, Tryz.ntmps71
  go_wp2
  exact bodyPost_ret (v := vPl p) (by simp [results, Tryz.results71, go_sem]) rfl ⟨rfl, by solve_by_elim (maxDepth := 40) only [bl_al, bl_drew, bl_refl, *]⟩
theorem c_box (b : Bx) (w : World) : Calls Tryz.prog 59 #[vBx b] w (Ret (vBx b) w) := by
  go_enter Tryz.func59, Tryz.ntmps59
  go_wp2
  exact bodyPost_ret (v := vBx b) (by simp [results, Tryz.results59, go_sem]) rfl ⟨rfl, by solve_by_elim (maxDepth := 40) only [bl_al, bl_drew, bl_refl, *]⟩
theorem c_point (p : Pl) (w : World) : Calls Tryz.prog 89 #[vPl p] w (Ret (vPl p) w) := by
  go_enter Tryz.func89, Tryz.ntmps89
  go_wp2
  exact bodyPost_ret (v := vPl p) (by simp [results, Tryz.results89, go_sem]) rfl ⟨rfl, by solve_by_elim (maxDepth := 40) only [bl_al, bl_drew, bl_refl, *]⟩

/-- The three ranges of a box that lie in a block. -/
theorem Blk.ranges {w : World} {g : Nat} {t : TypeId} {b : Bx} (h : Blk w g t #[.int .i64 b.x.lo, .int .i64 b.x.hi, .int .i64 b.y.lo, .int .i64 b.y.hi, .int .i64 b.z.lo, .int .i64 b.z.hi]) :
    Sl cRg 2 w (some ⟨g, 0, none⟩) b.sides := fun k x hx =>
  ⟨g, 0, rfl, fun j v hv => by
    have hj : j < 2 := by have := (List.getElem?_eq_some_iff.1 hv).1; simpa [cRg] using this
    have hk : k < 3 := by have := (List.getElem?_eq_some_iff.1 hx).1; simpa [Bx.sides] using this
    rw [h.cell]
    match k, j, hk, hj with
    | 0, 0, _, _ | 0, 1, _, _ | 1, 0, _, _ | 1, 1, _, _ | 2, 0, _, _ | 2, 1, _, _ =>
      simp [Bx.sides] at hx
      subst hx
      simpa [cRg] using hv⟩
theorem Blk.coords {w : World} {g : Nat} {t : TypeId} {p : Pl} (h : Blk w g t #[.int .i64 p.x, .int .i64 p.y, .int .i64 p.z]) : Sl cI 1 w (some ⟨g, 0, none⟩) p.co :=
  Blk.ints (l := p.co) h

theorem c_ord1 (x : Rg) (w : World) : Calls Tryz.prog 118 #[vRg x] w (Ret (.bool (decide (x.hi < x.lo))) w) := by
  go_enter Tryz.func118, Tryz.ntmps118
  go_wp2
  go_ret
  exact ⟨rfl, by solve_by_elim (maxDepth := 40) only [bl_al, bl_drew, bl_refl, *]⟩
theorem c_ordered (b : Bx) (w : World) : Calls Tryz.prog 94 #[vBx b] w (Ret (.bool b.ordered) w) := by
  have hcall := Lib.hid fun (W : World) (hr : Sl cRg 2 W (some ⟨w.heap.size, 0, none⟩) b.sides) => c_ContainsFuncR 118 #[] (fun r => decide (r.hi < r.lo)) (some ⟨w.heap.size, 0, none⟩) b.sides 3 W (by simp [Bx.sides])
    (enters_of Tryz.func118 (by kernel_rfl) rfl) (fun x _ W _ => c_ord1 x W) hr
  go_enter Tryz.func94, Tryz.ntmps94
  go_wp2_with fail
  refine (hcall.out _ (Blk.ranges (Blk.new w _ _))).mono ?_
  rintro e w3 ⟨rfl, hb3⟩
  go_wp2
  go_ret
  exact ⟨rfl, bl_tr (bl_al _ (bl_refl _)) hb3⟩
end Go.Proofs.YtephimmamkafoaaGreat
namespace Go.Proofs.YtephimmamkafoaaGreat
open Go.RowKit Go.Shelf
attribute [local go_sem] bl_al bl_drew bl_drewN bl_refl
set_option maxRecDepth 20000

set_option maxHeartbeats 400000 in
theorem c_szd1 (x : Rg) (l : Int) (B : Nat) (w : World) (h1 : -1000000 ≤ l) (h2 : l ≤ 1000000) (hB : w.cell? ⟨B, 0, none⟩ = some (.int .i64 l)) :
    Calls Tryz.prog 117 #[vRg x, .pointer (some ⟨B, 0, none⟩)] w (Ret (.bool (!szd x.lo l || !szd x.hi l)) w) := by
  have hB' := later hB
  have hlt := World.block_lt_of_cell? w _ hB
  clear hB
  have hn : B ≠ w.heap.size := Nat.ne_of_lt hlt
  cases hx : szd x.lo l
  all_goals
    go_enter Tryz.func117, Tryz.ntmps117
    go_wp2_with (go_at_call 114; (with_reducible refine (c_sized _ _ _ h1 h2).mono ?_); rintro e w3 ⟨rfl, rfl⟩)
    go_ret
    exact ⟨by simp, by solve_by_elim (maxDepth := 60) only [bl_al, bl_drew, bl_drewN, bl_refl, *]⟩

end Go.Proofs.YtephimmamkafoaaGreat
namespace Go.Proofs.YtephimmamkafoaaGreat
open Go.RowKit Go.Shelf
attribute [local go_sem] bl_al bl_drew bl_drewN bl_refl
set_option maxRecDepth 20000
set_option maxHeartbeats 1000000 in
theorem c_isName (s : ByteArray) (w : World) (hs : s.size ≤ maxLen) :
    Calls Tryz.prog 115 #[.string s] w (Ret (.bool (nameB s)) w) := by
  unfold maxLen at hs
  obtain ⟨cap, w1, hconv, hb1, hcell⟩ := bytes_conv (P := Tryz.prog) (src := 9) (dst := 187) s Tryz.underlying9 Tryz.underlying187 Tryz.underlying5 w
  have Hc := Lib.hid hcell
  clear hcell
  obtain ⟨l, Hl⟩ : ∃ l, Hid (s.data.toList = l) := ⟨_, rfl⟩
  rw [Hl.out] at Hc
  obtain ⟨n, Hn⟩ : ∃ n, Hid (s.size = n) := ⟨_, rfl⟩
  have Hln : Hid (l.length = n) := by rw [← Hl.out, ← Hn.out]; exact (by simp : s.data.toList.length = s.size)
  rw [Hn.out] at hs hconv
  have hR : Hid (nameB s = (nameFrom 0 l && inR n 1 12)) := by unfold nameB; rw [Hl.out, Hn.out]; rfl
  have Hsn : Hid (s.size = n) := Hn
  go_enter Tryz.func115, Tryz.ntmps115
  go_wp2
  go_loopw [10] (fun i wr => ∃ k : Nat, k ≤ n ∧ i = .int .i64 k ∧ wr = w1 ∧ nameFrom 0 l = nameFrom k (l.drop k)) (fun i _ => n - (intOf i).toNat)
  case atStart => exact ⟨0, Nat.zero_le _, rfl, rfl, rfl⟩
  case round =>
    obtain ⟨k, hk, rfl, rfl, hi⟩ := hrel
    replace hi := Lib.hid hi
    by_cases hlt : k < n
    · have hx : l[k]? = some (l[k]'(by rw [Hln.out]; exact hlt)) := List.getElem?_eq_getElem _
      generalize l[k]'(by rw [Hln.out]; exact hlt) = c at hx
      have c0 := Hc.out k c hx
      have hd := Lib.hid (nameFrom_drop l k c hx)
      have hm0 := c.toNat_lt
      have hlet := Lib.hid (letter_iff c)
      have hoth := Lib.hid (other_iff c)
      have hyes : Hid ((97 ≤ c.toNat ∧ c.toNat ≤ 122 ∨ 65 ≤ c.toNat ∧ c.toNat ≤ 90) ∨ k ≠ 0 ∧ (48 ≤ c.toNat ∧ c.toNat ≤ 57 ∨ c.toNat = 45) → nameFrom 0 l = nameFrom (k + 1) (l.drop (k + 1))) := by
        intro h
        rw [hi.out, hd.out]
        rcases h with h | ⟨h0, h⟩
        · simp [hlet.out.2 h]
        · simp [hoth.out.2 h, h0]
      have hno : Hid (¬ ((97 ≤ c.toNat ∧ c.toNat ≤ 122 ∨ 65 ≤ c.toNat ∧ c.toNat ≤ 90) ∨ k ≠ 0 ∧ (48 ≤ c.toNat ∧ c.toNat ≤ 57 ∨ c.toNat = 45)) → nameFrom 0 l = false) := by
        intro h
        rw [hi.out, hd.out]
        have h1 : letter c = false := by rw [Bool.eq_false_iff]; intro hh; exact h (.inl (hlet.out.1 hh))
        by_cases h0 : k = 0
        · simp [h1, h0]
        · have h2 : other c = false := by rw [Bool.eq_false_iff]; intro hh; exact h (.inr ⟨h0, hoth.out.1 hh⟩)
          simp [h1, h2]
      clear hx hlet hoth hd hi
      generalize c.toNat = m at *
      have hcase : m < 45 ∨ m = 45 ∨ (45 < m ∧ m < 48) ∨ (48 ≤ m ∧ m ≤ 57) ∨ (57 < m ∧ m < 65) ∨ (65 ≤ m ∧ m ≤ 90) ∨ (90 < m ∧ m < 97) ∨ (97 ≤ m ∧ m ≤ 122) ∨ 122 < m := by omega
      by_cases h0 : k = 0
      · subst h0
        rcases hcase with h | rfl | ⟨h, h'⟩ | ⟨h, h'⟩ | ⟨h, h'⟩ | ⟨h, h'⟩ | ⟨h, h'⟩ | ⟨h, h'⟩ | h
        all_goals
          go_wp2
        all_goals first
          | (go_roundw
             case rel => exact ⟨1, by omega, by go_num, trivial, hyes.out (by omega)⟩
             case measure => simp [intOf]; omega)
          | (go_ret
             exact ⟨by rw [hR.out, hno.out (by omega)]; rfl, hb1⟩)
          | (exfalso; simp at *; omega)
      · have h0' : ((k : Int) == 0) = false := by simp; omega
        rcases hcase with h | rfl | ⟨h, h'⟩ | ⟨h, h'⟩ | ⟨h, h'⟩ | ⟨h, h'⟩ | ⟨h, h'⟩ | ⟨h, h'⟩ | h
        all_goals
          go_wp2
        all_goals first
          | (go_roundw
             case rel => exact ⟨k + 1, by omega, by go_num, trivial, hyes.out (by omega)⟩
             case measure => simp [intOf]; omega)
          | (go_ret
             exact ⟨by rw [hR.out, hno.out (by omega)]; rfl, hb1⟩)
          | (exfalso; simp at *; omega)
    · go_wp2_with (go_at_call 75; (with_reducible refine (c_within _ _ _ _).mono ?_); rintro e w3 ⟨rfl, rfl⟩)
      go_ret
      have : k = l.length := by have := Hln.out; omega
      exact ⟨by rw [hR.out, hi.out, this]; simp [nameFrom, Hn.out], hb1⟩
end Go.Proofs.YtephimmamkafoaaGreat
namespace Go.Proofs.YtephimmamkafoaaGreat
abbrev vBc (x : Bc) : Value := .agg #[.string x.name, .int .i64 x.pl.x, .int .i64 x.pl.y, .int .i64 x.pl.z]
abbrev vRd (x : Rd) : Value := .agg #[.int .i64 x.kind, .int .i64 x.idx, .int .i64 x.v.lo, .int .i64 x.v.hi]
abbrev vMv (m : Mv) : Value := .agg #[.int .i64 m.ticks, .int .i64 m.speed.x.lo, .int .i64 m.speed.x.hi, .int .i64 m.speed.y.lo, .int .i64 m.speed.y.hi, .int .i64 m.speed.z.lo, .int .i64 m.speed.z.hi]
abbrev aNt (b : Bx) (s : Value) : Array Value := #[.int .i64 b.x.lo, .int .i64 b.x.hi, .int .i64 b.y.lo, .int .i64 b.y.hi, .int .i64 b.z.lo, .int .i64 b.z.hi, s]
/-- A net's value: its world, and the header of its beacons. -/
abbrev vNt (b : Bx) (s : Value) : Value := .agg #[.int .i64 b.x.lo, .int .i64 b.x.hi, .int .i64 b.y.lo, .int .i64 b.y.hi, .int .i64 b.z.lo, .int .i64 b.z.hi, s]
/-- An opened net: the net, and its world once more. -/
abbrev vON (b : Bx) (s : Value) : Value := .agg #[.int .i64 b.x.lo, .int .i64 b.x.hi, .int .i64 b.y.lo, .int .i64 b.y.hi, .int .i64 b.z.lo, .int .i64 b.z.hi, s, .int .i64 b.x.lo, .int .i64 b.x.hi, .int .i64 b.y.lo, .int .i64 b.y.hi, .int .i64 b.z.lo, .int .i64 b.z.hi]

def known (bs : List Bc) (s : ByteArray) : Bool := bs.any fun o => o.name.toList == s.toList
def bcErr (bs : List Bc) (i : Nat) (b : Bc) : Int := fstE [unl (nameB b.name) 4, unl (!known (bs.take i) b.name) 5, unl (!(b.pl.co.any fun c => !szd c 10000)) 2]
def worldErr (b : Bx) (n : Nat) : Int := fstE [unl (b.sized 10000 && (decide (0 ≤ b.z.lo) && decide (0 ≤ b.z.hi))) 2, unl b.ordered 9, unl (decide ((n : Int) ≤ 6)) 8]
def netChk (n : Nt) : Int × Int := if worldErr n.world n.bs.length = 0 then eachS (bcErr n.bs) n.bs 0 else (0, worldErr n.world n.bs.length)
def netErr (n : Nt) : Int := (netChk n).2
def Bx.holds (a o : Bx) : Bool := (decide (a.x.lo ≤ o.x.lo) && decide (o.x.hi ≤ a.x.hi)) && (decide (a.y.lo ≤ o.y.lo) && decide (o.y.hi ≤ a.y.hi)) && (decide (a.z.lo ≤ o.z.lo) && decide (o.z.hi ≤ a.z.hi))
def Bx.has (a : Bx) (p : Pl) : Bool := inR p.x a.x.lo a.x.hi && inR p.y a.y.lo a.y.hi && inR p.z a.z.lo a.z.hi
def boxErr (n : Nt) (b : Bx) : Int := fstE [netErr n, unl b.ordered 9, unl (n.world.holds b) 2]
def mvErr (m : Mv) : Int := fstE [unl (inR m.ticks 0 1000 && m.speed.sized 100) 2, unl m.speed.ordered 9]
def Rg.meet (a b : Rg) : Rg := ⟨max a.lo b.lo, min a.hi b.hi⟩
def Bx.meet (a b : Bx) : Bx := ⟨a.x.meet b.x, a.y.meet b.y, a.z.meet b.z⟩
def Rg.carry (a v : Rg) (t : Int) : Rg := ⟨a.lo + t * v.lo, a.hi + t * v.hi⟩
def Bx.carry (a : Bx) (m : Mv) : Bx := ⟨a.x.carry m.speed.x m.ticks, a.y.carry m.speed.y m.ticks, a.z.carry m.speed.z m.ticks⟩
def Rg.neg (a : Rg) : Rg := ⟨-a.hi, -a.lo⟩
def Mv.neg (m : Mv) : Mv := ⟨m.ticks, ⟨m.speed.x.neg, m.speed.y.neg, m.speed.z.neg⟩⟩
/-- A box carried, and carried back, within the world. -/
def carried (w : Bx) (a : Bx) (m : Mv) : Bx := (a.carry m).meet w
def back (w : Bx) (a : Bx) (m : Mv) : Bx := carried w a m.neg
def bx0 : Bx := ⟨⟨0, 0⟩, ⟨0, 0⟩, ⟨0, 0⟩⟩
def Rg.join (a b : Rg) : Rg := ⟨min a.lo b.lo, max a.hi b.hi⟩
def Bx.join (a b : Bx) : Bx := ⟨a.x.join b.x, a.y.join b.y, a.z.join b.z⟩
end Go.Proofs.YtephimmamkafoaaGreat
