/-
  The world under a new name: what is known of it is that nothing old turned, and some of its blocks.
  A region that draws its order, in whatever order, within a round of a range over a function: each operation is carried out there as anywhere.
  A loop over a bound method that is an iterator: its body, walked once, goes on; a round may turn the caller's own blocks X alone.
  What chapter 5 computes, as plain functions on numbers and lists: boxes, nets, readings, votes. Nothing here speaks of the program.
-/
import Derived.Test.YtephimmamkafoaaGreatG2
import Derived.Deep.Cut
import Derived.LoopNIn
import Derived.RangeFuncNested
import Derived.RangeFuncCalls
import Derived.OrdersIn
import Derived.RangeFuncLeaves
import GoSem.Core.Value
namespace Go.Proofs.YtephimmamkafoaaGreat
set_option linter.unusedSimpArgs false
set_option linter.unusedVariables false
open Go.RowKit
section
variable {P : Program} {w0 w : World} {a : Act}

theorem absX1 {G : World → Prop} {g0 : Nat} {t0 : TypeId} {c0 : Array Value} (hb : Below w0.heap.size w0 w) (k0 : Blk w g0 t0 c0) (h : ∀ W, Below w0.heap.size w0 W → Blk W g0 t0 c0 → G W) : G w := h w hb k0
theorem absK1 {c : Code} {Q : Exit → Act → World → Prop} {X : List Nat} {g0 : Nat} {t0 : TypeId} {c0 : Array Value} (hb : BX X w0 w) (k0 : Blk w g0 t0 c0) (h : ∀ W, BX X w0 W → Blk W g0 t0 c0 → c.wp P Q a W) : c.wp P Q a w := h w hb k0
theorem absB1 {c : Code} {Q : Exit → Act → World → Prop} {g0 : Nat} {t0 : TypeId} {c0 : Array Value} (hb : Below w0.heap.size w0 w) (k0 : Blk w g0 t0 c0) (h : ∀ W, Below w0.heap.size w0 W → Blk W g0 t0 c0 → c.wp P Q a W) : c.wp P Q a w := h w hb k0
theorem absRK1 {c : Code} {Q : Exit → Act → World → Prop} {m : Nat} {X : List Nat} {g0 : Nat} {t0 : TypeId} {c0 : Array Value} (hb : BX X w0 w) (k0 : Blk w g0 t0 c0) (h : ∀ W, BX X w0 W → Blk W g0 t0 c0 → c.rounds P Q m a W) : c.rounds P Q m a w := h w hb k0
theorem absRB1 {c : Code} {Q : Exit → Act → World → Prop} {m : Nat} {g0 : Nat} {t0 : TypeId} {c0 : Array Value} (hb : Below w0.heap.size w0 w) (k0 : Blk w g0 t0 c0) (h : ∀ W, Below w0.heap.size w0 W → Blk W g0 t0 c0 → c.rounds P Q m a W) : c.rounds P Q m a w := h w hb k0
theorem absIK1 {F : Fence} {n : Nat} {c : Code} {Q : Exit → Act → World → Prop} {X : List Nat} {g0 : Nat} {t0 : TypeId} {c0 : Array Value} (hb : BX X w0 w) (k0 : Blk w g0 t0 c0) (h : ∀ W, BX X w0 W → Blk W g0 t0 c0 → c.wpIn F n P Q a W) : c.wpIn F n P Q a w := h w hb k0
theorem absIB1 {F : Fence} {n : Nat} {c : Code} {Q : Exit → Act → World → Prop} {g0 : Nat} {t0 : TypeId} {c0 : Array Value} (hb : Below w0.heap.size w0 w) (k0 : Blk w g0 t0 c0) (h : ∀ W, Below w0.heap.size w0 W → Blk W g0 t0 c0 → c.wpIn F n P Q a W) : c.wpIn F n P Q a w := h w hb k0
theorem absJK1 {F : Fence} {n : Nat} {c : Code} {Q : Exit → Act → World → Prop} {m : Nat} {X : List Nat} {g0 : Nat} {t0 : TypeId} {c0 : Array Value} (hb : BX X w0 w) (k0 : Blk w g0 t0 c0) (h : ∀ W, BX X w0 W → Blk W g0 t0 c0 → c.roundsIn F n P Q m a W) : c.roundsIn F n P Q m a w := h w hb k0
theorem absJB1 {F : Fence} {n : Nat} {c : Code} {Q : Exit → Act → World → Prop} {m : Nat} {g0 : Nat} {t0 : TypeId} {c0 : Array Value} (hb : Below w0.heap.size w0 w) (k0 : Blk w g0 t0 c0) (h : ∀ W, Below w0.heap.size w0 W → Blk W g0 t0 c0 → c.roundsIn F n P Q m a W) : c.roundsIn F n P Q m a w := h w hb k0
theorem absTK1 {K : Act → World → Prop} {Q : Exit → Act → World → Prop} {x : Exit} {X : List Nat} {g0 : Nat} {t0 : TypeId} {c0 : Array Value} (hb : BX X w0 w) (k0 : Blk w g0 t0 c0) (h : ∀ W, BX X w0 W → Blk W g0 t0 c0 → Exit.then K Q x a W) : Exit.then K Q x a w := h w hb k0
theorem absTB1 {K : Act → World → Prop} {Q : Exit → Act → World → Prop} {x : Exit} {g0 : Nat} {t0 : TypeId} {c0 : Array Value} (hb : Below w0.heap.size w0 w) (k0 : Blk w g0 t0 c0) (h : ∀ W, Below w0.heap.size w0 W → Blk W g0 t0 c0 → Exit.then K Q x a W) : Exit.then K Q x a w := h w hb k0
theorem absPB1 {fn : Func} {R : Ending → World → Prop} {x : Exit} {g0 : Nat} {t0 : TypeId} {c0 : Array Value} (hb : Below w0.heap.size w0 w) (k0 : Blk w g0 t0 c0) (h : ∀ W, Below w0.heap.size w0 W → Blk W g0 t0 c0 → bodyPost P fn R x a W) : bodyPost P fn R x a w := h w hb k0
theorem absX2 {G : World → Prop} {g0 g1 : Nat} {t0 t1 : TypeId} {c0 c1 : Array Value} (hb : Below w0.heap.size w0 w) (k0 : Blk w g0 t0 c0) (k1 : Blk w g1 t1 c1) (h : ∀ W, Below w0.heap.size w0 W → Blk W g0 t0 c0 → Blk W g1 t1 c1 → G W) : G w := h w hb k0 k1
theorem absK2 {c : Code} {Q : Exit → Act → World → Prop} {X : List Nat} {g0 g1 : Nat} {t0 t1 : TypeId} {c0 c1 : Array Value} (hb : BX X w0 w) (k0 : Blk w g0 t0 c0) (k1 : Blk w g1 t1 c1) (h : ∀ W, BX X w0 W → Blk W g0 t0 c0 → Blk W g1 t1 c1 → c.wp P Q a W) : c.wp P Q a w := h w hb k0 k1
theorem absB2 {c : Code} {Q : Exit → Act → World → Prop} {g0 g1 : Nat} {t0 t1 : TypeId} {c0 c1 : Array Value} (hb : Below w0.heap.size w0 w) (k0 : Blk w g0 t0 c0) (k1 : Blk w g1 t1 c1) (h : ∀ W, Below w0.heap.size w0 W → Blk W g0 t0 c0 → Blk W g1 t1 c1 → c.wp P Q a W) : c.wp P Q a w := h w hb k0 k1
theorem absRK2 {c : Code} {Q : Exit → Act → World → Prop} {m : Nat} {X : List Nat} {g0 g1 : Nat} {t0 t1 : TypeId} {c0 c1 : Array Value} (hb : BX X w0 w) (k0 : Blk w g0 t0 c0) (k1 : Blk w g1 t1 c1) (h : ∀ W, BX X w0 W → Blk W g0 t0 c0 → Blk W g1 t1 c1 → c.rounds P Q m a W) : c.rounds P Q m a w := h w hb k0 k1
theorem absRB2 {c : Code} {Q : Exit → Act → World → Prop} {m : Nat} {g0 g1 : Nat} {t0 t1 : TypeId} {c0 c1 : Array Value} (hb : Below w0.heap.size w0 w) (k0 : Blk w g0 t0 c0) (k1 : Blk w g1 t1 c1) (h : ∀ W, Below w0.heap.size w0 W → Blk W g0 t0 c0 → Blk W g1 t1 c1 → c.rounds P Q m a W) : c.rounds P Q m a w := h w hb k0 k1
theorem absIK2 {F : Fence} {n : Nat} {c : Code} {Q : Exit → Act → World → Prop} {X : List Nat} {g0 g1 : Nat} {t0 t1 : TypeId} {c0 c1 : Array Value} (hb : BX X w0 w) (k0 : Blk w g0 t0 c0) (k1 : Blk w g1 t1 c1) (h : ∀ W, BX X w0 W → Blk W g0 t0 c0 → Blk W g1 t1 c1 → c.wpIn F n P Q a W) : c.wpIn F n P Q a w := h w hb k0 k1
theorem absIB2 {F : Fence} {n : Nat} {c : Code} {Q : Exit → Act → World → Prop} {g0 g1 : Nat} {t0 t1 : TypeId} {c0 c1 : Array Value} (hb : Below w0.heap.size w0 w) (k0 : Blk w g0 t0 c0) (k1 : Blk w g1 t1 c1) (h : ∀ W, Below w0.heap.size w0 W → Blk W g0 t0 c0 → Blk W g1 t1 c1 → c.wpIn F n P Q a W) : c.wpIn F n P Q a w := h w hb k0 k1
theorem absJK2 {F : Fence} {n : Nat} {c : Code} {Q : Exit → Act → World → Prop} {m : Nat} {X : List Nat} {g0 g1 : Nat} {t0 t1 : TypeId} {c0 c1 : Array Value} (hb : BX X w0 w) (k0 : Blk w g0 t0 c0) (k1 : Blk w g1 t1 c1) (h : ∀ W, BX X w0 W → Blk W g0 t0 c0 → Blk W g1 t1 c1 → c.roundsIn F n P Q m a W) : c.roundsIn F n P Q m a w := h w hb k0 k1
theorem absJB2 {F : Fence} {n : Nat} {c : Code} {Q : Exit → Act → World → Prop} {m : Nat} {g0 g1 : Nat} {t0 t1 : TypeId} {c0 c1 : Array Value} (hb : Below w0.heap.size w0 w) (k0 : Blk w g0 t0 c0) (k1 : Blk w g1 t1 c1) (h : ∀ W, Below w0.heap.size w0 W → Blk W g0 t0 c0 → Blk W g1 t1 c1 → c.roundsIn F n P Q m a W) : c.roundsIn F n P Q m a w := h w hb k0 k1
theorem absTK2 {K : Act → World → Prop} {Q : Exit → Act → World → Prop} {x : Exit} {X : List Nat} {g0 g1 : Nat} {t0 t1 : TypeId} {c0 c1 : Array Value} (hb : BX X w0 w) (k0 : Blk w g0 t0 c0) (k1 : Blk w g1 t1 c1) (h : ∀ W, BX X w0 W → Blk W g0 t0 c0 → Blk W g1 t1 c1 → Exit.then K Q x a W) : Exit.then K Q x a w := h w hb k0 k1
theorem absTB2 {K : Act → World → Prop} {Q : Exit → Act → World → Prop} {x : Exit} {g0 g1 : Nat} {t0 t1 : TypeId} {c0 c1 : Array Value} (hb : Below w0.heap.size w0 w) (k0 : Blk w g0 t0 c0) (k1 : Blk w g1 t1 c1) (h : ∀ W, Below w0.heap.size w0 W → Blk W g0 t0 c0 → Blk W g1 t1 c1 → Exit.then K Q x a W) : Exit.then K Q x a w := h w hb k0 k1
theorem absPB2 {fn : Func} {R : Ending → World → Prop} {x : Exit} {g0 g1 : Nat} {t0 t1 : TypeId} {c0 c1 : Array Value} (hb : Below w0.heap.size w0 w) (k0 : Blk w g0 t0 c0) (k1 : Blk w g1 t1 c1) (h : ∀ W, Below w0.heap.size w0 W → Blk W g0 t0 c0 → Blk W g1 t1 c1 → bodyPost P fn R x a W) : bodyPost P fn R x a w := h w hb k0 k1
theorem absX3 {G : World → Prop} {g0 g1 g2 : Nat} {t0 t1 t2 : TypeId} {c0 c1 c2 : Array Value} (hb : Below w0.heap.size w0 w) (k0 : Blk w g0 t0 c0) (k1 : Blk w g1 t1 c1) (k2 : Blk w g2 t2 c2) (h : ∀ W, Below w0.heap.size w0 W → Blk W g0 t0 c0 → Blk W g1 t1 c1 → Blk W g2 t2 c2 → G W) : G w := h w hb k0 k1 k2
theorem absK3 {c : Code} {Q : Exit → Act → World → Prop} {X : List Nat} {g0 g1 g2 : Nat} {t0 t1 t2 : TypeId} {c0 c1 c2 : Array Value} (hb : BX X w0 w) (k0 : Blk w g0 t0 c0) (k1 : Blk w g1 t1 c1) (k2 : Blk w g2 t2 c2) (h : ∀ W, BX X w0 W → Blk W g0 t0 c0 → Blk W g1 t1 c1 → Blk W g2 t2 c2 → c.wp P Q a W) : c.wp P Q a w := h w hb k0 k1 k2
theorem absB3 {c : Code} {Q : Exit → Act → World → Prop} {g0 g1 g2 : Nat} {t0 t1 t2 : TypeId} {c0 c1 c2 : Array Value} (hb : Below w0.heap.size w0 w) (k0 : Blk w g0 t0 c0) (k1 : Blk w g1 t1 c1) (k2 : Blk w g2 t2 c2) (h : ∀ W, Below w0.heap.size w0 W → Blk W g0 t0 c0 → Blk W g1 t1 c1 → Blk W g2 t2 c2 → c.wp P Q a W) : c.wp P Q a w := h w hb k0 k1 k2
theorem absRK3 {c : Code} {Q : Exit → Act → World → Prop} {m : Nat} {X : List Nat} {g0 g1 g2 : Nat} {t0 t1 t2 : TypeId} {c0 c1 c2 : Array Value} (hb : BX X w0 w) (k0 : Blk w g0 t0 c0) (k1 : Blk w g1 t1 c1) (k2 : Blk w g2 t2 c2) (h : ∀ W, BX X w0 W → Blk W g0 t0 c0 → Blk W g1 t1 c1 → Blk W g2 t2 c2 → c.rounds P Q m a W) : c.rounds P Q m a w := h w hb k0 k1 k2
theorem absRB3 {c : Code} {Q : Exit → Act → World → Prop} {m : Nat} {g0 g1 g2 : Nat} {t0 t1 t2 : TypeId} {c0 c1 c2 : Array Value} (hb : Below w0.heap.size w0 w) (k0 : Blk w g0 t0 c0) (k1 : Blk w g1 t1 c1) (k2 : Blk w g2 t2 c2) (h : ∀ W, Below w0.heap.size w0 W → Blk W g0 t0 c0 → Blk W g1 t1 c1 → Blk W g2 t2 c2 → c.rounds P Q m a W) : c.rounds P Q m a w := h w hb k0 k1 k2
theorem absIK3 {F : Fence} {n : Nat} {c : Code} {Q : Exit → Act → World → Prop} {X : List Nat} {g0 g1 g2 : Nat} {t0 t1 t2 : TypeId} {c0 c1 c2 : Array Value} (hb : BX X w0 w) (k0 : Blk w g0 t0 c0) (k1 : Blk w g1 t1 c1) (k2 : Blk w g2 t2 c2) (h : ∀ W, BX X w0 W → Blk W g0 t0 c0 → Blk W g1 t1 c1 → Blk W g2 t2 c2 → c.wpIn F n P Q a W) : c.wpIn F n P Q a w := h w hb k0 k1 k2
theorem absIB3 {F : Fence} {n : Nat} {c : Code} {Q : Exit → Act → World → Prop} {g0 g1 g2 : Nat} {t0 t1 t2 : TypeId} {c0 c1 c2 : Array Value} (hb : Below w0.heap.size w0 w) (k0 : Blk w g0 t0 c0) (k1 : Blk w g1 t1 c1) (k2 : Blk w g2 t2 c2) (h : ∀ W, Below w0.heap.size w0 W → Blk W g0 t0 c0 → Blk W g1 t1 c1 → Blk W g2 t2 c2 → c.wpIn F n P Q a W) : c.wpIn F n P Q a w := h w hb k0 k1 k2
theorem absJK3 {F : Fence} {n : Nat} {c : Code} {Q : Exit → Act → World → Prop} {m : Nat} {X : List Nat} {g0 g1 g2 : Nat} {t0 t1 t2 : TypeId} {c0 c1 c2 : Array Value} (hb : BX X w0 w) (k0 : Blk w g0 t0 c0) (k1 : Blk w g1 t1 c1) (k2 : Blk w g2 t2 c2) (h : ∀ W, BX X w0 W → Blk W g0 t0 c0 → Blk W g1 t1 c1 → Blk W g2 t2 c2 → c.roundsIn F n P Q m a W) : c.roundsIn F n P Q m a w := h w hb k0 k1 k2
theorem absJB3 {F : Fence} {n : Nat} {c : Code} {Q : Exit → Act → World → Prop} {m : Nat} {g0 g1 g2 : Nat} {t0 t1 t2 : TypeId} {c0 c1 c2 : Array Value} (hb : Below w0.heap.size w0 w) (k0 : Blk w g0 t0 c0) (k1 : Blk w g1 t1 c1) (k2 : Blk w g2 t2 c2) (h : ∀ W, Below w0.heap.size w0 W → Blk W g0 t0 c0 → Blk W g1 t1 c1 → Blk W g2 t2 c2 → c.roundsIn F n P Q m a W) : c.roundsIn F n P Q m a w := h w hb k0 k1 k2
theorem absTK3 {K : Act → World → Prop} {Q : Exit → Act → World → Prop} {x : Exit} {X : List Nat} {g0 g1 g2 : Nat} {t0 t1 t2 : TypeId} {c0 c1 c2 : Array Value} (hb : BX X w0 w) (k0 : Blk w g0 t0 c0) (k1 : Blk w g1 t1 c1) (k2 : Blk w g2 t2 c2) (h : ∀ W, BX X w0 W → Blk W g0 t0 c0 → Blk W g1 t1 c1 → Blk W g2 t2 c2 → Exit.then K Q x a W) : Exit.then K Q x a w := h w hb k0 k1 k2
theorem absTB3 {K : Act → World → Prop} {Q : Exit → Act → World → Prop} {x : Exit} {g0 g1 g2 : Nat} {t0 t1 t2 : TypeId} {c0 c1 c2 : Array Value} (hb : Below w0.heap.size w0 w) (k0 : Blk w g0 t0 c0) (k1 : Blk w g1 t1 c1) (k2 : Blk w g2 t2 c2) (h : ∀ W, Below w0.heap.size w0 W → Blk W g0 t0 c0 → Blk W g1 t1 c1 → Blk W g2 t2 c2 → Exit.then K Q x a W) : Exit.then K Q x a w := h w hb k0 k1 k2
theorem absPB3 {fn : Func} {R : Ending → World → Prop} {x : Exit} {g0 g1 g2 : Nat} {t0 t1 t2 : TypeId} {c0 c1 c2 : Array Value} (hb : Below w0.heap.size w0 w) (k0 : Blk w g0 t0 c0) (k1 : Blk w g1 t1 c1) (k2 : Blk w g2 t2 c2) (h : ∀ W, Below w0.heap.size w0 W → Blk W g0 t0 c0 → Blk W g1 t1 c1 → Blk W g2 t2 c2 → bodyPost P fn R x a W) : bodyPost P fn R x a w := h w hb k0 k1 k2
theorem absX4 {G : World → Prop} {g0 g1 g2 g3 : Nat} {t0 t1 t2 t3 : TypeId} {c0 c1 c2 c3 : Array Value} (hb : Below w0.heap.size w0 w) (k0 : Blk w g0 t0 c0) (k1 : Blk w g1 t1 c1) (k2 : Blk w g2 t2 c2) (k3 : Blk w g3 t3 c3) (h : ∀ W, Below w0.heap.size w0 W → Blk W g0 t0 c0 → Blk W g1 t1 c1 → Blk W g2 t2 c2 → Blk W g3 t3 c3 → G W) : G w := h w hb k0 k1 k2 k3
theorem absK4 {c : Code} {Q : Exit → Act → World → Prop} {X : List Nat} {g0 g1 g2 g3 : Nat} {t0 t1 t2 t3 : TypeId} {c0 c1 c2 c3 : Array Value} (hb : BX X w0 w) (k0 : Blk w g0 t0 c0) (k1 : Blk w g1 t1 c1) (k2 : Blk w g2 t2 c2) (k3 : Blk w g3 t3 c3) (h : ∀ W, BX X w0 W → Blk W g0 t0 c0 → Blk W g1 t1 c1 → Blk W g2 t2 c2 → Blk W g3 t3 c3 → c.wp P Q a W) : c.wp P Q a w := h w hb k0 k1 k2 k3
theorem absB4 {c : Code} {Q : Exit → Act → World → Prop} {g0 g1 g2 g3 : Nat} {t0 t1 t2 t3 : TypeId} {c0 c1 c2 c3 : Array Value} (hb : Below w0.heap.size w0 w) (k0 : Blk w g0 t0 c0) (k1 : Blk w g1 t1 c1) (k2 : Blk w g2 t2 c2) (k3 : Blk w g3 t3 c3) (h : ∀ W, Below w0.heap.size w0 W → Blk W g0 t0 c0 → Blk W g1 t1 c1 → Blk W g2 t2 c2 → Blk W g3 t3 c3 → c.wp P Q a W) : c.wp P Q a w := h w hb k0 k1 k2 k3
theorem absRK4 {c : Code} {Q : Exit → Act → World → Prop} {m : Nat} {X : List Nat} {g0 g1 g2 g3 : Nat} {t0 t1 t2 t3 : TypeId} {c0 c1 c2 c3 : Array Value} (hb : BX X w0 w) (k0 : Blk w g0 t0 c0) (k1 : Blk w g1 t1 c1) (k2 : Blk w g2 t2 c2) (k3 : Blk w g3 t3 c3) (h : ∀ W, BX X w0 W → Blk W g0 t0 c0 → Blk W g1 t1 c1 → Blk W g2 t2 c2 → Blk W g3 t3 c3 → c.rounds P Q m a W) : c.rounds P Q m a w := h w hb k0 k1 k2 k3
theorem absRB4 {c : Code} {Q : Exit → Act → World → Prop} {m : Nat} {g0 g1 g2 g3 : Nat} {t0 t1 t2 t3 : TypeId} {c0 c1 c2 c3 : Array Value} (hb : Below w0.heap.size w0 w) (k0 : Blk w g0 t0 c0) (k1 : Blk w g1 t1 c1) (k2 : Blk w g2 t2 c2) (k3 : Blk w g3 t3 c3) (h : ∀ W, Below w0.heap.size w0 W → Blk W g0 t0 c0 → Blk W g1 t1 c1 → Blk W g2 t2 c2 → Blk W g3 t3 c3 → c.rounds P Q m a W) : c.rounds P Q m a w := h w hb k0 k1 k2 k3
theorem absIK4 {F : Fence} {n : Nat} {c : Code} {Q : Exit → Act → World → Prop} {X : List Nat} {g0 g1 g2 g3 : Nat} {t0 t1 t2 t3 : TypeId} {c0 c1 c2 c3 : Array Value} (hb : BX X w0 w) (k0 : Blk w g0 t0 c0) (k1 : Blk w g1 t1 c1) (k2 : Blk w g2 t2 c2) (k3 : Blk w g3 t3 c3) (h : ∀ W, BX X w0 W → Blk W g0 t0 c0 → Blk W g1 t1 c1 → Blk W g2 t2 c2 → Blk W g3 t3 c3 → c.wpIn F n P Q a W) : c.wpIn F n P Q a w := h w hb k0 k1 k2 k3
theorem absIB4 {F : Fence} {n : Nat} {c : Code} {Q : Exit → Act → World → Prop} {g0 g1 g2 g3 : Nat} {t0 t1 t2 t3 : TypeId} {c0 c1 c2 c3 : Array Value} (hb : Below w0.heap.size w0 w) (k0 : Blk w g0 t0 c0) (k1 : Blk w g1 t1 c1) (k2 : Blk w g2 t2 c2) (k3 : Blk w g3 t3 c3) (h : ∀ W, Below w0.heap.size w0 W → Blk W g0 t0 c0 → Blk W g1 t1 c1 → Blk W g2 t2 c2 → Blk W g3 t3 c3 → c.wpIn F n P Q a W) : c.wpIn F n P Q a w := h w hb k0 k1 k2 k3
theorem absJK4 {F : Fence} {n : Nat} {c : Code} {Q : Exit → Act → World → Prop} {m : Nat} {X : List Nat} {g0 g1 g2 g3 : Nat} {t0 t1 t2 t3 : TypeId} {c0 c1 c2 c3 : Array Value} (hb : BX X w0 w) (k0 : Blk w g0 t0 c0) (k1 : Blk w g1 t1 c1) (k2 : Blk w g2 t2 c2) (k3 : Blk w g3 t3 c3) (h : ∀ W, BX X w0 W → Blk W g0 t0 c0 → Blk W g1 t1 c1 → Blk W g2 t2 c2 → Blk W g3 t3 c3 → c.roundsIn F n P Q m a W) : c.roundsIn F n P Q m a w := h w hb k0 k1 k2 k3
theorem absJB4 {F : Fence} {n : Nat} {c : Code} {Q : Exit → Act → World → Prop} {m : Nat} {g0 g1 g2 g3 : Nat} {t0 t1 t2 t3 : TypeId} {c0 c1 c2 c3 : Array Value} (hb : Below w0.heap.size w0 w) (k0 : Blk w g0 t0 c0) (k1 : Blk w g1 t1 c1) (k2 : Blk w g2 t2 c2) (k3 : Blk w g3 t3 c3) (h : ∀ W, Below w0.heap.size w0 W → Blk W g0 t0 c0 → Blk W g1 t1 c1 → Blk W g2 t2 c2 → Blk W g3 t3 c3 → c.roundsIn F n P Q m a W) : c.roundsIn F n P Q m a w := h w hb k0 k1 k2 k3
theorem absTK4 {K : Act → World → Prop} {Q : Exit → Act → World → Prop} {x : Exit} {X : List Nat} {g0 g1 g2 g3 : Nat} {t0 t1 t2 t3 : TypeId} {c0 c1 c2 c3 : Array Value} (hb : BX X w0 w) (k0 : Blk w g0 t0 c0) (k1 : Blk w g1 t1 c1) (k2 : Blk w g2 t2 c2) (k3 : Blk w g3 t3 c3) (h : ∀ W, BX X w0 W → Blk W g0 t0 c0 → Blk W g1 t1 c1 → Blk W g2 t2 c2 → Blk W g3 t3 c3 → Exit.then K Q x a W) : Exit.then K Q x a w := h w hb k0 k1 k2 k3
theorem absTB4 {K : Act → World → Prop} {Q : Exit → Act → World → Prop} {x : Exit} {g0 g1 g2 g3 : Nat} {t0 t1 t2 t3 : TypeId} {c0 c1 c2 c3 : Array Value} (hb : Below w0.heap.size w0 w) (k0 : Blk w g0 t0 c0) (k1 : Blk w g1 t1 c1) (k2 : Blk w g2 t2 c2) (k3 : Blk w g3 t3 c3) (h : ∀ W, Below w0.heap.size w0 W → Blk W g0 t0 c0 → Blk W g1 t1 c1 → Blk W g2 t2 c2 → Blk W g3 t3 c3 → Exit.then K Q x a W) : Exit.then K Q x a w := h w hb k0 k1 k2 k3
theorem absPB4 {fn : Func} {R : Ending → World → Prop} {x : Exit} {g0 g1 g2 g3 : Nat} {t0 t1 t2 t3 : TypeId} {c0 c1 c2 c3 : Array Value} (hb : Below w0.heap.size w0 w) (k0 : Blk w g0 t0 c0) (k1 : Blk w g1 t1 c1) (k2 : Blk w g2 t2 c2) (k3 : Blk w g3 t3 c3) (h : ∀ W, Below w0.heap.size w0 W → Blk W g0 t0 c0 → Blk W g1 t1 c1 → Blk W g2 t2 c2 → Blk W g3 t3 c3 → bodyPost P fn R x a W) : bodyPost P fn R x a w := h w hb k0 k1 k2 k3
theorem absX5 {G : World → Prop} {g0 g1 g2 g3 g4 : Nat} {t0 t1 t2 t3 t4 : TypeId} {c0 c1 c2 c3 c4 : Array Value} (hb : Below w0.heap.size w0 w) (k0 : Blk w g0 t0 c0) (k1 : Blk w g1 t1 c1) (k2 : Blk w g2 t2 c2) (k3 : Blk w g3 t3 c3) (k4 : Blk w g4 t4 c4) (h : ∀ W, Below w0.heap.size w0 W → Blk W g0 t0 c0 → Blk W g1 t1 c1 → Blk W g2 t2 c2 → Blk W g3 t3 c3 → Blk W g4 t4 c4 → G W) : G w := h w hb k0 k1 k2 k3 k4
theorem absK5 {c : Code} {Q : Exit → Act → World → Prop} {X : List Nat} {g0 g1 g2 g3 g4 : Nat} {t0 t1 t2 t3 t4 : TypeId} {c0 c1 c2 c3 c4 : Array Value} (hb : BX X w0 w) (k0 : Blk w g0 t0 c0) (k1 : Blk w g1 t1 c1) (k2 : Blk w g2 t2 c2) (k3 : Blk w g3 t3 c3) (k4 : Blk w g4 t4 c4) (h : ∀ W, BX X w0 W → Blk W g0 t0 c0 → Blk W g1 t1 c1 → Blk W g2 t2 c2 → Blk W g3 t3 c3 → Blk W g4 t4 c4 → c.wp P Q a W) : c.wp P Q a w := h w hb k0 k1 k2 k3 k4
theorem absB5 {c : Code} {Q : Exit → Act → World → Prop} {g0 g1 g2 g3 g4 : Nat} {t0 t1 t2 t3 t4 : TypeId} {c0 c1 c2 c3 c4 : Array Value} (hb : Below w0.heap.size w0 w) (k0 : Blk w g0 t0 c0) (k1 : Blk w g1 t1 c1) (k2 : Blk w g2 t2 c2) (k3 : Blk w g3 t3 c3) (k4 : Blk w g4 t4 c4) (h : ∀ W, Below w0.heap.size w0 W → Blk W g0 t0 c0 → Blk W g1 t1 c1 → Blk W g2 t2 c2 → Blk W g3 t3 c3 → Blk W g4 t4 c4 → c.wp P Q a W) : c.wp P Q a w := h w hb k0 k1 k2 k3 k4
theorem absRK5 {c : Code} {Q : Exit → Act → World → Prop} {m : Nat} {X : List Nat} {g0 g1 g2 g3 g4 : Nat} {t0 t1 t2 t3 t4 : TypeId} {c0 c1 c2 c3 c4 : Array Value} (hb : BX X w0 w) (k0 : Blk w g0 t0 c0) (k1 : Blk w g1 t1 c1) (k2 : Blk w g2 t2 c2) (k3 : Blk w g3 t3 c3) (k4 : Blk w g4 t4 c4) (h : ∀ W, BX X w0 W → Blk W g0 t0 c0 → Blk W g1 t1 c1 → Blk W g2 t2 c2 → Blk W g3 t3 c3 → Blk W g4 t4 c4 → c.rounds P Q m a W) : c.rounds P Q m a w := h w hb k0 k1 k2 k3 k4
theorem absRB5 {c : Code} {Q : Exit → Act → World → Prop} {m : Nat} {g0 g1 g2 g3 g4 : Nat} {t0 t1 t2 t3 t4 : TypeId} {c0 c1 c2 c3 c4 : Array Value} (hb : Below w0.heap.size w0 w) (k0 : Blk w g0 t0 c0) (k1 : Blk w g1 t1 c1) (k2 : Blk w g2 t2 c2) (k3 : Blk w g3 t3 c3) (k4 : Blk w g4 t4 c4) (h : ∀ W, Below w0.heap.size w0 W → Blk W g0 t0 c0 → Blk W g1 t1 c1 → Blk W g2 t2 c2 → Blk W g3 t3 c3 → Blk W g4 t4 c4 → c.rounds P Q m a W) : c.rounds P Q m a w := h w hb k0 k1 k2 k3 k4
theorem absIK5 {F : Fence} {n : Nat} {c : Code} {Q : Exit → Act → World → Prop} {X : List Nat} {g0 g1 g2 g3 g4 : Nat} {t0 t1 t2 t3 t4 : TypeId} {c0 c1 c2 c3 c4 : Array Value} (hb : BX X w0 w) (k0 : Blk w g0 t0 c0) (k1 : Blk w g1 t1 c1) (k2 : Blk w g2 t2 c2) (k3 : Blk w g3 t3 c3) (k4 : Blk w g4 t4 c4) (h : ∀ W, BX X w0 W → Blk W g0 t0 c0 → Blk W g1 t1 c1 → Blk W g2 t2 c2 → Blk W g3 t3 c3 → Blk W g4 t4 c4 → c.wpIn F n P Q a W) : c.wpIn F n P Q a w := h w hb k0 k1 k2 k3 k4
theorem absIB5 {F : Fence} {n : Nat} {c : Code} {Q : Exit → Act → World → Prop} {g0 g1 g2 g3 g4 : Nat} {t0 t1 t2 t3 t4 : TypeId} {c0 c1 c2 c3 c4 : Array Value} (hb : Below w0.heap.size w0 w) (k0 : Blk w g0 t0 c0) (k1 : Blk w g1 t1 c1) (k2 : Blk w g2 t2 c2) (k3 : Blk w g3 t3 c3) (k4 : Blk w g4 t4 c4) (h : ∀ W, Below w0.heap.size w0 W → Blk W g0 t0 c0 → Blk W g1 t1 c1 → Blk W g2 t2 c2 → Blk W g3 t3 c3 → Blk W g4 t4 c4 → c.wpIn F n P Q a W) : c.wpIn F n P Q a w := h w hb k0 k1 k2 k3 k4
theorem absJK5 {F : Fence} {n : Nat} {c : Code} {Q : Exit → Act → World → Prop} {m : Nat} {X : List Nat} {g0 g1 g2 g3 g4 : Nat} {t0 t1 t2 t3 t4 : TypeId} {c0 c1 c2 c3 c4 : Array Value} (hb : BX X w0 w) (k0 : Blk w g0 t0 c0) (k1 : Blk w g1 t1 c1) (k2 : Blk w g2 t2 c2) (k3 : Blk w g3 t3 c3) (k4 : Blk w g4 t4 c4) (h : ∀ W, BX X w0 W → Blk W g0 t0 c0 → Blk W g1 t1 c1 → Blk W g2 t2 c2 → Blk W g3 t3 c3 → Blk W g4 t4 c4 → c.roundsIn F n P Q m a W) : c.roundsIn F n P Q m a w := h w hb k0 k1 k2 k3 k4
theorem absJB5 {F : Fence} {n : Nat} {c : Code} {Q : Exit → Act → World → Prop} {m : Nat} {g0 g1 g2 g3 g4 : Nat} {t0 t1 t2 t3 t4 : TypeId} {c0 c1 c2 c3 c4 : Array Value} (hb : Below w0.heap.size w0 w) (k0 : Blk w g0 t0 c0) (k1 : Blk w g1 t1 c1) (k2 : Blk w g2 t2 c2) (k3 : Blk w g3 t3 c3) (k4 : Blk w g4 t4 c4) (h : ∀ W, Below w0.heap.size w0 W → Blk W g0 t0 c0 → Blk W g1 t1 c1 → Blk W g2 t2 c2 → Blk W g3 t3 c3 → Blk W g4 t4 c4 → c.roundsIn F n P Q m a W) : c.roundsIn F n P Q m a w := h w hb k0 k1 k2 k3 k4
theorem absTK5 {K : Act → World → Prop} {Q : Exit → Act → World → Prop} {x : Exit} {X : List Nat} {g0 g1 g2 g3 g4 : Nat} {t0 t1 t2 t3 t4 : TypeId} {c0 c1 c2 c3 c4 : Array Value} (hb : BX X w0 w) (k0 : Blk w g0 t0 c0) (k1 : Blk w g1 t1 c1) (k2 : Blk w g2 t2 c2) (k3 : Blk w g3 t3 c3) (k4 : Blk w g4 t4 c4) (h : ∀ W, BX X w0 W → Blk W g0 t0 c0 → Blk W g1 t1 c1 → Blk W g2 t2 c2 → Blk W g3 t3 c3 → Blk W g4 t4 c4 → Exit.then K Q x a W) : Exit.then K Q x a w := h w hb k0 k1 k2 k3 k4
theorem absTB5 {K : Act → World → Prop} {Q : Exit → Act → World → Prop} {x : Exit} {g0 g1 g2 g3 g4 : Nat} {t0 t1 t2 t3 t4 : TypeId} {c0 c1 c2 c3 c4 : Array Value} (hb : Below w0.heap.size w0 w) (k0 : Blk w g0 t0 c0) (k1 : Blk w g1 t1 c1) (k2 : Blk w g2 t2 c2) (k3 : Blk w g3 t3 c3) (k4 : Blk w g4 t4 c4) (h : ∀ W, Below w0.heap.size w0 W → Blk W g0 t0 c0 → Blk W g1 t1 c1 → Blk W g2 t2 c2 → Blk W g3 t3 c3 → Blk W g4 t4 c4 → Exit.then K Q x a W) : Exit.then K Q x a w := h w hb k0 k1 k2 k3 k4
theorem absPB5 {fn : Func} {R : Ending → World → Prop} {x : Exit} {g0 g1 g2 g3 g4 : Nat} {t0 t1 t2 t3 t4 : TypeId} {c0 c1 c2 c3 c4 : Array Value} (hb : Below w0.heap.size w0 w) (k0 : Blk w g0 t0 c0) (k1 : Blk w g1 t1 c1) (k2 : Blk w g2 t2 c2) (k3 : Blk w g3 t3 c3) (k4 : Blk w g4 t4 c4) (h : ∀ W, Below w0.heap.size w0 W → Blk W g0 t0 c0 → Blk W g1 t1 c1 → Blk W g2 t2 c2 → Blk W g3 t3 c3 → Blk W g4 t4 c4 → bodyPost P fn R x a W) : bodyPost P fn R x a w := h w hb k0 k1 k2 k3 k4
theorem absX6 {G : World → Prop} {g0 g1 g2 g3 g4 g5 : Nat} {t0 t1 t2 t3 t4 t5 : TypeId} {c0 c1 c2 c3 c4 c5 : Array Value} (hb : Below w0.heap.size w0 w) (k0 : Blk w g0 t0 c0) (k1 : Blk w g1 t1 c1) (k2 : Blk w g2 t2 c2) (k3 : Blk w g3 t3 c3) (k4 : Blk w g4 t4 c4) (k5 : Blk w g5 t5 c5) (h : ∀ W, Below w0.heap.size w0 W → Blk W g0 t0 c0 → Blk W g1 t1 c1 → Blk W g2 t2 c2 → Blk W g3 t3 c3 → Blk W g4 t4 c4 → Blk W g5 t5 c5 → G W) : G w := h w hb k0 k1 k2 k3 k4 k5
theorem absK6 {c : Code} {Q : Exit → Act → World → Prop} {X : List Nat} {g0 g1 g2 g3 g4 g5 : Nat} {t0 t1 t2 t3 t4 t5 : TypeId} {c0 c1 c2 c3 c4 c5 : Array Value} (hb : BX X w0 w) (k0 : Blk w g0 t0 c0) (k1 : Blk w g1 t1 c1) (k2 : Blk w g2 t2 c2) (k3 : Blk w g3 t3 c3) (k4 : Blk w g4 t4 c4) (k5 : Blk w g5 t5 c5) (h : ∀ W, BX X w0 W → Blk W g0 t0 c0 → Blk W g1 t1 c1 → Blk W g2 t2 c2 → Blk W g3 t3 c3 → Blk W g4 t4 c4 → Blk W g5 t5 c5 → c.wp P Q a W) : c.wp P Q a w := h w hb k0 k1 k2 k3 k4 k5
theorem absB6 {c : Code} {Q : Exit → Act → World → Prop} {g0 g1 g2 g3 g4 g5 : Nat} {t0 t1 t2 t3 t4 t5 : TypeId} {c0 c1 c2 c3 c4 c5 : Array Value} (hb : Below w0.heap.size w0 w) (k0 : Blk w g0 t0 c0) (k1 : Blk w g1 t1 c1) (k2 : Blk w g2 t2 c2) (k3 : Blk w g3 t3 c3) (k4 : Blk w g4 t4 c4) (k5 : Blk w g5 t5 c5) (h : ∀ W, Below w0.heap.size w0 W → Blk W g0 t0 c0 → Blk W g1 t1 c1 → Blk W g2 t2 c2 → Blk W g3 t3 c3 → Blk W g4 t4 c4 → Blk W g5 t5 c5 → c.wp P Q a W) : c.wp P Q a w := h w hb k0 k1 k2 k3 k4 k5
theorem absRK6 {c : Code} {Q : Exit → Act → World → Prop} {m : Nat} {X : List Nat} {g0 g1 g2 g3 g4 g5 : Nat} {t0 t1 t2 t3 t4 t5 : TypeId} {c0 c1 c2 c3 c4 c5 : Array Value} (hb : BX X w0 w) (k0 : Blk w g0 t0 c0) (k1 : Blk w g1 t1 c1) (k2 : Blk w g2 t2 c2) (k3 : Blk w g3 t3 c3) (k4 : Blk w g4 t4 c4) (k5 : Blk w g5 t5 c5) (h : ∀ W, BX X w0 W → Blk W g0 t0 c0 → Blk W g1 t1 c1 → Blk W g2 t2 c2 → Blk W g3 t3 c3 → Blk W g4 t4 c4 → Blk W g5 t5 c5 → c.rounds P Q m a W) : c.rounds P Q m a w := h w hb k0 k1 k2 k3 k4 k5
theorem absRB6 {c : Code} {Q : Exit → Act → World → Prop} {m : Nat} {g0 g1 g2 g3 g4 g5 : Nat} {t0 t1 t2 t3 t4 t5 : TypeId} {c0 c1 c2 c3 c4 c5 : Array Value} (hb : Below w0.heap.size w0 w) (k0 : Blk w g0 t0 c0) (k1 : Blk w g1 t1 c1) (k2 : Blk w g2 t2 c2) (k3 : Blk w g3 t3 c3) (k4 : Blk w g4 t4 c4) (k5 : Blk w g5 t5 c5) (h : ∀ W, Below w0.heap.size w0 W → Blk W g0 t0 c0 → Blk W g1 t1 c1 → Blk W g2 t2 c2 → Blk W g3 t3 c3 → Blk W g4 t4 c4 → Blk W g5 t5 c5 → c.rounds P Q m a W) : c.rounds P Q m a w := h w hb k0 k1 k2 k3 k4 k5
theorem absIK6 {F : Fence} {n : Nat} {c : Code} {Q : Exit → Act → World → Prop} {X : List Nat} {g0 g1 g2 g3 g4 g5 : Nat} {t0 t1 t2 t3 t4 t5 : TypeId} {c0 c1 c2 c3 c4 c5 : Array Value} (hb : BX X w0 w) (k0 : Blk w g0 t0 c0) (k1 : Blk w g1 t1 c1) (k2 : Blk w g2 t2 c2) (k3 : Blk w g3 t3 c3) (k4 : Blk w g4 t4 c4) (k5 : Blk w g5 t5 c5) (h : ∀ W, BX X w0 W → Blk W g0 t0 c0 → Blk W g1 t1 c1 → Blk W g2 t2 c2 → Blk W g3 t3 c3 → Blk W g4 t4 c4 → Blk W g5 t5 c5 → c.wpIn F n P Q a W) : c.wpIn F n P Q a w := h w hb k0 k1 k2 k3 k4 k5
theorem absIB6 {F : Fence} {n : Nat} {c : Code} {Q : Exit → Act → World → Prop} {g0 g1 g2 g3 g4 g5 : Nat} {t0 t1 t2 t3 t4 t5 : TypeId} {c0 c1 c2 c3 c4 c5 : Array Value} (hb : Below w0.heap.size w0 w) (k0 : Blk w g0 t0 c0) (k1 : Blk w g1 t1 c1) (k2 : Blk w g2 t2 c2) (k3 : Blk w g3 t3 c3) (k4 : Blk w g4 t4 c4) (k5 : Blk w g5 t5 c5) (h : ∀ W, Below w0.heap.size w0 W → Blk W g0 t0 c0 → Blk W g1 t1 c1 → Blk W g2 t2 c2 → Blk W g3 t3 c3 → Blk W g4 t4 c4 → Blk W g5 t5 c5 → c.wpIn F n P Q a W) : c.wpIn F n P Q a w := h w hb k0 k1 k2 k3 k4 k5
theorem absJK6 {F : Fence} {n : Nat} {c : Code} {Q : Exit → Act → World → Prop} {m : Nat} {X : List Nat} {g0 g1 g2 g3 g4 g5 : Nat} {t0 t1 t2 t3 t4 t5 : TypeId} {c0 c1 c2 c3 c4 c5 : Array Value} (hb : BX X w0 w) (k0 : Blk w g0 t0 c0) (k1 : Blk w g1 t1 c1) (k2 : Blk w g2 t2 c2) (k3 : Blk w g3 t3 c3) (k4 : Blk w g4 t4 c4) (k5 : Blk w g5 t5 c5) (h : ∀ W, BX X w0 W → Blk W g0 t0 c0 → Blk W g1 t1 c1 → Blk W g2 t2 c2 → Blk W g3 t3 c3 → Blk W g4 t4 c4 → Blk W g5 t5 c5 → c.roundsIn F n P Q m a W) : c.roundsIn F n P Q m a w := h w hb k0 k1 k2 k3 k4 k5
theorem absJB6 {F : Fence} {n : Nat} {c : Code} {Q : Exit → Act → World → Prop} {m : Nat} {g0 g1 g2 g3 g4 g5 : Nat} {t0 t1 t2 t3 t4 t5 : TypeId} {c0 c1 c2 c3 c4 c5 : Array Value} (hb : Below w0.heap.size w0 w) (k0 : Blk w g0 t0 c0) (k1 : Blk w g1 t1 c1) (k2 : Blk w g2 t2 c2) (k3 : Blk w g3 t3 c3) (k4 : Blk w g4 t4 c4) (k5 : Blk w g5 t5 c5) (h : ∀ W, Below w0.heap.size w0 W → Blk W g0 t0 c0 → Blk W g1 t1 c1 → Blk W g2 t2 c2 → Blk W g3 t3 c3 → Blk W g4 t4 c4 → Blk W g5 t5 c5 → c.roundsIn F n P Q m a W) : c.roundsIn F n P Q m a w := h w hb k0 k1 k2 k3 k4 k5
theorem absTK6 {K : Act → World → Prop} {Q : Exit → Act → World → Prop} {x : Exit} {X : List Nat} {g0 g1 g2 g3 g4 g5 : Nat} {t0 t1 t2 t3 t4 t5 : TypeId} {c0 c1 c2 c3 c4 c5 : Array Value} (hb : BX X w0 w) (k0 : Blk w g0 t0 c0) (k1 : Blk w g1 t1 c1) (k2 : Blk w g2 t2 c2) (k3 : Blk w g3 t3 c3) (k4 : Blk w g4 t4 c4) (k5 : Blk w g5 t5 c5) (h : ∀ W, BX X w0 W → Blk W g0 t0 c0 → Blk W g1 t1 c1 → Blk W g2 t2 c2 → Blk W g3 t3 c3 → Blk W g4 t4 c4 → Blk W g5 t5 c5 → Exit.then K Q x a W) : Exit.then K Q x a w := h w hb k0 k1 k2 k3 k4 k5
theorem absTB6 {K : Act → World → Prop} {Q : Exit → Act → World → Prop} {x : Exit} {g0 g1 g2 g3 g4 g5 : Nat} {t0 t1 t2 t3 t4 t5 : TypeId} {c0 c1 c2 c3 c4 c5 : Array Value} (hb : Below w0.heap.size w0 w) (k0 : Blk w g0 t0 c0) (k1 : Blk w g1 t1 c1) (k2 : Blk w g2 t2 c2) (k3 : Blk w g3 t3 c3) (k4 : Blk w g4 t4 c4) (k5 : Blk w g5 t5 c5) (h : ∀ W, Below w0.heap.size w0 W → Blk W g0 t0 c0 → Blk W g1 t1 c1 → Blk W g2 t2 c2 → Blk W g3 t3 c3 → Blk W g4 t4 c4 → Blk W g5 t5 c5 → Exit.then K Q x a W) : Exit.then K Q x a w := h w hb k0 k1 k2 k3 k4 k5
theorem absPB6 {fn : Func} {R : Ending → World → Prop} {x : Exit} {g0 g1 g2 g3 g4 g5 : Nat} {t0 t1 t2 t3 t4 t5 : TypeId} {c0 c1 c2 c3 c4 c5 : Array Value} (hb : Below w0.heap.size w0 w) (k0 : Blk w g0 t0 c0) (k1 : Blk w g1 t1 c1) (k2 : Blk w g2 t2 c2) (k3 : Blk w g3 t3 c3) (k4 : Blk w g4 t4 c4) (k5 : Blk w g5 t5 c5) (h : ∀ W, Below w0.heap.size w0 W → Blk W g0 t0 c0 → Blk W g1 t1 c1 → Blk W g2 t2 c2 → Blk W g3 t3 c3 → Blk W g4 t4 c4 → Blk W g5 t5 c5 → bodyPost P fn R x a W) : bodyPost P fn R x a w := h w hb k0 k1 k2 k3 k4 k5
theorem absX7 {G : World → Prop} {g0 g1 g2 g3 g4 g5 g6 : Nat} {t0 t1 t2 t3 t4 t5 t6 : TypeId} {c0 c1 c2 c3 c4 c5 c6 : Array Value} (hb : Below w0.heap.size w0 w) (k0 : Blk w g0 t0 c0) (k1 : Blk w g1 t1 c1) (k2 : Blk w g2 t2 c2) (k3 : Blk w g3 t3 c3) (k4 : Blk w g4 t4 c4) (k5 : Blk w g5 t5 c5) (k6 : Blk w g6 t6 c6) (h : ∀ W, Below w0.heap.size w0 W → Blk W g0 t0 c0 → Blk W g1 t1 c1 → Blk W g2 t2 c2 → Blk W g3 t3 c3 → Blk W g4 t4 c4 → Blk W g5 t5 c5 → Blk W g6 t6 c6 → G W) : G w := h w hb k0 k1 k2 k3 k4 k5 k6
theorem absK7 {c : Code} {Q : Exit → Act → World → Prop} {X : List Nat} {g0 g1 g2 g3 g4 g5 g6 : Nat} {t0 t1 t2 t3 t4 t5 t6 : TypeId} {c0 c1 c2 c3 c4 c5 c6 : Array Value} (hb : BX X w0 w) (k0 : Blk w g0 t0 c0) (k1 : Blk w g1 t1 c1) (k2 : Blk w g2 t2 c2) (k3 : Blk w g3 t3 c3) (k4 : Blk w g4 t4 c4) (k5 : Blk w g5 t5 c5) (k6 : Blk w g6 t6 c6) (h : ∀ W, BX X w0 W → Blk W g0 t0 c0 → Blk W g1 t1 c1 → Blk W g2 t2 c2 → Blk W g3 t3 c3 → Blk W g4 t4 c4 → Blk W g5 t5 c5 → Blk W g6 t6 c6 → c.wp P Q a W) : c.wp P Q a w := h w hb k0 k1 k2 k3 k4 k5 k6
theorem absB7 {c : Code} {Q : Exit → Act → World → Prop} {g0 g1 g2 g3 g4 g5 g6 : Nat} {t0 t1 t2 t3 t4 t5 t6 : TypeId} {c0 c1 c2 c3 c4 c5 c6 : Array Value} (hb : Below w0.heap.size w0 w) (k0 : Blk w g0 t0 c0) (k1 : Blk w g1 t1 c1) (k2 : Blk w g2 t2 c2) (k3 : Blk w g3 t3 c3) (k4 : Blk w g4 t4 c4) (k5 : Blk w g5 t5 c5) (k6 : Blk w g6 t6 c6) (h : ∀ W, Below w0.heap.size w0 W → Blk W g0 t0 c0 → Blk W g1 t1 c1 → Blk W g2 t2 c2 → Blk W g3 t3 c3 → Blk W g4 t4 c4 → Blk W g5 t5 c5 → Blk W g6 t6 c6 → c.wp P Q a W) : c.wp P Q a w := h w hb k0 k1 k2 k3 k4 k5 k6
theorem absRK7 {c : Code} {Q : Exit → Act → World → Prop} {m : Nat} {X : List Nat} {g0 g1 g2 g3 g4 g5 g6 : Nat} {t0 t1 t2 t3 t4 t5 t6 : TypeId} {c0 c1 c2 c3 c4 c5 c6 : Array Value} (hb : BX X w0 w) (k0 : Blk w g0 t0 c0) (k1 : Blk w g1 t1 c1) (k2 : Blk w g2 t2 c2) (k3 : Blk w g3 t3 c3) (k4 : Blk w g4 t4 c4) (k5 : Blk w g5 t5 c5) (k6 : Blk w g6 t6 c6) (h : ∀ W, BX X w0 W → Blk W g0 t0 c0 → Blk W g1 t1 c1 → Blk W g2 t2 c2 → Blk W g3 t3 c3 → Blk W g4 t4 c4 → Blk W g5 t5 c5 → Blk W g6 t6 c6 → c.rounds P Q m a W) : c.rounds P Q m a w := h w hb k0 k1 k2 k3 k4 k5 k6
theorem absRB7 {c : Code} {Q : Exit → Act → World → Prop} {m : Nat} {g0 g1 g2 g3 g4 g5 g6 : Nat} {t0 t1 t2 t3 t4 t5 t6 : TypeId} {c0 c1 c2 c3 c4 c5 c6 : Array Value} (hb : Below w0.heap.size w0 w) (k0 : Blk w g0 t0 c0) (k1 : Blk w g1 t1 c1) (k2 : Blk w g2 t2 c2) (k3 : Blk w g3 t3 c3) (k4 : Blk w g4 t4 c4) (k5 : Blk w g5 t5 c5) (k6 : Blk w g6 t6 c6) (h : ∀ W, Below w0.heap.size w0 W → Blk W g0 t0 c0 → Blk W g1 t1 c1 → Blk W g2 t2 c2 → Blk W g3 t3 c3 → Blk W g4 t4 c4 → Blk W g5 t5 c5 → Blk W g6 t6 c6 → c.rounds P Q m a W) : c.rounds P Q m a w := h w hb k0 k1 k2 k3 k4 k5 k6
theorem absIK7 {F : Fence} {n : Nat} {c : Code} {Q : Exit → Act → World → Prop} {X : List Nat} {g0 g1 g2 g3 g4 g5 g6 : Nat} {t0 t1 t2 t3 t4 t5 t6 : TypeId} {c0 c1 c2 c3 c4 c5 c6 : Array Value} (hb : BX X w0 w) (k0 : Blk w g0 t0 c0) (k1 : Blk w g1 t1 c1) (k2 : Blk w g2 t2 c2) (k3 : Blk w g3 t3 c3) (k4 : Blk w g4 t4 c4) (k5 : Blk w g5 t5 c5) (k6 : Blk w g6 t6 c6) (h : ∀ W, BX X w0 W → Blk W g0 t0 c0 → Blk W g1 t1 c1 → Blk W g2 t2 c2 → Blk W g3 t3 c3 → Blk W g4 t4 c4 → Blk W g5 t5 c5 → Blk W g6 t6 c6 → c.wpIn F n P Q a W) : c.wpIn F n P Q a w := h w hb k0 k1 k2 k3 k4 k5 k6
theorem absIB7 {F : Fence} {n : Nat} {c : Code} {Q : Exit → Act → World → Prop} {g0 g1 g2 g3 g4 g5 g6 : Nat} {t0 t1 t2 t3 t4 t5 t6 : TypeId} {c0 c1 c2 c3 c4 c5 c6 : Array Value} (hb : Below w0.heap.size w0 w) (k0 : Blk w g0 t0 c0) (k1 : Blk w g1 t1 c1) (k2 : Blk w g2 t2 c2) (k3 : Blk w g3 t3 c3) (k4 : Blk w g4 t4 c4) (k5 : Blk w g5 t5 c5) (k6 : Blk w g6 t6 c6) (h : ∀ W, Below w0.heap.size w0 W → Blk W g0 t0 c0 → Blk W g1 t1 c1 → Blk W g2 t2 c2 → Blk W g3 t3 c3 → Blk W g4 t4 c4 → Blk W g5 t5 c5 → Blk W g6 t6 c6 → c.wpIn F n P Q a W) : c.wpIn F n P Q a w := h w hb k0 k1 k2 k3 k4 k5 k6
theorem absJK7 {F : Fence} {n : Nat} {c : Code} {Q : Exit → Act → World → Prop} {m : Nat} {X : List Nat} {g0 g1 g2 g3 g4 g5 g6 : Nat} {t0 t1 t2 t3 t4 t5 t6 : TypeId} {c0 c1 c2 c3 c4 c5 c6 : Array Value} (hb : BX X w0 w) (k0 : Blk w g0 t0 c0) (k1 : Blk w g1 t1 c1) (k2 : Blk w g2 t2 c2) (k3 : Blk w g3 t3 c3) (k4 : Blk w g4 t4 c4) (k5 : Blk w g5 t5 c5) (k6 : Blk w g6 t6 c6) (h : ∀ W, BX X w0 W → Blk W g0 t0 c0 → Blk W g1 t1 c1 → Blk W g2 t2 c2 → Blk W g3 t3 c3 → Blk W g4 t4 c4 → Blk W g5 t5 c5 → Blk W g6 t6 c6 → c.roundsIn F n P Q m a W) : c.roundsIn F n P Q m a w := h w hb k0 k1 k2 k3 k4 k5 k6
theorem absJB7 {F : Fence} {n : Nat} {c : Code} {Q : Exit → Act → World → Prop} {m : Nat} {g0 g1 g2 g3 g4 g5 g6 : Nat} {t0 t1 t2 t3 t4 t5 t6 : TypeId} {c0 c1 c2 c3 c4 c5 c6 : Array Value} (hb : Below w0.heap.size w0 w) (k0 : Blk w g0 t0 c0) (k1 : Blk w g1 t1 c1) (k2 : Blk w g2 t2 c2) (k3 : Blk w g3 t3 c3) (k4 : Blk w g4 t4 c4) (k5 : Blk w g5 t5 c5) (k6 : Blk w g6 t6 c6) (h : ∀ W, Below w0.heap.size w0 W → Blk W g0 t0 c0 → Blk W g1 t1 c1 → Blk W g2 t2 c2 → Blk W g3 t3 c3 → Blk W g4 t4 c4 → Blk W g5 t5 c5 → Blk W g6 t6 c6 → c.roundsIn F n P Q m a W) : c.roundsIn F n P Q m a w := h w hb k0 k1 k2 k3 k4 k5 k6
theorem absTK7 {K : Act → World → Prop} {Q : Exit → Act → World → Prop} {x : Exit} {X : List Nat} {g0 g1 g2 g3 g4 g5 g6 : Nat} {t0 t1 t2 t3 t4 t5 t6 : TypeId} {c0 c1 c2 c3 c4 c5 c6 : Array Value} (hb : BX X w0 w) (k0 : Blk w g0 t0 c0) (k1 : Blk w g1 t1 c1) (k2 : Blk w g2 t2 c2) (k3 : Blk w g3 t3 c3) (k4 : Blk w g4 t4 c4) (k5 : Blk w g5 t5 c5) (k6 : Blk w g6 t6 c6) (h : ∀ W, BX X w0 W → Blk W g0 t0 c0 → Blk W g1 t1 c1 → Blk W g2 t2 c2 → Blk W g3 t3 c3 → Blk W g4 t4 c4 → Blk W g5 t5 c5 → Blk W g6 t6 c6 → Exit.then K Q x a W) : Exit.then K Q x a w := h w hb k0 k1 k2 k3 k4 k5 k6
theorem absTB7 {K : Act → World → Prop} {Q : Exit → Act → World → Prop} {x : Exit} {g0 g1 g2 g3 g4 g5 g6 : Nat} {t0 t1 t2 t3 t4 t5 t6 : TypeId} {c0 c1 c2 c3 c4 c5 c6 : Array Value} (hb : Below w0.heap.size w0 w) (k0 : Blk w g0 t0 c0) (k1 : Blk w g1 t1 c1) (k2 : Blk w g2 t2 c2) (k3 : Blk w g3 t3 c3) (k4 : Blk w g4 t4 c4) (k5 : Blk w g5 t5 c5) (k6 : Blk w g6 t6 c6) (h : ∀ W, Below w0.heap.size w0 W → Blk W g0 t0 c0 → Blk W g1 t1 c1 → Blk W g2 t2 c2 → Blk W g3 t3 c3 → Blk W g4 t4 c4 → Blk W g5 t5 c5 → Blk W g6 t6 c6 → Exit.then K Q x a W) : Exit.then K Q x a w := h w hb k0 k1 k2 k3 k4 k5 k6
theorem absPB7 {fn : Func} {R : Ending → World → Prop} {x : Exit} {g0 g1 g2 g3 g4 g5 g6 : Nat} {t0 t1 t2 t3 t4 t5 t6 : TypeId} {c0 c1 c2 c3 c4 c5 c6 : Array Value} (hb : Below w0.heap.size w0 w) (k0 : Blk w g0 t0 c0) (k1 : Blk w g1 t1 c1) (k2 : Blk w g2 t2 c2) (k3 : Blk w g3 t3 c3) (k4 : Blk w g4 t4 c4) (k5 : Blk w g5 t5 c5) (k6 : Blk w g6 t6 c6) (h : ∀ W, Below w0.heap.size w0 W → Blk W g0 t0 c0 → Blk W g1 t1 c1 → Blk W g2 t2 c2 → Blk W g3 t3 c3 → Blk W g4 t4 c4 → Blk W g5 t5 c5 → Blk W g6 t6 c6 → bodyPost P fn R x a W) : bodyPost P fn R x a w := h w hb k0 k1 k2 k3 k4 k5 k6
theorem absX8 {G : World → Prop} {g0 g1 g2 g3 g4 g5 g6 g7 : Nat} {t0 t1 t2 t3 t4 t5 t6 t7 : TypeId} {c0 c1 c2 c3 c4 c5 c6 c7 : Array Value} (hb : Below w0.heap.size w0 w) (k0 : Blk w g0 t0 c0) (k1 : Blk w g1 t1 c1) (k2 : Blk w g2 t2 c2) (k3 : Blk w g3 t3 c3) (k4 : Blk w g4 t4 c4) (k5 : Blk w g5 t5 c5) (k6 : Blk w g6 t6 c6) (k7 : Blk w g7 t7 c7) (h : ∀ W, Below w0.heap.size w0 W → Blk W g0 t0 c0 → Blk W g1 t1 c1 → Blk W g2 t2 c2 → Blk W g3 t3 c3 → Blk W g4 t4 c4 → Blk W g5 t5 c5 → Blk W g6 t6 c6 → Blk W g7 t7 c7 → G W) : G w := h w hb k0 k1 k2 k3 k4 k5 k6 k7
theorem absK8 {c : Code} {Q : Exit → Act → World → Prop} {X : List Nat} {g0 g1 g2 g3 g4 g5 g6 g7 : Nat} {t0 t1 t2 t3 t4 t5 t6 t7 : TypeId} {c0 c1 c2 c3 c4 c5 c6 c7 : Array Value} (hb : BX X w0 w) (k0 : Blk w g0 t0 c0) (k1 : Blk w g1 t1 c1) (k2 : Blk w g2 t2 c2) (k3 : Blk w g3 t3 c3) (k4 : Blk w g4 t4 c4) (k5 : Blk w g5 t5 c5) (k6 : Blk w g6 t6 c6) (k7 : Blk w g7 t7 c7) (h : ∀ W, BX X w0 W → Blk W g0 t0 c0 → Blk W g1 t1 c1 → Blk W g2 t2 c2 → Blk W g3 t3 c3 → Blk W g4 t4 c4 → Blk W g5 t5 c5 → Blk W g6 t6 c6 → Blk W g7 t7 c7 → c.wp P Q a W) : c.wp P Q a w := h w hb k0 k1 k2 k3 k4 k5 k6 k7
theorem absB8 {c : Code} {Q : Exit → Act → World → Prop} {g0 g1 g2 g3 g4 g5 g6 g7 : Nat} {t0 t1 t2 t3 t4 t5 t6 t7 : TypeId} {c0 c1 c2 c3 c4 c5 c6 c7 : Array Value} (hb : Below w0.heap.size w0 w) (k0 : Blk w g0 t0 c0) (k1 : Blk w g1 t1 c1) (k2 : Blk w g2 t2 c2) (k3 : Blk w g3 t3 c3) (k4 : Blk w g4 t4 c4) (k5 : Blk w g5 t5 c5) (k6 : Blk w g6 t6 c6) (k7 : Blk w g7 t7 c7) (h : ∀ W, Below w0.heap.size w0 W → Blk W g0 t0 c0 → Blk W g1 t1 c1 → Blk W g2 t2 c2 → Blk W g3 t3 c3 → Blk W g4 t4 c4 → Blk W g5 t5 c5 → Blk W g6 t6 c6 → Blk W g7 t7 c7 → c.wp P Q a W) : c.wp P Q a w := h w hb k0 k1 k2 k3 k4 k5 k6 k7
theorem absRK8 {c : Code} {Q : Exit → Act → World → Prop} {m : Nat} {X : List Nat} {g0 g1 g2 g3 g4 g5 g6 g7 : Nat} {t0 t1 t2 t3 t4 t5 t6 t7 : TypeId} {c0 c1 c2 c3 c4 c5 c6 c7 : Array Value} (hb : BX X w0 w) (k0 : Blk w g0 t0 c0) (k1 : Blk w g1 t1 c1) (k2 : Blk w g2 t2 c2) (k3 : Blk w g3 t3 c3) (k4 : Blk w g4 t4 c4) (k5 : Blk w g5 t5 c5) (k6 : Blk w g6 t6 c6) (k7 : Blk w g7 t7 c7) (h : ∀ W, BX X w0 W → Blk W g0 t0 c0 → Blk W g1 t1 c1 → Blk W g2 t2 c2 → Blk W g3 t3 c3 → Blk W g4 t4 c4 → Blk W g5 t5 c5 → Blk W g6 t6 c6 → Blk W g7 t7 c7 → c.rounds P Q m a W) : c.rounds P Q m a w := h w hb k0 k1 k2 k3 k4 k5 k6 k7
theorem absRB8 {c : Code} {Q : Exit → Act → World → Prop} {m : Nat} {g0 g1 g2 g3 g4 g5 g6 g7 : Nat} {t0 t1 t2 t3 t4 t5 t6 t7 : TypeId} {c0 c1 c2 c3 c4 c5 c6 c7 : Array Value} (hb : Below w0.heap.size w0 w) (k0 : Blk w g0 t0 c0) (k1 : Blk w g1 t1 c1) (k2 : Blk w g2 t2 c2) (k3 : Blk w g3 t3 c3) (k4 : Blk w g4 t4 c4) (k5 : Blk w g5 t5 c5) (k6 : Blk w g6 t6 c6) (k7 : Blk w g7 t7 c7) (h : ∀ W, Below w0.heap.size w0 W → Blk W g0 t0 c0 → Blk W g1 t1 c1 → Blk W g2 t2 c2 → Blk W g3 t3 c3 → Blk W g4 t4 c4 → Blk W g5 t5 c5 → Blk W g6 t6 c6 → Blk W g7 t7 c7 → c.rounds P Q m a W) : c.rounds P Q m a w := h w hb k0 k1 k2 k3 k4 k5 k6 k7
theorem absIK8 {F : Fence} {n : Nat} {c : Code} {Q : Exit → Act → World → Prop} {X : List Nat} {g0 g1 g2 g3 g4 g5 g6 g7 : Nat} {t0 t1 t2 t3 t4 t5 t6 t7 : TypeId} {c0 c1 c2 c3 c4 c5 c6 c7 : Array Value} (hb : BX X w0 w) (k0 : Blk w g0 t0 c0) (k1 : Blk w g1 t1 c1) (k2 : Blk w g2 t2 c2) (k3 : Blk w g3 t3 c3) (k4 : Blk w g4 t4 c4) (k5 : Blk w g5 t5 c5) (k6 : Blk w g6 t6 c6) (k7 : Blk w g7 t7 c7) (h : ∀ W, BX X w0 W → Blk W g0 t0 c0 → Blk W g1 t1 c1 → Blk W g2 t2 c2 → Blk W g3 t3 c3 → Blk W g4 t4 c4 → Blk W g5 t5 c5 → Blk W g6 t6 c6 → Blk W g7 t7 c7 → c.wpIn F n P Q a W) : c.wpIn F n P Q a w := h w hb k0 k1 k2 k3 k4 k5 k6 k7
theorem absIB8 {F : Fence} {n : Nat} {c : Code} {Q : Exit → Act → World → Prop} {g0 g1 g2 g3 g4 g5 g6 g7 : Nat} {t0 t1 t2 t3 t4 t5 t6 t7 : TypeId} {c0 c1 c2 c3 c4 c5 c6 c7 : Array Value} (hb : Below w0.heap.size w0 w) (k0 : Blk w g0 t0 c0) (k1 : Blk w g1 t1 c1) (k2 : Blk w g2 t2 c2) (k3 : Blk w g3 t3 c3) (k4 : Blk w g4 t4 c4) (k5 : Blk w g5 t5 c5) (k6 : Blk w g6 t6 c6) (k7 : Blk w g7 t7 c7) (h : ∀ W, Below w0.heap.size w0 W → Blk W g0 t0 c0 → Blk W g1 t1 c1 → Blk W g2 t2 c2 → Blk W g3 t3 c3 → Blk W g4 t4 c4 → Blk W g5 t5 c5 → Blk W g6 t6 c6 → Blk W g7 t7 c7 → c.wpIn F n P Q a W) : c.wpIn F n P Q a w := h w hb k0 k1 k2 k3 k4 k5 k6 k7
theorem absJK8 {F : Fence} {n : Nat} {c : Code} {Q : Exit → Act → World → Prop} {m : Nat} {X : List Nat} {g0 g1 g2 g3 g4 g5 g6 g7 : Nat} {t0 t1 t2 t3 t4 t5 t6 t7 : TypeId} {c0 c1 c2 c3 c4 c5 c6 c7 : Array Value} (hb : BX X w0 w) (k0 : Blk w g0 t0 c0) (k1 : Blk w g1 t1 c1) (k2 : Blk w g2 t2 c2) (k3 : Blk w g3 t3 c3) (k4 : Blk w g4 t4 c4) (k5 : Blk w g5 t5 c5) (k6 : Blk w g6 t6 c6) (k7 : Blk w g7 t7 c7) (h : ∀ W, BX X w0 W → Blk W g0 t0 c0 → Blk W g1 t1 c1 → Blk W g2 t2 c2 → Blk W g3 t3 c3 → Blk W g4 t4 c4 → Blk W g5 t5 c5 → Blk W g6 t6 c6 → Blk W g7 t7 c7 → c.roundsIn F n P Q m a W) : c.roundsIn F n P Q m a w := h w hb k0 k1 k2 k3 k4 k5 k6 k7
theorem absJB8 {F : Fence} {n : Nat} {c : Code} {Q : Exit → Act → World → Prop} {m : Nat} {g0 g1 g2 g3 g4 g5 g6 g7 : Nat} {t0 t1 t2 t3 t4 t5 t6 t7 : TypeId} {c0 c1 c2 c3 c4 c5 c6 c7 : Array Value} (hb : Below w0.heap.size w0 w) (k0 : Blk w g0 t0 c0) (k1 : Blk w g1 t1 c1) (k2 : Blk w g2 t2 c2) (k3 : Blk w g3 t3 c3) (k4 : Blk w g4 t4 c4) (k5 : Blk w g5 t5 c5) (k6 : Blk w g6 t6 c6) (k7 : Blk w g7 t7 c7) (h : ∀ W, Below w0.heap.size w0 W → Blk W g0 t0 c0 → Blk W g1 t1 c1 → Blk W g2 t2 c2 → Blk W g3 t3 c3 → Blk W g4 t4 c4 → Blk W g5 t5 c5 → Blk W g6 t6 c6 → Blk W g7 t7 c7 → c.roundsIn F n P Q m a W) : c.roundsIn F n P Q m a w := h w hb k0 k1 k2 k3 k4 k5 k6 k7
theorem absTK8 {K : Act → World → Prop} {Q : Exit → Act → World → Prop} {x : Exit} {X : List Nat} {g0 g1 g2 g3 g4 g5 g6 g7 : Nat} {t0 t1 t2 t3 t4 t5 t6 t7 : TypeId} {c0 c1 c2 c3 c4 c5 c6 c7 : Array Value} (hb : BX X w0 w) (k0 : Blk w g0 t0 c0) (k1 : Blk w g1 t1 c1) (k2 : Blk w g2 t2 c2) (k3 : Blk w g3 t3 c3) (k4 : Blk w g4 t4 c4) (k5 : Blk w g5 t5 c5) (k6 : Blk w g6 t6 c6) (k7 : Blk w g7 t7 c7) (h : ∀ W, BX X w0 W → Blk W g0 t0 c0 → Blk W g1 t1 c1 → Blk W g2 t2 c2 → Blk W g3 t3 c3 → Blk W g4 t4 c4 → Blk W g5 t5 c5 → Blk W g6 t6 c6 → Blk W g7 t7 c7 → Exit.then K Q x a W) : Exit.then K Q x a w := h w hb k0 k1 k2 k3 k4 k5 k6 k7
theorem absTB8 {K : Act → World → Prop} {Q : Exit → Act → World → Prop} {x : Exit} {g0 g1 g2 g3 g4 g5 g6 g7 : Nat} {t0 t1 t2 t3 t4 t5 t6 t7 : TypeId} {c0 c1 c2 c3 c4 c5 c6 c7 : Array Value} (hb : Below w0.heap.size w0 w) (k0 : Blk w g0 t0 c0) (k1 : Blk w g1 t1 c1) (k2 : Blk w g2 t2 c2) (k3 : Blk w g3 t3 c3) (k4 : Blk w g4 t4 c4) (k5 : Blk w g5 t5 c5) (k6 : Blk w g6 t6 c6) (k7 : Blk w g7 t7 c7) (h : ∀ W, Below w0.heap.size w0 W → Blk W g0 t0 c0 → Blk W g1 t1 c1 → Blk W g2 t2 c2 → Blk W g3 t3 c3 → Blk W g4 t4 c4 → Blk W g5 t5 c5 → Blk W g6 t6 c6 → Blk W g7 t7 c7 → Exit.then K Q x a W) : Exit.then K Q x a w := h w hb k0 k1 k2 k3 k4 k5 k6 k7
theorem absPB8 {fn : Func} {R : Ending → World → Prop} {x : Exit} {g0 g1 g2 g3 g4 g5 g6 g7 : Nat} {t0 t1 t2 t3 t4 t5 t6 t7 : TypeId} {c0 c1 c2 c3 c4 c5 c6 c7 : Array Value} (hb : Below w0.heap.size w0 w) (k0 : Blk w g0 t0 c0) (k1 : Blk w g1 t1 c1) (k2 : Blk w g2 t2 c2) (k3 : Blk w g3 t3 c3) (k4 : Blk w g4 t4 c4) (k5 : Blk w g5 t5 c5) (k6 : Blk w g6 t6 c6) (k7 : Blk w g7 t7 c7) (h : ∀ W, Below w0.heap.size w0 W → Blk W g0 t0 c0 → Blk W g1 t1 c1 → Blk W g2 t2 c2 → Blk W g3 t3 c3 → Blk W g4 t4 c4 → Blk W g5 t5 c5 → Blk W g6 t6 c6 → Blk W g7 t7 c7 → bodyPost P fn R x a W) : bodyPost P fn R x a w := h w hb k0 k1 k2 k3 k4 k5 k6 k7
theorem pauseReg {Q : Exit → Act → World → Prop} (id : Nat) {ops : Array Oper} {b : Bool} (h : Hid ((Code.region id ops b).wp P Q a w)) : (Code.region id ops b).wp P Q a w := h.out
theorem pauseSeq {Q : Exit → Act → World → Prop} (id : Nat) {ops : Array Oper} {b : Bool} {y : Code} (h : Hid (((Code.region id ops b).seq y).wp P Q a w)) : ((Code.region id ops b).seq y).wp P Q a w := h.out
theorem pauseSeq2 {Q : Exit → Act → World → Prop} (id : Nat) {ops : Array Oper} {b : Bool} {y z : Code} (h : Hid ((((Code.region id ops b).seq y).seq z).wp P Q a w)) : (((Code.region id ops b).seq y).seq z).wp P Q a w := h.out
theorem pauseSeq3 {Q : Exit → Act → World → Prop} (id : Nat) {ops : Array Oper} {b : Bool} {y z u : Code} (h : Hid (((((Code.region id ops b).seq y).seq z).seq u).wp P Q a w)) : ((((Code.region id ops b).seq y).seq z).seq u).wp P Q a w := h.out
/-- Blocks that are new since w0. -/
def frX (w0 : World) (L : List Nat) : List Nat := L.filter fun x => decide (w0.heap.size ≤ x)
theorem frX_eq {w0 : World} {L : List Nat} (h : ∀ x ∈ L, w0.heap.size ≤ x) : frX w0 L = L := List.filter_eq_self.2 fun x hx => by simpa using h x hx
theorem bx_fresh {w0 A B : World} {L : List Nat} (h : BX (frX w0 L) A B) (hb : Below w0.heap.size w0 A) : Below w0.heap.size w0 B :=
  ⟨h.os.trans hb.os, h.tape.trans hb.tape, h.output.trans hb.output, Nat.le_trans hb.size h.size, fun k hk => (h.block k (Nat.lt_of_lt_of_le hk hb.size) (fun e => by
    have := (List.mem_filter.1 e).2
    simp at this
    omega)).trans (hb.block k hk)⟩
end
end Go.Proofs.YtephimmamkafoaaGreat
namespace Go.Proofs.YtephimmamkafoaaGreat
set_option linter.unusedSimpArgs false
set_option linter.unusedVariables false
open Go.RowKit
/-- The region's only way out is its end. -/
def Only (Q : Exit → Act → World → Prop) : Exit → Act → World → Prop
  | .normal, a, w => Q .normal a w
  | _, _, _ => False
theorem Only.imp {Q : Exit → Act → World → Prop} : ∀ (e : Exit) (a : Act) (w : World), NoPanic (Only Q) e a w → Q e a w := fun e a w h => by
  cases e <;> first | exact h | exact (h : False).elim
theorem only_done {Q : Exit → Act → World → Prop} {a : Act} {w : World} (h : Q .normal a w) : Only Q .normal a w := h
theorem only_shut {Q : Exit → Act → World → Prop} : ¬ LetsOut (NoPanic (Only Q)) := fun ⟨_, _, h⟩ => h
def noDefer (ops : Array Oper) : Bool := ops.all fun o => match o.op with | .defer _ => false | _ => true
theorem noDefer_at {ops : Array Oper} (h : noDefer ops = true) {i : Nat} {o : Oper} (ho : ops[i]? = some o) : ∀ c, o.op ≠ .defer c := fun c hc => by
  have hm := Array.mem_of_getElem? ho
  have := Array.all_eq_true'.1 h o hm
  rw [hc] at this
  cases this
theorem bx_cell0 {X : List Nat} {w0 w : World} {g : Nat} {t : TypeId} {old : Value} (hb : BX X w0 w) (hk : Blk w0 g t #[old]) (hg : g ∈ X) : ∃ c, w.cell? ⟨g, 0, none⟩ = some c ∧ w.frozen? ⟨g, 0, none⟩ = false := by
  obtain ⟨cs, h1, h2⟩ := hb.shape g hg t _ hk
  refine ⟨cs.getD 0 undef, ?_, h1.frozen 0⟩
  rw [h1.cell 0]
  have : 0 < cs.size := by rw [h2]; simp
  simp [this]
section
variable {P : Program} {ops : Array Oper} {Q : Exit → Act → World → Prop} {n l : Nat}
theorem opIn_of_wp {o : Oper} {a : Act} {w : World} {K : Act → World → Prop} (hd : ∀ c, o.op ≠ .defer c) (h : o.wp P a w K Q) : o.wpIn (Fence.wide.inRound l) n P a w K Q := by
  unfold Oper.wpIn
  refine ⟨fun _ _ => trivial, ?_⟩
  rw [Fence.inRound_round, Oper.semAt_some l _ _ hd]
  unfold Oper.wp at h
  generalize (execOp a.eval o).run P w = r at *
  cases r with
  | ok x w' =>
    cases x <;> simp only [Oper.upon, Oper.uponIn] at h ⊢
    case value => exact h
    case skip => exact h
    case defer => exact h
    case enter => exact ⟨fun hd => (by simp [Fence.wide] at hd), CallsIn.inRound l (callsIn_wide.2 h)⟩
    case row => exact ⟨fun hd => (by simp [Fence.wide] at hd), fun c cs _ => let ⟨v, w', r, s⟩ := h c cs; ⟨v, w', r, stepsIn_wide.2 s⟩⟩
  | halt x w' => cases x <;> simp only [Oper.upon, Oper.uponIn] at h ⊢ <;> exact h
theorem wpOpIn_of {i : Nat} {a : Act} {w : World} {K : Act → World → Prop} (hd : noDefer ops = true) (hQ : ¬ LetsOut Q) (h : wpOp P ops Q i K a w) : wpOpIn (Fence.wide.inRound l) n P ops Q i K a w := by
  unfold wpOp at h
  unfold wpOpIn
  cases ho : ops[i]? with
  | none => simpa [ho] using h
  | some o =>
    simp only [ho] at h ⊢
    split
    · rename_i hw
      rw [if_pos hw] at h
      rcases h with h | ⟨_, h⟩
      · exact opIn_of_wp (noDefer_at hd ho) h
      · exact (hQ h).elim
    · rename_i hw
      rw [if_neg hw] at h
      exact ⟨fun _ _ => trivial, h⟩
theorem wpAnyIn_of {md : Region.Mode} (hd : noDefer ops = true) (hQ : ¬ LetsOut Q) : ∀ (fuel : Nat) (listed : Array Bool) (a : Act) (w : World),
    wpAny P md ops Q fuel listed a w → wpAnyIn (Fence.wide.inRound l) n P md ops Q fuel listed a w
  | 0, _, _, _, h => h
  | fuel + 1, listed, a, w, h => ⟨h.1, fun i hi => wpOpIn_of hd hQ (wpOp_mono (fun a' w' h' => wpAnyIn_of hd hQ fuel _ a' w' h') (h.2 i hi))⟩
end
/-- The walk of a region in whatever order, in a round. -/
theorem wpIn_any {P : Program} {Q : Exit → Act → World → Prop} {n ln id : Nat} {a0 : Act} {w w0 : World} {l : List Oper} {A : (Nat → Value) → Act} (p : Parts) (X : (Nat → Gh) → List Nat) (hm : P.follows .mixedOrders = true)
    (hd : noDefer l.toArray = true) (hB : anyOk l.toArray p = true) (hb : Below w0.heap.size w0 w.drew) (hA : ∀ u, putD a0 p.ds 0 u = A u) (h : RGW P l.toArray (NoPanic (Only Q)) w0 A X p l.toArray.size []) :
    (Code.region id l.toArray true).wpIn (Fence.wide.inRound ln) n P Q a0 w :=
  Code.wpIn_mono Only.imp (wpIn_region_any hm (wpAnyIn_of hd only_shut _ _ _ _ (wpAny_rg p X hB hb hA h)))
end Go.Proofs.YtephimmamkafoaaGreat
namespace Go.Proofs.YtephimmamkafoaaGreat
set_option linter.unusedSimpArgs false
set_option linter.unusedVariables false
open Go.RowKit
/-- Since A all cells lie as they lay, and whatever lay below D. -/
structure CK (D : Nat) (A B : World) : Prop where
  os : B.os = A.os
  tape : B.tape = A.tape
  output : B.output = A.output
  size : A.heap.size ≤ B.heap.size
  keep : ∀ k o, A.heap[k]? = some o → (k < D ∨ o.isCells = true) → B.heap[k]? = some o
theorem CK.of_below {D : Nat} {A B : World} (h : Below A.heap.size A B) : CK D A B :=
  ⟨h.os, h.tape, h.output, h.size, fun k _ hk _ => (h.block k (Array.getElem?_eq_some_iff.1 hk).1).trans hk⟩
theorem CK.put {D r : Nat} {A : World} {o : Obj} (o' : Obj) (h : A.heap[r]? = some o) (hc : o.isCells = false) (hr : D ≤ r) : CK D A (A.putObj r o') :=
  ⟨rfl, rfl, rfl, by simp, fun k u hk hu => by
    by_cases e : k = r
    · subst e
      rw [h] at hk; cases hk
      rcases hu with hu | hu
      · omega
      · rw [hc] at hu; cases hu
    · exact (World.putObj_heap_other e).trans hk⟩
theorem CK.blk {D g : Nat} {A B : World} {t : TypeId} {cs : Array Value} (h : CK D A B) (hk : Blk A g t cs) : Blk B g t cs := h.keep g _ hk (.inr rfl)
theorem CK.belowOf {D : Nat} {w A B : World} (hD : w.heap.size ≤ D) (h : CK D A B) (hb : Below w.heap.size w A) : Below w.heap.size w B :=
  ⟨h.os.trans hb.os, h.tape.trans hb.tape, h.output.trans hb.output, Nat.le_trans hb.size h.size, fun k hk => by
    have hk' : k < A.heap.size := Nat.lt_of_lt_of_le hk hb.size
    have := h.keep k A.heap[k] (Array.getElem?_eq_getElem hk') (.inl (by omega))
    rw [this, ← Array.getElem?_eq_getElem hk', hb.block k hk]⟩
theorem BX.trans {X : List Nat} {a b c : World} (h : BX X a b) (k : BX X b c) : BX X a c :=
  ⟨k.os.trans h.os, k.tape.trans h.tape, k.output.trans h.output, Nat.le_trans h.size k.size, fun i hi hX => (k.block i (Nat.lt_of_lt_of_le hi h.size) hX).trans (h.block i hi hX),
   fun g hg t cs hk => by obtain ⟨c1, h1, h2⟩ := h.shape g hg t cs hk; obtain ⟨c2, h3, h4⟩ := k.shape g hg t c1 h1; exact ⟨c2, h3, h4.trans h2⟩⟩
theorem BX.wider {X : List Nat} {a b : World} (r : Nat) (h : BX X a b) : BX (r :: X) a b :=
  ⟨h.os, h.tape, h.output, h.size, fun i hi hX => h.block i hi (fun e => hX (List.mem_cons_of_mem _ e)), fun g hg t cs hk => by
    by_cases e : g ∈ X
    · exact h.shape g e t cs hk
    · exact ⟨cs, (h.block g (Array.getElem?_eq_some_iff.1 hk).1 e).trans hk, rfl⟩⟩
theorem BX.drop {X : List Nat} {a b : World} {r : Nat} (h : BX (r :: X) a b) (e : b.heap[r]? = a.heap[r]?) : BX X a b :=
  ⟨h.os, h.tape, h.output, h.size, fun i hi hX => by
    by_cases e' : i = r
    · rw [e', e]
    · exact h.block i hi (by simp [e', hX]), fun g hg => h.shape g (List.mem_cons_of_mem _ hg)⟩
theorem bx_loop {X : List Nat} {A : World} {r : Nat} {q : Loop} (q' : Loop) (h : A.heap[r]? = some (.loop q)) : BX (r :: X) A (A.putObj r (.loop q')) :=
  ⟨rfl, rfl, rfl, by simp, fun i _ hX => World.putObj_heap_other (fun e => hX (by simp [e])), fun g _ t cs hk => by
    refine ⟨cs, ?_, rfl⟩
    have : g ≠ r := fun e => by subst e; unfold Blk at hk; rw [h] at hk; cases hk
    exact (World.putObj_heap_other this).trans hk⟩
def Goes {α : Type} (X : List Nat) (I : List α → World → Prop) (xs : List α) (W : World) : Exit → Act → World → Prop
  | .normal, _, W' => BX X W W' ∧ I xs W'
  | _, _, _ => False
/-- What an iterator promises: it yields the members of xs, in their order. -/
def Iter (P : Program) {α : Type} (m : Nat) (gf : Nat) (rb : Array Value) (encs : α → Array Value) (xs : List α) : Prop :=
  ∀ (l : Nat) (X : List Nat) (J : List α → World → Prop) (W : World), (∀ x ∈ X, x < W.heap.size) → (∀ s A B, J s A → Below A.heap.size A B → J s B) →
    (∀ pre x W1, J pre W1 → pre ++ [x] <+: xs → YieldAt Fence.wide (m - 1) P l (encs x) W1 fun e W' => e = .returned (.bool true) ∧ J (pre ++ [x]) W' ∧ BX X W1 W') →
    J [] W → CallsIn Fence.wide m P gf (rb ++ #[.func (.yield l) #[] #[]]) W fun e W' => (∃ v, e = .returned v) ∧ J xs W'
theorem wp_range {P : Program} {α : Type} {g : Operand} {ps : Array Tmp} {assign body : Code} {Q : Exit → Act → World → Prop} {a : Act} {w : World} {gf : Nat} {rb : Array Value}
    (hg : a.eval g = .func (.func gf) rb #[]) (eg : ∀ args w, (callFunc gf args).run P w = .ok (.enter gf args) w) {encs : α → Array Value} {xs : List α}
    (hseq : Iter P 5 gf rb encs xs) (hps : ∀ x, (encs x).size = ps.size) (X : List Nat) (hX : ∀ x ∈ X, x < w.heap.size)
    (I : List α → World → Prop) (hI : ∀ s A B, I s A → CK w.heap.size A B → I s B)
    (h0 : I [] w)
    (hround : ∀ l pre x W, I pre W → pre ++ [x] <+: xs → assign.wpIn (Fence.wide.inRound l) 4 P
      (Exit.then (fun a1 W1 => BX X W W1 ∧ ∀ W2, CK w.heap.size W1 W2 → body.wpIn (Fence.wide.inRound l) 4 P (Goes X I (pre ++ [x]) W2) a1 W2) (fun _ _ _ => False))
      { tmps := (ps.zip (encs x)).foldl (fun t (p, v) => t.setIfInBounds p v) a.tmps, defers := [] } W)
    (hdone : ∀ W, I xs W → W.heap[w.heap.size]? = some (.deferred (some [])) → Q .normal { a with defers := { target := .collected w.heap.size, args := #[] } :: a.defers } W) :
    (Code.rangeFunc g ps assign body).wp P Q a w := by
  refine (wpIn_wide (n := 6)).1 (wpIn_rangeFunc ?_)
  intro fn _
  rw [Fence.wide_round]
  obtain ⟨rec, hrec⟩ : ∃ rec : LoopState → Loop, rec = fun st => { state := st, pending := none, fn, tmps := a.tmps, params := ps, assign, body, defers := w.heap.size } := ⟨_, rfl⟩
  have hst : ∀ s, (rec s).state = s := fun s => by rw [hrec]
  have hpd : ∀ s, (rec s).pending = none := fun s => by rw [hrec]
  have hsp : ∀ s, (rec s).params = ps := fun s => by rw [hrec]
  have hup : ∀ s s' , { rec s with state := s' } = rec s' := fun s s' => by rw [hrec]
  have hen : ∀ s s', ({ rec s with state := s', pending := none } : Loop) = rec s' := fun s s' => by rw [hrec]
  have hrun := run_enterLoop_outer (P := P) (w := w) fn a.tmps ps assign body
  obtain ⟨W1, hW1⟩ : ∃ W1, (w.alloc (.deferred (some []))).alloc (.loop (rec .ready)) = W1 := ⟨_, rfl⟩
  have hb1 : Below w.heap.size w W1 := by
    rw [← hW1]; exact ((Below.refl _ w).alloc (Nat.le_refl _) _).alloc (by simp) _
  have hs1 : W1.heap.size = w.heap.size + 2 := by rw [← hW1]; simp
  have hL1 : W1.heap[w.heap.size + 1]? = some (.loop (rec .ready)) := by
    rw [← hW1]; have := World.alloc_heap_new (w.alloc (.deferred (some []))) (.loop (rec .ready)); rwa [World.size_alloc] at this
  have hK1 : W1.heap[w.heap.size]? = some (.deferred (some [])) := by
    rw [← hW1]; exact (Below.heap_alloc _ _ _ (by simp)).trans (World.alloc_heap_new w _)
  have hI1 : I [] W1 := hI _ _ _ h0 ⟨hb1.os, hb1.tape, hb1.output, hb1.size, fun k o hk _ => (hb1.block k (Array.getElem?_eq_some_iff.1 hk).1).trans hk⟩
  have hDX : ∀ i, w.heap.size ≤ i → i ∉ X := fun i hi hx => by have := hX i hx; omega
  refine ⟨w.heap.size + 1, [{ target := .collected w.heap.size, args := #[] }], W1, { target := .fn (.func gf) #[], args := rb ++ #[.func (.yield (w.heap.size + 1)) #[] #[]] }, W1, gf,
    rb ++ #[.func (.yield (w.heap.size + 1)) #[] #[]], W1, ?_, ?_, fun _ _ => trivial, ?_, fun h => (by simp [Fence.wide] at h), ?_⟩
  · rw [hrun, ← hW1, hrec]
  · simp only [resolve, hg]
    simp [go_sem]
  · simp [invoke, go_sem, eg]
  refine (hseq (w.heap.size + 1) X (fun pre W => I pre W ∧ W.heap[w.heap.size + 1]? = some (.loop (rec .ready)) ∧ W.heap[w.heap.size]? = some (.deferred (some [])))
    W1 (fun x hx => by have := hX x hx; omega) (fun s A B hs hb => ⟨hI s A B hs.1 (.of_below hb), (hb.block _ (Array.getElem?_eq_some_iff.1 hs.2.1).1).trans hs.2.1, (hb.block _ (Array.getElem?_eq_some_iff.1 hs.2.2).1).trans hs.2.2⟩) ?_ ⟨hI1, hL1, hK1⟩).mono ?_
  · rintro pre x W ⟨hi, hl, hk⟩ hpre
    have hy := run_yield (P := P) (args := encs x) hl (by rw [hsp]; exact hps x)
    rw [hrec] at hy
    refine ⟨fn, _, assign, body, hy, roundIn_of_wpIn trivial (wpIn_mono (hround _ pre x W hi hpre) ?_)⟩
    intro e a1 W2 hp
    cases e with
    | normal =>
      obtain ⟨hbx, hbody⟩ := hp
      have hl2 := (hbx.block (w.heap.size + 1) (Array.getElem?_eq_some_iff.1 hl).1 (hDX _ (by omega))).trans hl
      have hk2 := (hbx.block w.heap.size (Array.getElem?_eq_some_iff.1 hk).1 (hDX _ (by omega))).trans hk
      have hr := run_beginRound (P := P) hl2 (hst _)
      rw [hup] at hr
      have hlt2 := (Array.getElem?_eq_some_iff.1 hl2).1
      have hl3 := World.putObj_heap_same (w := W2) (o := .loop (rec .busy)) hlt2
      have hk3 := (World.putObj_heap_other (w := W2) (o := .loop (rec .busy)) (show w.heap.size ≠ w.heap.size + 1 by omega)).trans hk2
      refine ⟨_, hr, wpIn_mono (hbody _ (.put _ hl2 rfl (by omega))) ?_⟩
      intro e a3 W3 hp
      cases e with
      | normal =>
        obtain ⟨hb3, hi3⟩ := hp
        have hl4 := (hb3.block _ (Array.getElem?_eq_some_iff.1 hl3).1 (hDX _ (by omega))).trans hl3
        have hk4 := (hb3.block _ (Array.getElem?_eq_some_iff.1 hk3).1 (hDX _ (by omega))).trans hk3
        have he := run_endRound (P := P) none hl4
        simp only [Option.isNone_none, if_true] at he
        rw [hen] at he
        have hl5 := World.putObj_heap_same (w := W3) (o := .loop (rec .ready)) (Array.getElem?_eq_some_iff.1 hl4).1
        refine ⟨_, _, he, rfl, ⟨hI _ _ _ hi3 (.put _ hl4 rfl (by omega)), hl5, (World.putObj_heap_other (by omega)).trans hk4⟩, ?_⟩
        refine BX.drop (r := w.heap.size + 1) ?_ (hl5.trans hl.symm)
        exact (((hbx.wider _).trans (bx_loop _ hl2)).trans (hb3.wider _)).trans (bx_loop _ hl4)
      | _ => exact (hp : False).elim
    | _ => exact (hp : False).elim
  · rintro e W2 ⟨⟨v, rfl⟩, hi, hl, hk⟩
    have he := run_endLoop (P := P) hl (by rw [hst]; simp)
    rw [hpd] at he
    exact ⟨none, _, he, hdone _ (hI _ _ _ hi (.put _ hl rfl (by omega))) ((World.putObj_heap_other (by omega)).trans hk)⟩
/-- A function whose body holds a range over a function. -/
theorem calls_marks {P : Program} {f : FuncId} {fn : Func} {c : Code} {args : Array Value} {w : World} {R : Ending → World → Prop} (hf : P.funcs[f]? = some fn) (hb : fn.body = some c)
    (h : c.wp P (bodyPostM Fence.wide 6 P fn R) { tmps := args ++ Array.replicate (fn.ntmps - args.size) undef, defers := [] } w) : Calls P f args w R :=
  callsIn_wide.1 (callsIn_of_wp_marks (n := 6) hf hb trivial (wpIn_wide.2 h))
end Go.Proofs.YtephimmamkafoaaGreat
namespace Go.Proofs.YtephimmamkafoaaGreat
set_option linter.unusedSimpArgs false
set_option linter.unusedVariables false

structure Rg where
  lo : Int
  hi : Int
  deriving DecidableEq
structure Bx where
  x : Rg
  y : Rg
  z : Rg
  deriving DecidableEq
structure Pl where
  x : Int
  y : Int
  z : Int
  deriving DecidableEq
structure Bc where
  name : ByteArray
  pl : Pl
structure Nt where
  world : Bx
  bs : List Bc
structure Rd where
  kind : Int
  idx : Int
  v : Rg
structure Mv where
  ticks : Int
  speed : Bx
structure Vt where
  rs : List Rd
  wrong : Int
structure St where
  mv : Mv
  vt : Vt

def cI (x : Int) : List Value := [.int .i64 x]
def cRg (x : Rg) : List Value := [.int .i64 x.lo, .int .i64 x.hi]
def cBc (x : Bc) : List Value := [.string x.name, .int .i64 x.pl.x, .int .i64 x.pl.y, .int .i64 x.pl.z]
def cRd (x : Rd) : List Value := [.int .i64 x.kind, .int .i64 x.idx, .int .i64 x.v.lo, .int .i64 x.v.hi]

abbrev vRg (r : Rg) : Value := .agg #[.int .i64 r.lo, .int .i64 r.hi]
abbrev vBx (b : Bx) : Value := .agg #[.int .i64 b.x.lo, .int .i64 b.x.hi, .int .i64 b.y.lo, .int .i64 b.y.hi, .int .i64 b.z.lo, .int .i64 b.z.hi]
abbrev vPl (p : Pl) : Value := .agg #[.int .i64 p.x, .int .i64 p.y, .int .i64 p.z]

/-- The first error, and its place. -/
def eachS {α : Type} (err : Nat → α → Int) : List α → Nat → Int × Int
  | [], _ => (0, 0)
  | x :: l, k => if err k x = 0 then eachS err l (k + 1) else ((k : Int), err k x)
theorem eachS_drop {α : Type} (err : Nat → α → Int) (l : List α) (k : Nat) (x : α) (hx : l[k]? = some x) :
    eachS err (l.drop k) k = if err k x = 0 then eachS err (l.drop (k + 1)) (k + 1) else ((k : Int), err k x) := by
  have hk : k < l.length := (List.getElem?_eq_some_iff.1 hx).1
  have e : l[k] = x := (List.getElem?_eq_some_iff.1 hx).2
  rw [List.drop_eq_getElem_cons hk, e]
  rfl

def inR (n lo hi : Int) : Bool := decide (lo ≤ n) && decide (n ≤ hi)
theorem inR_iff {n lo hi : Int} : inR n lo hi = true ↔ lo ≤ n ∧ n ≤ hi := by simp [inR]
/-- Letters, and what else may stand in a name behind its first letter. -/
def letter (c : UInt8) : Bool := (decide (97 ≤ c.toNat) && decide (c.toNat ≤ 122)) || (decide (65 ≤ c.toNat) && decide (c.toNat ≤ 90))
def other (c : UInt8) : Bool := (decide (48 ≤ c.toNat) && decide (c.toNat ≤ 57)) || decide (c.toNat = 45)
def nameFrom : Nat → List UInt8 → Bool
  | _, [] => true
  | i, c :: l => (letter c || (decide (i ≠ 0) && other c)) && nameFrom (i + 1) l
def nameB (s : ByteArray) : Bool := nameFrom 0 s.data.toList && inR s.size 1 12
theorem nameFrom_drop (l : List UInt8) (k : Nat) (c : UInt8) (hx : l[k]? = some c) : nameFrom k (l.drop k) = ((letter c || (decide (k ≠ 0) && other c)) && nameFrom (k + 1) (l.drop (k + 1))) := by
  have hk : k < l.length := (List.getElem?_eq_some_iff.1 hx).1
  have e : l[k] = c := (List.getElem?_eq_some_iff.1 hx).2
  rw [List.drop_eq_getElem_cons hk, e]
  rfl
theorem letter_iff (c : UInt8) : letter c = true ↔ (97 ≤ c.toNat ∧ c.toNat ≤ 122 ∨ 65 ≤ c.toNat ∧ c.toNat ≤ 90) := by unfold letter; simp
theorem other_iff (c : UInt8) : other c = true ↔ (48 ≤ c.toNat ∧ c.toNat ≤ 57 ∨ c.toNat = 45) := by unfold other; simp
/-- An error unless a condition holds; the first error of some. -/
def unl (b : Bool) (e : Int) : Int := if b then 0 else e
def fstE : List Int → Int
  | [] => 0
  | e :: l => if e = 0 then fstE l else e
def szd (n l : Int) : Bool := inR n (-l) l
def Bx.sides (b : Bx) : List Rg := [b.x, b.y, b.z]
def Pl.co (p : Pl) : List Int := [p.x, p.y, p.z]
def Bx.sized (b : Bx) (l : Int) : Bool := !(b.sides.any fun r => !szd r.lo l || !szd r.hi l)
def Bx.ordered (b : Bx) : Bool := !(b.sides.any fun r => decide (r.hi < r.lo))

end Go.Proofs.YtephimmamkafoaaGreat
