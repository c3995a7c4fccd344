/-
  What chapter 5 computes, continued: which nets, boxes, moves, readings and votes are valid, boxes carried, squares, votes.
-/
import Derived.Test.YtephimmamkafoaaPlain
namespace Go.Proofs.Ytephimmamkafoaa
set_option linter.unusedSimpArgs false
set_option linter.unusedVariables false
abbrev vBc (x : Bc) : Value := .agg #[.string x.name, .int .i64 x.pl.x, .int .i64 x.pl.y, .int .i64 x.pl.z]
abbrev vRd (x : Rd) : Value := .agg #[.int .i64 x.kind, .int .i64 x.idx, .int .i64 x.v.lo, .int .i64 x.v.hi]
abbrev vMv (m : Mv) : Value := .agg #[.int .i64 m.ticks, .int .i64 m.speed.x.lo, .int .i64 m.speed.x.hi, .int .i64 m.speed.y.lo, .int .i64 m.speed.y.hi, .int .i64 m.speed.z.lo, .int .i64 m.speed.z.hi]
abbrev aNt (b : Bx) (s : Value) : Array Value := #[.int .i64 b.x.lo, .int .i64 b.x.hi, .int .i64 b.y.lo, .int .i64 b.y.hi, .int .i64 b.z.lo, .int .i64 b.z.hi, s]
/-- A net's value: its world, and the header of its beacons. -/
abbrev vNt (b : Bx) (s : Value) : Value := .agg #[.int .i64 b.x.lo, .int .i64 b.x.hi, .int .i64 b.y.lo, .int .i64 b.y.hi, .int .i64 b.z.lo, .int .i64 b.z.hi, s]
/-- An opened net: the net, and its world once more. -/
abbrev vON (b : Bx) (s : Value) : Value := .agg #[.int .i64 b.x.lo, .int .i64 b.x.hi, .int .i64 b.y.lo, .int .i64 b.y.hi, .int .i64 b.z.lo, .int .i64 b.z.hi, s, .int .i64 b.x.lo, .int .i64 b.x.hi, .int .i64 b.y.lo, .int .i64 b.y.hi, .int .i64 b.z.lo, .int .i64 b.z.hi]

def known (bs : List Bc) (s : ByteArray) : Bool := bs.any fun o => o.name.toList == s.toList
def bcErr (bs : List Bc) (i : Nat) (b : Bc) : Int := fstE [unl (nameB b.name) 4, unl (!known (bs.take i) b.name) 5, unl (!(b.pl.co.any fun c => !szd c 10000)) 2]
def worldErr (b : Bx) (n : Nat) : Int := fstE [unl (b.sized 10000 && (decide (0 ≤ b.z.lo) && decide (0 ≤ b.z.hi))) 2, unl b.ordered 9, unl (decide ((n : Int) ≤ 6)) 8]
def netChk (n : Nt) : Int × Int := if worldErr n.world n.bs.length = 0 then eachS (bcErr n.bs) n.bs 0 else (0, worldErr n.world n.bs.length)
def netErr (n : Nt) : Int := (netChk n).2
def Bx.holds (a o : Bx) : Bool := (decide (a.x.lo ≤ o.x.lo) && decide (o.x.hi ≤ a.x.hi)) && (decide (a.y.lo ≤ o.y.lo) && decide (o.y.hi ≤ a.y.hi)) && (decide (a.z.lo ≤ o.z.lo) && decide (o.z.hi ≤ a.z.hi))
def Bx.has (a : Bx) (p : Pl) : Bool := inR p.x a.x.lo a.x.hi && inR p.y a.y.lo a.y.hi && inR p.z a.z.lo a.z.hi
def boxErr (n : Nt) (b : Bx) : Int := fstE [netErr n, unl b.ordered 9, unl (n.world.holds b) 2]
def mvErr (m : Mv) : Int := fstE [unl (inR m.ticks 0 1000 && m.speed.sized 100) 2, unl m.speed.ordered 9]
def Rg.meet (a b : Rg) : Rg := ⟨max a.lo b.lo, min a.hi b.hi⟩
def Bx.meet (a b : Bx) : Bx := ⟨a.x.meet b.x, a.y.meet b.y, a.z.meet b.z⟩
def Rg.carry (a v : Rg) (t : Int) : Rg := ⟨a.lo + t * v.lo, a.hi + t * v.hi⟩
def Bx.carry (a : Bx) (m : Mv) : Bx := ⟨a.x.carry m.speed.x m.ticks, a.y.carry m.speed.y m.ticks, a.z.carry m.speed.z m.ticks⟩
def Rg.neg (a : Rg) : Rg := ⟨-a.hi, -a.lo⟩
def Mv.neg (m : Mv) : Mv := ⟨m.ticks, ⟨m.speed.x.neg, m.speed.y.neg, m.speed.z.neg⟩⟩
/-- A box carried, and carried back, within the world. -/
def carried (w : Bx) (a : Bx) (m : Mv) : Bx := (a.carry m).meet w
def back (w : Bx) (a : Bx) (m : Mv) : Bx := carried w a m.neg
def bx0 : Bx := ⟨⟨0, 0⟩, ⟨0, 0⟩, ⟨0, 0⟩⟩
def Rg.join (a b : Rg) : Rg := ⟨min a.lo b.lo, max a.hi b.hi⟩
def Bx.join (a b : Bx) : Bx := ⟨a.x.join b.x, a.y.join b.y, a.z.join b.z⟩
end Go.Proofs.Ytephimmamkafoaa
