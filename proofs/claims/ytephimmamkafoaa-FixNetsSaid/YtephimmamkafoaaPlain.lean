/-
  What chapter 5 computes, as plain functions on numbers and lists: boxes, nets, readings, votes. Nothing here speaks of the program.
-/
import GoSem.Core.Value
namespace Go.Proofs.Ytephimmamkafoaa
set_option linter.unusedSimpArgs false
set_option linter.unusedVariables false

structure Rg where
  lo : Int
  hi : Int
  deriving DecidableEq
structure Bx where
  x : Rg
  y : Rg
  z : Rg
  deriving DecidableEq
structure Pl where
  x : Int
  y : Int
  z : Int
  deriving DecidableEq
structure Bc where
  name : ByteArray
  pl : Pl
structure Nt where
  world : Bx
  bs : List Bc
structure Rd where
  kind : Int
  idx : Int
  v : Rg
structure Mv where
  ticks : Int
  speed : Bx
structure Vt where
  rs : List Rd
  wrong : Int
structure St where
  mv : Mv
  vt : Vt

def cI (x : Int) : List Value := [.int .i64 x]
def cRg (x : Rg) : List Value := [.int .i64 x.lo, .int .i64 x.hi]
def cBc (x : Bc) : List Value := [.string x.name, .int .i64 x.pl.x, .int .i64 x.pl.y, .int .i64 x.pl.z]
def cRd (x : Rd) : List Value := [.int .i64 x.kind, .int .i64 x.idx, .int .i64 x.v.lo, .int .i64 x.v.hi]

abbrev vRg (r : Rg) : Value := .agg #[.int .i64 r.lo, .int .i64 r.hi]
abbrev vBx (b : Bx) : Value := .agg #[.int .i64 b.x.lo, .int .i64 b.x.hi, .int .i64 b.y.lo, .int .i64 b.y.hi, .int .i64 b.z.lo, .int .i64 b.z.hi]
abbrev vPl (p : Pl) : Value := .agg #[.int .i64 p.x, .int .i64 p.y, .int .i64 p.z]

/-- The first error, and its place. -/
def eachS {α : Type} (err : Nat → α → Int) : List α → Nat → Int × Int
  | [], _ => (0, 0)
  | x :: l, k => if err k x = 0 then eachS err l (k + 1) else ((k : Int), err k x)
theorem eachS_drop {α : Type} (err : Nat → α → Int) (l : List α) (k : Nat) (x : α) (hx : l[k]? = some x) :
    eachS err (l.drop k) k = if err k x = 0 then eachS err (l.drop (k + 1)) (k + 1) else ((k : Int), err k x) := by
  have hk : k < l.length := (List.getElem?_eq_some_iff.1 hx).1
  have e : l[k] = x := (List.getElem?_eq_some_iff.1 hx).2
  rw [List.drop_eq_getElem_cons hk, e]
  rfl

def inR (n lo hi : Int) : Bool := decide (lo ≤ n) && decide (n ≤ hi)
theorem inR_iff {n lo hi : Int} : inR n lo hi = true ↔ lo ≤ n ∧ n ≤ hi := by simp [inR]
/-- Letters, and what else may stand in a name behind its first letter. -/
def letter (c : UInt8) : Bool := (decide (97 ≤ c.toNat) && decide (c.toNat ≤ 122)) || (decide (65 ≤ c.toNat) && decide (c.toNat ≤ 90))
def other (c : UInt8) : Bool := (decide (48 ≤ c.toNat) && decide (c.toNat ≤ 57)) || decide (c.toNat = 45)
def nameFrom : Nat → List UInt8 → Bool
  | _, [] => true
  | i, c :: l => (letter c || (decide (i ≠ 0) && other c)) && nameFrom (i + 1) l
def nameB (s : ByteArray) : Bool := nameFrom 0 s.data.toList && inR s.size 1 12
theorem nameFrom_drop (l : List UInt8) (k : Nat) (c : UInt8) (hx : l[k]? = some c) : nameFrom k (l.drop k) = ((letter c || (decide (k ≠ 0) && other c)) && nameFrom (k + 1) (l.drop (k + 1))) := by
  have hk : k < l.length := (List.getElem?_eq_some_iff.1 hx).1
  have e : l[k] = c := (List.getElem?_eq_some_iff.1 hx).2
  rw [List.drop_eq_getElem_cons hk, e]
  rfl
theorem letter_iff (c : UInt8) : letter c = true ↔ (97 ≤ c.toNat ∧ c.toNat ≤ 122 ∨ 65 ≤ c.toNat ∧ c.toNat ≤ 90) := by unfold letter; simp
theorem other_iff (c : UInt8) : other c = true ↔ (48 ≤ c.toNat ∧ c.toNat ≤ 57 ∨ c.toNat = 45) := by unfold other; simp
/-- An error unless a condition holds; the first error of some. -/
def unl (b : Bool) (e : Int) : Int := if b then 0 else e
def fstE : List Int → Int
  | [] => 0
  | e :: l => if e = 0 then fstE l else e
def szd (n l : Int) : Bool := inR n (-l) l
def Bx.sides (b : Bx) : List Rg := [b.x, b.y, b.z]
def Pl.co (p : Pl) : List Int := [p.x, p.y, p.z]
def Bx.sized (b : Bx) (l : Int) : Bool := !(b.sides.any fun r => !szd r.lo l || !szd r.hi l)
def Bx.ordered (b : Bx) : Bool := !(b.sides.any fun r => decide (r.hi < r.lo))

end Go.Proofs.Ytephimmamkafoaa
