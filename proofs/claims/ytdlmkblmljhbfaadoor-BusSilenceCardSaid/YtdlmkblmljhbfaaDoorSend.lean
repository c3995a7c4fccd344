/-
  What a sender computes: messages that wait, by streams; which stream's frame is carried at each tick; the worst responses.
-/
import Derived.Test.YtdlmkblmljhbfaaDoorPlain
namespace Go.Proofs.YtdlmkblmljhbfaaDoor
set_option linter.unusedSimpArgs false
set_option linter.unusedVariables false
def upF {α : Type} (f : Nat → α) (i : Nat) (v : α) : Nat → α := fun j => if j = i then v else f j
/-- The messages that wait (when sent, how many frames are left), the worst responses. -/
structure Ss where
  q : Nat → List (Int × Int)
  wo : Nat → Int
def ss0 : Ss := ⟨fun _ => [], fun _ => 0⟩
/-- Whether a stream sends a message at a tick. -/
def relB (l : List Sm) (st : List Int) (t : Int) (i : Nat) : Bool :=
  match l[i]?, st[i]? with
  | some s, some a => decide (a ≤ t) && decide ((t - a) % s.per = 0)
  | _, _ => false
def lenAt (l : List Sm) (i : Nat) : Int := match l[i]? with
  | some s => s.len
  | none => 0
def dlAt (l : List Sm) (i : Nat) : Int := match l[i]? with
  | some s => s.dl
  | none => 0
def sendS (l : List Sm) (st : List Int) (t : Int) (q : Nat → List (Int × Int)) : Nat → List (Int × Int) := fun i => if relB l st t i then q i ++ [(t, lenAt l i)] else q i
/-- The first of so many streams that has frames left, from a number on. -/
def prioFrom (q : Nat → List (Int × Int)) : Nat → Nat → Int
  | 0, _ => -1
  | n + 1, i => if (q i).isEmpty then prioFrom q n (i + 1) else (i : Int)
def prioS (q : Nat → List (Int × Int)) : Int := prioFrom q 6 0
/-- The stream with the earliest deadline among the first ones, and this deadline. -/
def dlTo (l : List Sm) (q : Nat → List (Int × Int)) : Nat → Int × Int
  | 0 => (-1, 0)
  | k + 1 => match q k with
    | [] => dlTo l q k
    | (a, _) :: _ => if (dlTo l q k).1 = -1 ∨ a + dlAt l k < (dlTo l q k).2 then ((k : Int), a + dlAt l k) else dlTo l q k
def dlS (l : List Sm) (q : Nat → List (Int × Int)) : Int := (dlTo l q 6).1
/-- One tick: what is sent, and what is carried. -/
def carS (ch : (Nat → List (Int × Int)) → Int) (l : List Sm) (st : List Int) (t : Int) (s : Ss) : Ss × Int :=
  if ch (sendS l st t s.q) = -1 then (⟨sendS l st t s.q, s.wo⟩, -1) else
    match sendS l st t s.q (ch (sendS l st t s.q)).toNat with
    | [] => (⟨sendS l st t s.q, s.wo⟩, ch (sendS l st t s.q))
    | (a, k) :: r =>
      if k - 1 = 0 then (⟨upF (sendS l st t s.q) (ch (sendS l st t s.q)).toNat r, upF s.wo (ch (sendS l st t s.q)).toNat (max (s.wo (ch (sendS l st t s.q)).toNat) (t - a + 1))⟩, ch (sendS l st t s.q))
      else (⟨upF (sendS l st t s.q) (ch (sendS l st t s.q)).toNat ((a, k - 1) :: r), s.wo⟩, ch (sendS l st t s.q))
def runS (ch : (Nat → List (Int × Int)) → Int) (l : List Sm) (st : List Int) : Nat → Ss × List Int
  | 0 => (ss0, [])
  | t + 1 => ((carS ch l st t (runS ch l st t).1).1, (runS ch l st t).2 ++ [(carS ch l st t (runS ch l st t).1).2])
/-- The error of starts and ticks. -/
def stE (l : List Sm) (st : List Int) (t : Int) : Int :=
  fstE [(if fstE [smsErr l, unl (decide ((st.length : Int) = l.length)) 10] = 0 then (eachS (fun _ n => unl (inR n 0 400) 2) st 0).2 else fstE [smsErr l, unl (decide ((st.length : Int) = l.length)) 10]), unl (inR t 0 400) 2]
/-- A stream's response: the least number at which the demand is met. -/
def respTo (f : Int → Int) : Nat → Int → Option Int
  | 0, _ => none
  | n + 1, r => if f r = r then some r else respTo f n (r + 1)
def respS (before : List Sm) (s : Sm) : Option Int := respTo (respF before s.len) 10000 1
def respV : Option Int → Int × Bool
  | some r => (r, true)
  | none => (0, false)
end Go.Proofs.YtdlmkblmljhbfaaDoor
