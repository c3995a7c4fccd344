/-
  What chapter 7 computes, as plain functions on numbers and lists: frames, streams, nets. Nothing here speaks of the program.
-/
import GoSem.Core.Value
namespace Go.Proofs.YtdlmkblmljhbfaaDoor
set_option linter.unusedSimpArgs false
set_option linter.unusedVariables false

structure Rg where
  lo : Int
  hi : Int
  deriving DecidableEq
/-- A stream. -/
structure Sm where
  name : ByteArray
  per : Int
  dl : Int
  len : Int
/-- A message. -/
structure Ms where
  src : Int
  num : Int
  kind : Int
  d0 : Int
  d1 : Int
  d2 : Int
  d3 : Int
  deriving DecidableEq
/-- A frame. -/
structure Fr where
  a0 : Int
  a1 : Int
  a2 : Int
  a3 : Int
  a4 : Int
  a5 : Int
  a6 : Int
  a7 : Int
  deriving DecidableEq
/-- Numbers, and where they lie. -/
structure Rw where
  A : Option Addr
  c : Nat
  l : List Int
/-- A function of a net, and where its ways lie. -/
structure Fu where
  name : ByteArray
  A : Option Addr
  c : Nat
  ws : List Rw
structure Md where
  name : ByteArray
  r : Rw
structure Nt where
  ps : List ByteArray
  fs : List Fu
  ms : List Md

def cI (x : Int) : List Value := [.int .i64 x]
def cS (x : ByteArray) : List Value := [.string x]
def cRg (x : Rg) : List Value := [.int .i64 x.lo, .int .i64 x.hi]
def cSm (x : Sm) : List Value := [.string x.name, .int .i64 x.per, .int .i64 x.dl, .int .i64 x.len]
def Fr.l (f : Fr) : List Int := [f.a0, f.a1, f.a2, f.a3, f.a4, f.a5, f.a6, f.a7]
def cFr (x : Fr) : List Value := x.l.map (.int .i64)
abbrev vRw (x : Rw) : Value := .slice x.A x.l.length x.c
def cRw (x : Rw) : List Value := [vRw x]
def cFu (x : Fu) : List Value := [.string x.name, .slice x.A x.ws.length x.c]
def cMd (x : Md) : List Value := [.string x.name, vRw x.r]

abbrev vRg (r : Rg) : Value := .agg #[.int .i64 r.lo, .int .i64 r.hi]
abbrev vSm (x : Sm) : Value := .agg #[.string x.name, .int .i64 x.per, .int .i64 x.dl, .int .i64 x.len]
abbrev vFu (x : Fu) : Value := .agg #[.string x.name, .slice x.A x.ws.length x.c]
abbrev vMd (x : Md) : Value := .agg #[.string x.name, vRw x.r]
abbrev aMs (m : Ms) : Array Value := #[.int .i64 m.src, .int .i64 m.num, .int .i64 m.kind, .int .i64 m.d0, .int .i64 m.d1, .int .i64 m.d2, .int .i64 m.d3]
abbrev vMs (m : Ms) : Value := .agg (aMs m)
abbrev aFr (f : Fr) : Array Value := #[.int .i64 f.a0, .int .i64 f.a1, .int .i64 f.a2, .int .i64 f.a3, .int .i64 f.a4, .int .i64 f.a5, .int .i64 f.a6, .int .i64 f.a7]
abbrev vFr (f : Fr) : Value := .agg (aFr f)

/-- The first error, and its place. -/
def eachS {α : Type} (err : Nat → α → Int) : List α → Nat → Int × Int
  | [], _ => (0, 0)
  | x :: l, k => if err k x = 0 then eachS err l (k + 1) else ((k : Int), err k x)
theorem eachS_drop {α : Type} (err : Nat → α → Int) (l : List α) (k : Nat) (x : α) (hx : l[k]? = some x) :
    eachS err (l.drop k) k = if err k x = 0 then eachS err (l.drop (k + 1)) (k + 1) else ((k : Int), err k x) := by
  have hk : k < l.length := (List.getElem?_eq_some_iff.1 hx).1
  have e : l[k] = x := (List.getElem?_eq_some_iff.1 hx).2
  rw [List.drop_eq_getElem_cons hk, e]
  rfl
theorem eachS_ok {α : Type} (err : Nat → α → Int) : ∀ (l : List α) (k : Nat), (eachS err l k).2 = 0 → ∀ j x, l[j]? = some x → err (k + j) x = 0
  | [], k, _, j, x, hx => by simp at hx
  | y :: l, k, h, j, x, hx => by
    unfold eachS at h
    by_cases h0 : err k y = 0
    · rw [if_pos h0] at h
      cases j with
      | zero =>
        simp at hx
        subst hx
        exact h0
      | succ j =>
        have := eachS_ok err l (k + 1) h j x (by simpa using hx)
        rwa [Nat.add_assoc, Nat.add_comm 1 j] at this
    · rw [if_neg h0] at h
      exact absurd h h0
theorem eachS_zero {α : Type} (err : Nat → α → Int) : ∀ (l : List α) (k : Nat), (∀ j x, l[j]? = some x → err (k + j) x = 0) → eachS err l k = (0, 0)
  | [], _, _ => rfl
  | y :: l, k, h => by
    unfold eachS
    have h0 : err k y = 0 := h 0 y rfl
    rw [if_pos h0, eachS_zero err l (k + 1) fun j x hx => by
      have := h (j + 1) x (by simpa using hx)
      rwa [Nat.add_assoc, Nat.add_comm 1 j]]

def inR (n lo hi : Int) : Bool := decide (lo ≤ n) && decide (n ≤ hi)
theorem inR_iff {n lo hi : Int} : inR n lo hi = true ↔ lo ≤ n ∧ n ≤ hi := by simp [inR]
/-- Letters, and what else may stand in a name behind its first letter. -/
def letter (c : UInt8) : Bool := (decide (97 ≤ c.toNat) && decide (c.toNat ≤ 122)) || (decide (65 ≤ c.toNat) && decide (c.toNat ≤ 90))
def other (c : UInt8) : Bool := (decide (48 ≤ c.toNat) && decide (c.toNat ≤ 57)) || decide (c.toNat = 45)
def nameFrom : Nat → List UInt8 → Bool
  | _, [] => true
  | i, c :: l => (letter c || (decide (i ≠ 0) && other c)) && nameFrom (i + 1) l
def nameB (s : ByteArray) : Bool := nameFrom 0 s.data.toList && inR s.size 1 12
theorem nameFrom_drop (l : List UInt8) (k : Nat) (c : UInt8) (hx : l[k]? = some c) : nameFrom k (l.drop k) = ((letter c || (decide (k ≠ 0) && other c)) && nameFrom (k + 1) (l.drop (k + 1))) := by
  have hk : k < l.length := (List.getElem?_eq_some_iff.1 hx).1
  have e : l[k] = c := (List.getElem?_eq_some_iff.1 hx).2
  rw [List.drop_eq_getElem_cons hk, e]
  rfl
theorem letter_iff (c : UInt8) : letter c = true ↔ (97 ≤ c.toNat ∧ c.toNat ≤ 122 ∨ 65 ≤ c.toNat ∧ c.toNat ≤ 90) := by unfold letter; simp
theorem other_iff (c : UInt8) : other c = true ↔ (48 ≤ c.toNat ∧ c.toNat ≤ 57 ∨ c.toNat = 45) := by unfold other; simp
/-- An error unless a condition holds; the first error of some. -/
def unl (b : Bool) (e : Int) : Int := if b then 0 else e
def fstE : List Int → Int
  | [] => 0
  | e :: l => if e = 0 then fstE l else e
theorem fstE_drop (l : List Int) (k : Nat) (x : Int) (hx : l[k]? = some x) : fstE (l.drop k) = if x = 0 then fstE (l.drop (k + 1)) else x := by
  have hk : k < l.length := (List.getElem?_eq_some_iff.1 hx).1
  have e : l[k] = x := (List.getElem?_eq_some_iff.1 hx).2
  rw [List.drop_eq_getElem_cons hk, e]
  rfl
theorem unl_zero {b : Bool} {e : Int} (he : e ≠ 0) : unl b e = 0 ↔ b = true := by
  cases b <;> simp [unl, he]
theorem fst_cons (e : Int) (l : List Int) : fstE (e :: l) = 0 ↔ e = 0 ∧ fstE l = 0 := by
  show (if e = 0 then fstE l else e) = 0 ↔ _
  by_cases h : e = 0 <;> simp [h]
theorem fst_nil : fstE [] = 0 := rfl

/-! ### Frames. -/
def byteB (n : Int) : Bool := inR n 0 255
def bytesE (l : List Int) : Int := (eachS (fun _ n => unl (byteB n) 2) l 0).2
def crc1 (r : Nat) : Nat := if 256 ≤ 2 * r then (2 * r) ^^^ 263 else 2 * r
def crcK : Nat → Nat → Nat
  | 0, r => r
  | k + 1, r => crcK k (crc1 r)
def remN : List Nat → Nat → Nat
  | [], r => r
  | n :: l, r => remN l (crcK 8 (r ^^^ n))
def remI (l : List Int) : Nat := remN (l.map Int.toNat) 0
def msE (m : Ms) : Int := fstE [unl ((inR m.src 0 15 && inR m.kind 0 3) && byteB m.num) 2, bytesE [m.d0, m.d1, m.d2, m.d3]]
def remE (l : List Int) : Int := fstE [unl (decide ((l.length : Int) ≤ 60)) 8, bytesE l]
def ms0 : Ms := ⟨0, 0, 0, 0, 0, 0, 0⟩
def fr0 : Fr := ⟨0, 0, 0, 0, 0, 0, 0, 0⟩
def frameOf (m : Ms) : Fr := ⟨m.src, m.num, m.kind, m.d0, m.d1, m.d2, m.d3, remI [m.src, m.num, m.kind, m.d0, m.d1, m.d2, m.d3]⟩
def encS (m : Ms) : Fr × Int := if msE m = 0 then (frameOf m, 0) else (fr0, msE m)
def Fr.head (f : Fr) : List Int := [f.a0, f.a1, f.a2, f.a3, f.a4, f.a5, f.a6]
def Fr.ms (f : Fr) : Ms := ⟨f.a0, f.a1, f.a2, f.a3, f.a4, f.a5, f.a6⟩
def decS (f : Fr) : Ms × Int :=
  if bytesE f.l = 0 then (if fstE [unl (decide (f.a7 = (remI f.head : Int))) 19, msE f.ms] = 0 then (f.ms, 0) else (ms0, fstE [unl (decide (f.a7 = (remI f.head : Int))) 19, msE f.ms])) else (ms0, bytesE f.l)

/-! ### Silence. -/
def tickB (n : Int) : Bool := inR n 0 1000000000000
def prevI (l : List Int) (k : Nat) : Int := if k = 0 then -1 else l.getD (k - 1) 0
def heardE (l : List Int) : Int := (eachS (fun k n => fstE [unl (tickB n) 2, unl (decide (prevI l k < n)) 9]) l 0).2
def silE (l : List Int) (s : Rg) (t : Int) : Int := fstE [unl (decide ((l.length : Int) ≤ 60)) 8, heardE l, unl (tickB s.lo && tickB s.hi) 2, unl (decide (s.lo ≤ s.hi)) 9, unl (tickB t) 2]
def silOne (f to hi : Int) : List Rg := if f ≤ min to hi then [⟨f, min to hi⟩] else []
def silFrom (hi t : Int) : List Int → Int → List Rg
  | [], f => silOne f hi hi
  | n :: l, f => silOne f (n - 1) hi ++ silFrom hi t l (max f (n + t + 1))
def silS (l : List Int) (s : Rg) (t : Int) : List Rg := silFrom s.hi t l s.lo

/-! ### Streams. -/
def knownB (l : List ByteArray) (s : ByteArray) : Bool := l.any fun o => o.toList == s.toList
def smErr (l : List Sm) (i : Nat) (s : Sm) : Int := fstE [unl (nameB s.name) 4, unl (!knownB ((l.take i).map (·.name)) s.name) 5, unl (inR s.per 1 60 && (inR s.dl 1 s.per && inR s.len 1 20)) 2]
def lenE (n m : Nat) : Int := fstE [unl (decide (0 < n)) 10, unl (decide ((n : Int) ≤ m)) 8]
def smsChk (l : List Sm) : Int × Int := if lenE l.length 6 = 0 then eachS (smErr l) l 0 else (0, lenE l.length 6)
def smsErr (l : List Sm) : Int := (smsChk l).2
/-- The demand of the streams ahead, and of one's own. -/
def respF (before : List Sm) (len : Int) (r : Int) : Int := (before.map fun o => o.len * ((r + o.per - 1) / o.per)).foldl (· + ·) len

/-! ### Nets. -/
def nmErr (l : List ByteArray) (i : Nat) (s : ByteArray) : Int := fstE [unl (nameB s) 4, unl (!knownB (l.take i) s) 5]
def idxErr (l : List Int) (count : Int) : Int := (eachS (fun k n => fstE [unl (inR n 0 (count - 1)) 6, unl (decide (prevI l k < n)) 9]) l 0).2
def waysE (parts : Int) (e : Int) (ws : List Rw) : Int := ws.foldl (fun e w => fstE [e, unl (decide (0 < w.l.length)) 10, idxErr w.l parts]) e
def fuErr (parts : Int) (names : List ByteArray) (i : Nat) (f : Fu) : Int :=
  waysE parts (fstE [nmErr names i f.name, unl (decide (0 < f.ws.length)) 10, unl (decide ((f.ws.length : Int) ≤ 6)) 8]) f.ws
def mdErr (funs : Int) (names : List ByteArray) (i : Nat) (m : Md) : Int := fstE [nmErr names i m.name, idxErr m.r.l funs]
def Nt.e0 (n : Nt) : Int := fstE [unl (decide (0 < n.ps.length)) 10, unl (decide (max (n.ps.length : Int) n.fs.length ≤ 10) && decide ((n.ms.length : Int) ≤ 6)) 8]
def netChk (n : Nt) : Int × Int :=
  if n.e0 = 0 then
    (if (eachS (nmErr n.ps) n.ps 0).2 = 0 then
      (if (eachS (fuErr n.ps.length (n.fs.map (·.name))) n.fs 0).2 = 0 then eachS (mdErr n.fs.length (n.ms.map (·.name))) n.ms 0
       else eachS (fuErr n.ps.length (n.fs.map (·.name))) n.fs 0)
     else eachS (nmErr n.ps) n.ps 0)
  else (0, n.e0)
def netErr (n : Nt) : Int := (netChk n).2
/-- A set of numbers as bits, the numbers of a set. -/
def setN (l : List Int) : Nat := l.foldl (fun s n => s ||| 2 ^ n.toNat) 0
def setL (s : Nat) : Nat → List Int
  | 0 => []
  | k + 1 => setL s k ++ if s.testBit k then [(k : Int)] else []
def listS (s : Nat) : List Int := setL s 10
def sizeS (s : Nat) : Nat := (listS s).length
def worksB (f : Fu) (failed : Nat) : Bool := f.ws.any fun w => setN w.l &&& failed == 0
def workN (fs : List Fu) (failed : Nat) : Nat → Nat
  | 0 => 0
  | k + 1 => match fs[k]? with
    | some f => if worksB f failed then workN fs failed k ||| 2 ^ k else workN fs failed k
    | none => workN fs failed k
def lexB : List Int → List Int → Bool
  | [], [] => false
  | [], _ :: _ => true
  | _ :: _, [] => false
  | x :: a, y :: b => if x = y then lexB a b else decide (x < y)
def smallB (s best : Nat) : Bool := decide (sizeS s < sizeS best) || (decide (sizeS s = sizeS best) && lexB (listS s) (listS best))
def cutTo (f : Fu) (best : Nat) : Nat → Nat
  | 0 => best
  | k + 1 => if smallB k (cutTo f best k) && !worksB f k then k else cutTo f best k
def cutS (f : Fu) (parts : Nat) : Nat := cutTo f (2 ^ parts - 1) (2 ^ parts)
end Go.Proofs.YtdlmkblmljhbfaaDoor
