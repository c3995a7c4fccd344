/-
  Plain: numbers of at most two digits as strings.
  bus.each at numbers, streams, strings, functions and modes, the check with a state of its own; slices.IndexFunc and slices.ContainsFunc. (Printed by gen_each.py.)
  Walks of chapter 7's smallest functions: comparisons, errors, names.
  Walks: sets of numbers as bits: the lowest one, how many, the list, the set of a list. The table of the library's that is read: Tab.
  Walks: numbers of at most two digits, read.
  'append' onto a slice of the call's own: its block is the one it had, or a new one.
  'append' onto a slice of the call's own, as the end of a region that draws its order: what it turns is the slice's own block.
  'append' onto a slice of the call's own in a round's fence; such slices through a loop's machinery.
  Plain laws of silence: the ranges ascend without neighbours; a longer timeout leaves no further tick silent.
  Walks: the ranges of ticks at which a source is silent.
-/
import Derived.Test.YtbdgblnccjpahaaGreatDoorUO1
import Derived.Test.YtbdgblnccjpahaaGreatDoorUO3
import Derived.Lib.AtoiAllCases
import Derived.Lib.ItoaNum
import Derived.Test.YtbdgblnccjpahaaGreatDoorUO4
import Derived.Shelf.Abstract
import Derived.Lib.TrailingZeros
import Derived.Laws.Bits64b
import Derived.Lib.AppendIntMem
import Derived.Lib.AtoiErrMem
import Derived.Test.YtbdgblnccjpahaaGreatDoorUO2
import Derived.Laws.EntriesVeiled
set_option linter.unusedSimpArgs false
set_option linter.unusedVariables false
namespace Go.Proofs.YtbdgblnccjpahaaGreatDoor
open Go.RowKit
/-- Whether a byte is a digit. -/
def dig (c : UInt8) : Bool := decide (48 ≤ c.toNat) && decide (c.toNat ≤ 57)
/-- The number below 100 that a string is, without a sign and without a zero ahead. -/
def natS : List UInt8 → Option Nat
  | [a] => if dig a then some (a.toNat - 48) else none
  | [a, b] => if dig a && dig b && decide (a.toNat ≠ 48) then some ((a.toNat - 48) * 10 + (b.toNat - 48)) else none
  | _ => none
/-- The digits of a number below 100. -/
def dd (n : Nat) : List UInt8 := if n < 10 then [UInt8.ofNat (48 + n)] else [UInt8.ofNat (48 + n / 10), UInt8.ofNat (48 + n % 10)]
theorem dd_dec {n : Nat} (h : n < 100) : Lib.decDigits n = dd n := by
  unfold dd
  split
  · exact Lib.decDigits_one (by assumption)
  · exact Lib.decDigits_two (by assumption) h
theorem natS_dd_fin : ∀ n : _root_.Fin 100, natS (dd n.val) = some n.val := by decide +kernel
theorem natS_dd {n : Nat} (h : n < 100) : natS (dd n) = some n := natS_dd_fin ⟨n, h⟩
theorem dig_ofNat {a : UInt8} (h : dig a = true) : UInt8.ofNat (48 + (a.toNat - 48)) = a ∧ a.toNat - 48 < 10 := by
  simp [dig] at h
  rw [show 48 + (a.toNat - 48) = a.toNat by omega]
  exact ⟨by simp, by omega⟩
theorem natS_some {b : List UInt8} {n : Nat} (h : natS b = some n) : n < 100 ∧ dd n = b := by
  match b, h with
  | [a], h =>
    simp only [natS] at h
    split at h
    · rename_i hd
      injection h with h
      obtain ⟨h1, h2⟩ := dig_ofNat hd
      subst h
      refine ⟨by omega, ?_⟩
      rw [dd, if_pos h2, h1]
    · cases h
  | [a, c], h =>
    simp only [natS] at h
    split at h
    · rename_i hd
      simp only [Bool.and_eq_true, decide_eq_true_eq] at hd
      injection h with h
      obtain ⟨h1, h2⟩ := dig_ofNat hd.1.1
      obtain ⟨h3, h4⟩ := dig_ofNat hd.1.2
      have h5 : 48 ≤ a.toNat := by have := hd.1.1; simp [dig] at this; omega
      subst h
      refine ⟨by omega, ?_⟩
      have e1 : ((a.toNat - 48) * 10 + (c.toNat - 48)) / 10 = a.toNat - 48 := by omega
      have e2 : ((a.toNat - 48) * 10 + (c.toNat - 48)) % 10 = c.toNat - 48 := by omega
      rw [dd, if_neg (by omega), e1, e2, h1, h3]
    · cases h
  | [], h => simp [natS] at h
  | a :: c :: d :: r, h => simp [natS] at h
theorem atoi_dd_fin : ∀ n : _root_.Fin 100, (match Lib.atoiAll (dd n.val) with | .ok v => decide (v = (n.val : Int)) | _ => false) = true := by decide +kernel
theorem atoi_natS {b : List UInt8} {n : Nat} (h : natS b = some n) : Lib.atoiAll b = .ok (n : Int) := by
  obtain ⟨h1, rfl⟩ := natS_some h
  have := atoi_dd_fin ⟨n, h1⟩
  dsimp only at this
  split at this
  · rename_i v hv
    rw [hv, of_decide_eq_true this]
  · cases this
theorem itoa_natS {b : List UInt8} {n : Nat} (h : natS b = some n) : Lib.itoa (n : Int) = b := by
  obtain ⟨h1, rfl⟩ := natS_some h
  rw [Lib.itoa, if_neg (by omega), Int.toNat_natCast, dd_dec h1]
/-- A number whose numeral has at most two digits. -/
theorem natS_itoa {b : List UInt8} {v : Int} (h0 : 0 ≤ v) (h : Lib.itoa v = b) (hl : b.length ≤ 2) : natS b = some v.toNat := by
  rw [Lib.itoa, if_neg (by omega)] at h
  have hlt : v.toNat < 100 := by
    have h1 := Lib.decDigits_length v.toNat
    rw [h] at h1
    have h2 := Lib.lt_pow_nDigits v.toNat
    have h3 : Lib.nDigits v.toNat ≤ 2 := by omega
    have h4 : 10 ^ Lib.nDigits v.toNat ≤ 10 ^ 2 := Nat.pow_le_pow_right (by decide) h3
    omega
  rw [dd_dec hlt] at h
  rw [← h]
  exact natS_dd hlt
theorem natS_len {b : List UInt8} {n : Nat} (h : natS b = some n) : b.length ≤ 2 := by
  match b, h with
  | [a], _ => simp
  | [a, c], _ => simp
  | [], h => simp [natS] at h
  | a :: c :: d :: r, h => simp [natS] at h
end Go.Proofs.YtbdgblnccjpahaaGreatDoor
namespace Go.Proofs.YtbdgblnccjpahaaGreatDoor
open Go.RowKit Go.Shelf
attribute [local go_sem] bl_al bl_drew bl_drewN bl_refl

set_option maxHeartbeats 800000 in
set_option maxRecDepth 20000 in
theorem c_eachJI (f : FuncId) (lb : Array Value) (err : Nat → Int → Int) (J : Nat → World → Prop) (X : List Nat) (A : Option Addr) (l : List Int) (c : Nat) (w : World) (hl : l.length ≤ 1000000)
    (he : Enters Tryz.prog f) (hJ : ∀ k A B, J k A → Below A.heap.size A B → J k B)
    (hp : ∀ k x, l[k]? = some x → ∀ W : World, BX X w W → J k W → Calls Tryz.prog f (#[.int .i64 (k : Nat), .int .i64 x] ++ lb) W (fun e W' => e = .returned (.int .i64 (err k x)) ∧ BX X W W' ∧ (err k x = 0 → J (k + 1) W')))
    (hr : ∀ W, BX X w W → Sl cI 1 W A l) (h0 : J 0 w) :
    Calls Tryz.prog 72 #[.slice A l.length c, .func (.func f) #[] lb] w (fun e W' => e = .returned (.tuple #[.int .i64 (eachS err l 0).1, .int .i64 (eachS err l 0).2]) ∧ BX X w W' ∧ ((eachS err l 0).2 = 0 → J l.length W')) := by
  have he' : ∀ args w, (callFunc f args).run Tryz.prog w = .ok (.enter f args) w := he
  clear he
  have Hp := Lib.hid hp
  have Hr := Lib.hid hr
  have H0 := Lib.hid h0
  have HJ := Lib.hid hJ
  clear hp hr h0 hJ
  obtain ⟨n, Hn⟩ : ∃ n, Hid (l.length = n) := ⟨_, rfl⟩
  rw [Hn.out] at hl ⊢
  go_enter Tryz.func72, Tryz.ntmps72
  go_wp2
  go_loopw [11] (fun i wr => ∃ k : Nat, k ≤ n ∧ i = .int .i64 k ∧ BX X w wr ∧ J k wr ∧ eachS err l 0 = eachS err (l.drop k) k) (fun i _ => n - (intOf i).toNat)
  case atStart => exact ⟨0, Nat.zero_le _, rfl, bx_refl _ _, H0.out, rfl⟩
  case round =>
    obtain ⟨k, hk, rfl, hb, hj, hi⟩ := hrel
    replace hi := Lib.hid hi
    replace hj := Lib.hid hj
    by_cases hlt : k < n
    · have hx : l[k]? = some (l[k]'(by rw [Hn.out]; exact hlt)) := List.getElem?_eq_getElem _
      generalize l[k]'(by rw [Hn.out]; exact hlt) = x at hx
      replace hx := Lib.hid hx
      obtain ⟨b, off, rfl, hc⟩ := (Hr.out wr hb) k x hx.out
      have c0 : wr.cell? ⟨b, off + k, none⟩ = some (.int .i64 x) := by simpa using hc 0 _ rfl
      have hd := Lib.hid (eachS_drop err l k x hx.out)
      have hcall := Lib.hid (Hp.out k x hx.out)
      clear hc
      go_wp2_with fail
      refine Calls.mono (hcall.out _ ?_ ?_) ?_
      · first | exact hb | exact bx_al _ hb
      · first | exact hj.out | exact HJ.out _ _ _ hj.out (bl_al _ (bl_refl _))
      rintro e w3 ⟨rfl, hb3, hj3⟩
      have hb4 : BX X w w3 := BX.trans (by first | exact hb | exact bx_al _ hb) hb3
      replace hj3 := Lib.hid hj3
      clear hb3
      generalize err k x = ex at *
      by_cases h0 : ex = 0
      · have h0' : (ex != 0) = false := by simp [h0]
        replace h0 := Lib.hid h0
        have hj4 := Lib.hid (hj3.out h0.out)
        go_wp2
        go_roundw
        case rel => exact ⟨k + 1, by omega, by go_num, hb4, hj4.out, by rw [hi.out, hd.out, if_pos h0.out]⟩
        case measure => simp [intOf]; omega
      · have h0' : (ex != 0) = true := by simp [h0]
        replace h0 := Lib.hid h0
        go_wp2
        go_ret2
        exact ⟨by rw [hi.out, hd.out, if_neg h0.out] <;> rfl, hb4, fun h => by rw [hi.out, hd.out, if_neg h0.out] at h; exact absurd h h0.out⟩
    · go_wp2
      go_ret2
      have : k = l.length := by have := Hn.out; omega
      exact ⟨by rw [hi.out, this]; simp [eachS], hb, fun _ => (show k = n by omega) ▸ hj.out⟩
theorem c_eachI (f : FuncId) (lb : Array Value) (err : Nat → Int → Int) (A : Option Addr) (l : List Int) (c : Nat) (w : World) (hl : l.length ≤ 1000000)
    (he : Enters Tryz.prog f) (hp : ∀ k x, l[k]? = some x → ∀ W : World, Below w.heap.size w W → Calls Tryz.prog f (#[.int .i64 (k : Nat), .int .i64 x] ++ lb) W (Ret (.int .i64 (err k x)) W))
    (hr : Sl cI 1 w A l) :
    Calls Tryz.prog 72 #[.slice A l.length c, .func (.func f) #[] lb] w (Ret (.tuple #[.int .i64 (eachS err l 0).1, .int .i64 (eachS err l 0).2]) w) :=
  (c_eachJI f lb err (fun _ _ => True) [] A l c w hl he (fun _ _ _ _ _ => trivial) (fun k x hx W hb _ => (hp k x hx W (bx_nil hb)).mono fun _ _ ⟨h1, h2⟩ => ⟨h1, bx_bl [] h2, fun _ => trivial⟩)
    (fun W hb => hr.below (bx_nil hb)) trivial).mono fun _ _ ⟨h1, h2, _⟩ => ⟨h1, bx_nil h2⟩

set_option maxHeartbeats 800000 in
set_option maxRecDepth 20000 in
theorem c_eachJS (f : FuncId) (lb : Array Value) (err : Nat → Sm → Int) (J : Nat → World → Prop) (X : List Nat) (A : Option Addr) (l : List Sm) (c : Nat) (w : World) (hl : l.length ≤ 1000000)
    (he : Enters Tryz.prog f) (hJ : ∀ k A B, J k A → Below A.heap.size A B → J k B)
    (hp : ∀ k x, l[k]? = some x → ∀ W : World, BX X w W → J k W → Calls Tryz.prog f (#[.int .i64 (k : Nat), .agg #[.string x.name, .int .i64 x.per, .int .i64 x.dl, .int .i64 x.len]] ++ lb) W (fun e W' => e = .returned (.int .i64 (err k x)) ∧ BX X W W' ∧ (err k x = 0 → J (k + 1) W')))
    (hr : ∀ W, BX X w W → Sl cSm 4 W A l) (h0 : J 0 w) :
    Calls Tryz.prog 96 #[.slice A l.length c, .func (.func f) #[] lb] w (fun e W' => e = .returned (.tuple #[.int .i64 (eachS err l 0).1, .int .i64 (eachS err l 0).2]) ∧ BX X w W' ∧ ((eachS err l 0).2 = 0 → J l.length W')) := by
  have he' : ∀ args w, (callFunc f args).run Tryz.prog w = .ok (.enter f args) w := he
  clear he
  have Hp := Lib.hid hp
  have Hr := Lib.hid hr
  have H0 := Lib.hid h0
  have HJ := Lib.hid hJ
  clear hp hr h0 hJ
  obtain ⟨n, Hn⟩ : ∃ n, Hid (l.length = n) := ⟨_, rfl⟩
  rw [Hn.out] at hl ⊢
  go_enter Tryz.func96, Tryz.ntmps96
  go_wp2
  go_loopw [11] (fun i wr => ∃ k : Nat, k ≤ n ∧ i = .int .i64 k ∧ BX X w wr ∧ J k wr ∧ eachS err l 0 = eachS err (l.drop k) k) (fun i _ => n - (intOf i).toNat)
  case atStart => exact ⟨0, Nat.zero_le _, rfl, bx_refl _ _, H0.out, rfl⟩
  case round =>
    obtain ⟨k, hk, rfl, hb, hj, hi⟩ := hrel
    replace hi := Lib.hid hi
    replace hj := Lib.hid hj
    by_cases hlt : k < n
    · have hx : l[k]? = some (l[k]'(by rw [Hn.out]; exact hlt)) := List.getElem?_eq_getElem _
      generalize l[k]'(by rw [Hn.out]; exact hlt) = x at hx
      replace hx := Lib.hid hx
      obtain ⟨b, off, rfl, hc⟩ := (Hr.out wr hb) k x hx.out
      have c0 : wr.cell? ⟨b, off + k * 4, none⟩ = some (.string x.name) := hc 0 _ rfl
      have c1 : wr.cell? ⟨b, off + k * 4 + 1, none⟩ = some (.int .i64 x.per) := hc 1 _ rfl
      have c2 : wr.cell? ⟨b, off + k * 4 + 2, none⟩ = some (.int .i64 x.dl) := hc 2 _ rfl
      have c3 : wr.cell? ⟨b, off + k * 4 + 3, none⟩ = some (.int .i64 x.len) := hc 3 _ rfl
      have hd := Lib.hid (eachS_drop err l k x hx.out)
      have hcall := Lib.hid (Hp.out k x hx.out)
      clear hc
      go_wp2_with fail
      refine Calls.mono (hcall.out _ ?_ ?_) ?_
      · first | exact hb | exact bx_al _ hb
      · first | exact hj.out | exact HJ.out _ _ _ hj.out (bl_al _ (bl_refl _))
      rintro e w3 ⟨rfl, hb3, hj3⟩
      have hb4 : BX X w w3 := BX.trans (by first | exact hb | exact bx_al _ hb) hb3
      replace hj3 := Lib.hid hj3
      clear hb3
      generalize err k x = ex at *
      by_cases h0 : ex = 0
      · have h0' : (ex != 0) = false := by simp [h0]
        replace h0 := Lib.hid h0
        have hj4 := Lib.hid (hj3.out h0.out)
        go_wp2
        go_roundw
        case rel => exact ⟨k + 1, by omega, by go_num, hb4, hj4.out, by rw [hi.out, hd.out, if_pos h0.out]⟩
        case measure => simp [intOf]; omega
      · have h0' : (ex != 0) = true := by simp [h0]
        replace h0 := Lib.hid h0
        go_wp2
        go_ret2
        exact ⟨by rw [hi.out, hd.out, if_neg h0.out] <;> rfl, hb4, fun h => by rw [hi.out, hd.out, if_neg h0.out] at h; exact absurd h h0.out⟩
    · go_wp2
      go_ret2
      have : k = l.length := by have := Hn.out; omega
      exact ⟨by rw [hi.out, this]; simp [eachS], hb, fun _ => (show k = n by omega) ▸ hj.out⟩
theorem c_eachS (f : FuncId) (lb : Array Value) (err : Nat → Sm → Int) (A : Option Addr) (l : List Sm) (c : Nat) (w : World) (hl : l.length ≤ 1000000)
    (he : Enters Tryz.prog f) (hp : ∀ k x, l[k]? = some x → ∀ W : World, Below w.heap.size w W → Calls Tryz.prog f (#[.int .i64 (k : Nat), .agg #[.string x.name, .int .i64 x.per, .int .i64 x.dl, .int .i64 x.len]] ++ lb) W (Ret (.int .i64 (err k x)) W))
    (hr : Sl cSm 4 w A l) :
    Calls Tryz.prog 96 #[.slice A l.length c, .func (.func f) #[] lb] w (Ret (.tuple #[.int .i64 (eachS err l 0).1, .int .i64 (eachS err l 0).2]) w) :=
  (c_eachJS f lb err (fun _ _ => True) [] A l c w hl he (fun _ _ _ _ _ => trivial) (fun k x hx W hb _ => (hp k x hx W (bx_nil hb)).mono fun _ _ ⟨h1, h2⟩ => ⟨h1, bx_bl [] h2, fun _ => trivial⟩)
    (fun W hb => hr.below (bx_nil hb)) trivial).mono fun _ _ ⟨h1, h2, _⟩ => ⟨h1, bx_nil h2⟩

set_option maxHeartbeats 800000 in
set_option maxRecDepth 20000 in
theorem c_eachJN (f : FuncId) (lb : Array Value) (err : Nat → ByteArray → Int) (J : Nat → World → Prop) (X : List Nat) (A : Option Addr) (l : List ByteArray) (c : Nat) (w : World) (hl : l.length ≤ 1000000)
    (he : Enters Tryz.prog f) (hJ : ∀ k A B, J k A → Below A.heap.size A B → J k B)
    (hp : ∀ k x, l[k]? = some x → ∀ W : World, BX X w W → J k W → Calls Tryz.prog f (#[.int .i64 (k : Nat), .string x] ++ lb) W (fun e W' => e = .returned (.int .i64 (err k x)) ∧ BX X W W' ∧ (err k x = 0 → J (k + 1) W')))
    (hr : ∀ W, BX X w W → Sl cS 1 W A l) (h0 : J 0 w) :
    Calls Tryz.prog 170 #[.slice A l.length c, .func (.func f) #[] lb] w (fun e W' => e = .returned (.tuple #[.int .i64 (eachS err l 0).1, .int .i64 (eachS err l 0).2]) ∧ BX X w W' ∧ ((eachS err l 0).2 = 0 → J l.length W')) := by
  have he' : ∀ args w, (callFunc f args).run Tryz.prog w = .ok (.enter f args) w := he
  clear he
  have Hp := Lib.hid hp
  have Hr := Lib.hid hr
  have H0 := Lib.hid h0
  have HJ := Lib.hid hJ
  clear hp hr h0 hJ
  obtain ⟨n, Hn⟩ : ∃ n, Hid (l.length = n) := ⟨_, rfl⟩
  rw [Hn.out] at hl ⊢
  go_enter Tryz.func170, Tryz.ntmps170
  go_wp2
  go_loopw [11] (fun i wr => ∃ k : Nat, k ≤ n ∧ i = .int .i64 k ∧ BX X w wr ∧ J k wr ∧ eachS err l 0 = eachS err (l.drop k) k) (fun i _ => n - (intOf i).toNat)
  case atStart => exact ⟨0, Nat.zero_le _, rfl, bx_refl _ _, H0.out, rfl⟩
  case round =>
    obtain ⟨k, hk, rfl, hb, hj, hi⟩ := hrel
    replace hi := Lib.hid hi
    replace hj := Lib.hid hj
    by_cases hlt : k < n
    · have hx : l[k]? = some (l[k]'(by rw [Hn.out]; exact hlt)) := List.getElem?_eq_getElem _
      generalize l[k]'(by rw [Hn.out]; exact hlt) = x at hx
      replace hx := Lib.hid hx
      obtain ⟨b, off, rfl, hc⟩ := (Hr.out wr hb) k x hx.out
      have c0 : wr.cell? ⟨b, off + k, none⟩ = some (.string x) := by simpa using hc 0 _ rfl
      have hd := Lib.hid (eachS_drop err l k x hx.out)
      have hcall := Lib.hid (Hp.out k x hx.out)
      clear hc
      go_wp2_with fail
      refine Calls.mono (hcall.out _ ?_ ?_) ?_
      · first | exact hb | exact bx_al _ hb
      · first | exact hj.out | exact HJ.out _ _ _ hj.out (bl_al _ (bl_refl _))
      rintro e w3 ⟨rfl, hb3, hj3⟩
      have hb4 : BX X w w3 := BX.trans (by first | exact hb | exact bx_al _ hb) hb3
      replace hj3 := Lib.hid hj3
      clear hb3
      generalize err k x = ex at *
      by_cases h0 : ex = 0
      · have h0' : (ex != 0) = false := by simp [h0]
        replace h0 := Lib.hid h0
        have hj4 := Lib.hid (hj3.out h0.out)
        go_wp2
        go_roundw
        case rel => exact ⟨k + 1, by omega, by go_num, hb4, hj4.out, by rw [hi.out, hd.out, if_pos h0.out]⟩
        case measure => simp [intOf]; omega
      · have h0' : (ex != 0) = true := by simp [h0]
        replace h0 := Lib.hid h0
        go_wp2
        go_ret2
        exact ⟨by rw [hi.out, hd.out, if_neg h0.out] <;> rfl, hb4, fun h => by rw [hi.out, hd.out, if_neg h0.out] at h; exact absurd h h0.out⟩
    · go_wp2
      go_ret2
      have : k = l.length := by have := Hn.out; omega
      exact ⟨by rw [hi.out, this]; simp [eachS], hb, fun _ => (show k = n by omega) ▸ hj.out⟩
set_option maxHeartbeats 800000 in
set_option maxRecDepth 20000 in
theorem c_eachJF (f : FuncId) (lb : Array Value) (err : Nat → Fu → Int) (J : Nat → World → Prop) (X : List Nat) (A : Option Addr) (l : List Fu) (c : Nat) (w : World) (hl : l.length ≤ 1000000)
    (he : Enters Tryz.prog f) (hJ : ∀ k A B, J k A → Below A.heap.size A B → J k B)
    (hp : ∀ k x, l[k]? = some x → ∀ W : World, BX X w W → J k W → Calls Tryz.prog f (#[.int .i64 (k : Nat), .agg #[.string x.name, .slice x.A x.ws.length x.c]] ++ lb) W (fun e W' => e = .returned (.int .i64 (err k x)) ∧ BX X W W' ∧ (err k x = 0 → J (k + 1) W')))
    (hr : ∀ W, BX X w W → Sl cFu 2 W A l) (h0 : J 0 w) :
    Calls Tryz.prog 172 #[.slice A l.length c, .func (.func f) #[] lb] w (fun e W' => e = .returned (.tuple #[.int .i64 (eachS err l 0).1, .int .i64 (eachS err l 0).2]) ∧ BX X w W' ∧ ((eachS err l 0).2 = 0 → J l.length W')) := by
  have he' : ∀ args w, (callFunc f args).run Tryz.prog w = .ok (.enter f args) w := he
  clear he
  have Hp := Lib.hid hp
  have Hr := Lib.hid hr
  have H0 := Lib.hid h0
  have HJ := Lib.hid hJ
  clear hp hr h0 hJ
  obtain ⟨n, Hn⟩ : ∃ n, Hid (l.length = n) := ⟨_, rfl⟩
  rw [Hn.out] at hl ⊢
  go_enter Tryz.func172, Tryz.ntmps172
  go_wp2
  go_loopw [11] (fun i wr => ∃ k : Nat, k ≤ n ∧ i = .int .i64 k ∧ BX X w wr ∧ J k wr ∧ eachS err l 0 = eachS err (l.drop k) k) (fun i _ => n - (intOf i).toNat)
  case atStart => exact ⟨0, Nat.zero_le _, rfl, bx_refl _ _, H0.out, rfl⟩
  case round =>
    obtain ⟨k, hk, rfl, hb, hj, hi⟩ := hrel
    replace hi := Lib.hid hi
    replace hj := Lib.hid hj
    by_cases hlt : k < n
    · have hx : l[k]? = some (l[k]'(by rw [Hn.out]; exact hlt)) := List.getElem?_eq_getElem _
      generalize l[k]'(by rw [Hn.out]; exact hlt) = x at hx
      replace hx := Lib.hid hx
      obtain ⟨b, off, rfl, hc⟩ := (Hr.out wr hb) k x hx.out
      have c0 : wr.cell? ⟨b, off + k * 2, none⟩ = some (.string x.name) := hc 0 _ rfl
      have c1 : wr.cell? ⟨b, off + k * 2 + 1, none⟩ = some (.slice x.A x.ws.length x.c) := hc 1 _ rfl
      have hd := Lib.hid (eachS_drop err l k x hx.out)
      have hcall := Lib.hid (Hp.out k x hx.out)
      clear hc
      go_wp2_with fail
      refine Calls.mono (hcall.out _ ?_ ?_) ?_
      · first | exact hb | exact bx_al _ hb
      · first | exact hj.out | exact HJ.out _ _ _ hj.out (bl_al _ (bl_refl _))
      rintro e w3 ⟨rfl, hb3, hj3⟩
      have hb4 : BX X w w3 := BX.trans (by first | exact hb | exact bx_al _ hb) hb3
      replace hj3 := Lib.hid hj3
      clear hb3
      generalize err k x = ex at *
      by_cases h0 : ex = 0
      · have h0' : (ex != 0) = false := by simp [h0]
        replace h0 := Lib.hid h0
        have hj4 := Lib.hid (hj3.out h0.out)
        go_wp2
        go_roundw
        case rel => exact ⟨k + 1, by omega, by go_num, hb4, hj4.out, by rw [hi.out, hd.out, if_pos h0.out]⟩
        case measure => simp [intOf]; omega
      · have h0' : (ex != 0) = true := by simp [h0]
        replace h0 := Lib.hid h0
        go_wp2
        go_ret2
        exact ⟨by rw [hi.out, hd.out, if_neg h0.out] <;> rfl, hb4, fun h => by rw [hi.out, hd.out, if_neg h0.out] at h; exact absurd h h0.out⟩
    · go_wp2
      go_ret2
      have : k = l.length := by have := Hn.out; omega
      exact ⟨by rw [hi.out, this]; simp [eachS], hb, fun _ => (show k = n by omega) ▸ hj.out⟩
set_option maxHeartbeats 800000 in
set_option maxRecDepth 20000 in
theorem c_eachJM (f : FuncId) (lb : Array Value) (err : Nat → Md → Int) (J : Nat → World → Prop) (X : List Nat) (A : Option Addr) (l : List Md) (c : Nat) (w : World) (hl : l.length ≤ 1000000)
    (he : Enters Tryz.prog f) (hJ : ∀ k A B, J k A → Below A.heap.size A B → J k B)
    (hp : ∀ k x, l[k]? = some x → ∀ W : World, BX X w W → J k W → Calls Tryz.prog f (#[.int .i64 (k : Nat), .agg #[.string x.name, .slice x.r.A x.r.l.length x.r.c]] ++ lb) W (fun e W' => e = .returned (.int .i64 (err k x)) ∧ BX X W W' ∧ (err k x = 0 → J (k + 1) W')))
    (hr : ∀ W, BX X w W → Sl cMd 2 W A l) (h0 : J 0 w) :
    Calls Tryz.prog 174 #[.slice A l.length c, .func (.func f) #[] lb] w (fun e W' => e = .returned (.tuple #[.int .i64 (eachS err l 0).1, .int .i64 (eachS err l 0).2]) ∧ BX X w W' ∧ ((eachS err l 0).2 = 0 → J l.length W')) := by
  have he' : ∀ args w, (callFunc f args).run Tryz.prog w = .ok (.enter f args) w := he
  clear he
  have Hp := Lib.hid hp
  have Hr := Lib.hid hr
  have H0 := Lib.hid h0
  have HJ := Lib.hid hJ
  clear hp hr h0 hJ
  obtain ⟨n, Hn⟩ : ∃ n, Hid (l.length = n) := ⟨_, rfl⟩
  rw [Hn.out] at hl ⊢
  go_enter Tryz.func174, Tryz.ntmps174
  go_wp2
  go_loopw [11] (fun i wr => ∃ k : Nat, k ≤ n ∧ i = .int .i64 k ∧ BX X w wr ∧ J k wr ∧ eachS err l 0 = eachS err (l.drop k) k) (fun i _ => n - (intOf i).toNat)
  case atStart => exact ⟨0, Nat.zero_le _, rfl, bx_refl _ _, H0.out, rfl⟩
  case round =>
    obtain ⟨k, hk, rfl, hb, hj, hi⟩ := hrel
    replace hi := Lib.hid hi
    replace hj := Lib.hid hj
    by_cases hlt : k < n
    · have hx : l[k]? = some (l[k]'(by rw [Hn.out]; exact hlt)) := List.getElem?_eq_getElem _
      generalize l[k]'(by rw [Hn.out]; exact hlt) = x at hx
      replace hx := Lib.hid hx
      obtain ⟨b, off, rfl, hc⟩ := (Hr.out wr hb) k x hx.out
      have c0 : wr.cell? ⟨b, off + k * 2, none⟩ = some (.string x.name) := hc 0 _ rfl
      have c1 : wr.cell? ⟨b, off + k * 2 + 1, none⟩ = some (.slice x.r.A x.r.l.length x.r.c) := hc 1 _ rfl
      have hd := Lib.hid (eachS_drop err l k x hx.out)
      have hcall := Lib.hid (Hp.out k x hx.out)
      clear hc
      go_wp2_with fail
      refine Calls.mono (hcall.out _ ?_ ?_) ?_
      · first | exact hb | exact bx_al _ hb
      · first | exact hj.out | exact HJ.out _ _ _ hj.out (bl_al _ (bl_refl _))
      rintro e w3 ⟨rfl, hb3, hj3⟩
      have hb4 : BX X w w3 := BX.trans (by first | exact hb | exact bx_al _ hb) hb3
      replace hj3 := Lib.hid hj3
      clear hb3
      generalize err k x = ex at *
      by_cases h0 : ex = 0
      · have h0' : (ex != 0) = false := by simp [h0]
        replace h0 := Lib.hid h0
        have hj4 := Lib.hid (hj3.out h0.out)
        go_wp2
        go_roundw
        case rel => exact ⟨k + 1, by omega, by go_num, hb4, hj4.out, by rw [hi.out, hd.out, if_pos h0.out]⟩
        case measure => simp [intOf]; omega
      · have h0' : (ex != 0) = true := by simp [h0]
        replace h0 := Lib.hid h0
        go_wp2
        go_ret2
        exact ⟨by rw [hi.out, hd.out, if_neg h0.out] <;> rfl, hb4, fun h => by rw [hi.out, hd.out, if_neg h0.out] at h; exact absurd h h0.out⟩
    · go_wp2
      go_ret2
      have : k = l.length := by have := Hn.out; omega
      exact ⟨by rw [hi.out, this]; simp [eachS], hb, fun _ => (show k = n by omega) ▸ hj.out⟩
set_option maxHeartbeats 400000 in
set_option maxRecDepth 20000 in
theorem c_IndexFuncS (f : FuncId) (lb : Array Value) (p : Sm → Bool) (A : Option Addr) (l : List Sm) (c : Nat) (w : World) (hl : l.length ≤ 1000000)
    (he : Enters Tryz.prog f) (hp : Preds Tryz.prog f lb w (fun x : Sm => .agg #[.string x.name, .int .i64 x.per, .int .i64 x.dl, .int .i64 x.len]) l p) (hr : Sl cSm 4 w A l) :
    Calls Tryz.prog 144 #[.slice A l.length c, .func (.func f) #[] lb] w (Ret (.int .i64 (idxF p l 0)) w) := by
  have he' : ∀ args w, (callFunc f args).run Tryz.prog w = .ok (.enter f args) w := he
  clear he
  have Hp := Lib.hid hp
  have Hr := Lib.hid hr
  clear hp hr
  obtain ⟨n, Hn⟩ : ∃ n, Hid (l.length = n) := ⟨_, rfl⟩
  rw [Hn.out] at hl ⊢
  go_enter Tryz.func144, Tryz.ntmps144
  go_wp2
  go_loopw [8] (fun i wr => ∃ k : Nat, k ≤ n ∧ i = .int .i64 k ∧ Below w.heap.size w wr ∧ idxF p l 0 = idxF p (l.drop k) k) (fun i _ => n - (intOf i).toNat)
  case atStart => exact ⟨0, Nat.zero_le _, rfl, Below.refl _ _, rfl⟩
  case round =>
    obtain ⟨k, hk, rfl, hb, hi⟩ := hrel
    replace hi := Lib.hid hi
    by_cases hlt : k < n
    · have hx : l[k]? = some (l[k]'(by rw [Hn.out]; exact hlt)) := List.getElem?_eq_getElem _
      generalize l[k]'(by rw [Hn.out]; exact hlt) = x at hx
      replace hx := Lib.hid hx
      obtain ⟨b, off, rfl, hc⟩ := (Hr.out.below hb) k x hx.out
      have c0 : wr.cell? ⟨b, off + k * 4, none⟩ = some (.string x.name) := hc 0 _ rfl
      have c1 : wr.cell? ⟨b, off + k * 4 + 1, none⟩ = some (.int .i64 x.per) := hc 1 _ rfl
      have c2 : wr.cell? ⟨b, off + k * 4 + 2, none⟩ = some (.int .i64 x.dl) := hc 2 _ rfl
      have c3 : wr.cell? ⟨b, off + k * 4 + 3, none⟩ = some (.int .i64 x.len) := hc 3 _ rfl
      have hm : x ∈ l := List.mem_of_getElem? hx.out
      have hd := Lib.hid (idxF_drop p l k x hx.out)
      clear hc hx
      cases hpx : p x
      all_goals
        have hcall := Hp.out x hm wr hb
        rw [hpx] at hcall
        replace hcall := Lib.hid hcall
        replace hpx := Lib.hid hpx
        clear hm
        go_wp2_with fail
        refine hcall.out.mono ?_
        rintro e w3 ⟨rfl, hb3⟩
        go_wp2
      · go_roundw
        case rel => exact ⟨k + 1, by omega, by go_num, bl_tr hb hb3, by rw [hi.out, hd.out, hpx.out]; simp⟩
        case measure => simp [intOf]; omega
      · go_ret
        exact ⟨by rw [hi.out, hd.out, hpx.out] <;> rfl, bl_tr hb hb3⟩
    · go_wp2
      go_ret
      have : k = l.length := by have := Hn.out; omega
      exact ⟨by rw [hi.out, this]; simp [idxF], hb⟩
set_option maxRecDepth 20000 in
theorem c_ContainsFuncS (f : FuncId) (lb : Array Value) (p : Sm → Bool) (A : Option Addr) (l : List Sm) (c : Nat) (w : World) (hl : l.length ≤ 1000000)
    (he : Enters Tryz.prog f) (hp : Preds Tryz.prog f lb w (fun x : Sm => .agg #[.string x.name, .int .i64 x.per, .int .i64 x.dl, .int .i64 x.len]) l p) (hr : Sl cSm 4 w A l) :
    Calls Tryz.prog 98 #[.slice A l.length c, .func (.func f) #[] lb] w (Ret (.bool (l.any p)) w) := by
  have hcall := Lib.hid (c_IndexFuncS f lb p A l c w hl he hp hr)
  have hge := Lib.hid (idxF_ge p l 0 (Int.le_refl 0))
  clear he hp hr
  generalize l.length = n at *
  go_enter Tryz.func98, Tryz.ntmps98
  go_wp2_with fail
  refine hcall.out.mono ?_
  rintro e w3 ⟨rfl, hb3⟩
  go_wp2
  go_ret
  exact ⟨by rw [hge.out]; rfl, hb3⟩

set_option maxHeartbeats 400000 in
set_option maxRecDepth 20000 in
theorem c_IndexFuncW (f : FuncId) (lb : Array Value) (p : Rw → Bool) (A : Option Addr) (l : List Rw) (c : Nat) (w : World) (hl : l.length ≤ 1000000)
    (he : Enters Tryz.prog f) (hp : Preds Tryz.prog f lb w (fun x : Rw => .slice x.A x.l.length x.c) l p) (hr : Sl cRw 1 w A l) :
    Calls Tryz.prog 208 #[.slice A l.length c, .func (.func f) #[] lb] w (Ret (.int .i64 (idxF p l 0)) w) := by
  have he' : ∀ args w, (callFunc f args).run Tryz.prog w = .ok (.enter f args) w := he
  clear he
  have Hp := Lib.hid hp
  have Hr := Lib.hid hr
  clear hp hr
  obtain ⟨n, Hn⟩ : ∃ n, Hid (l.length = n) := ⟨_, rfl⟩
  rw [Hn.out] at hl ⊢
  go_enter Tryz.func208, Tryz.ntmps208
  go_wp2
  go_loopw [8] (fun i wr => ∃ k : Nat, k ≤ n ∧ i = .int .i64 k ∧ Below w.heap.size w wr ∧ idxF p l 0 = idxF p (l.drop k) k) (fun i _ => n - (intOf i).toNat)
  case atStart => exact ⟨0, Nat.zero_le _, rfl, Below.refl _ _, rfl⟩
  case round =>
    obtain ⟨k, hk, rfl, hb, hi⟩ := hrel
    replace hi := Lib.hid hi
    by_cases hlt : k < n
    · have hx : l[k]? = some (l[k]'(by rw [Hn.out]; exact hlt)) := List.getElem?_eq_getElem _
      generalize l[k]'(by rw [Hn.out]; exact hlt) = x at hx
      replace hx := Lib.hid hx
      obtain ⟨b, off, rfl, hc⟩ := (Hr.out.below hb) k x hx.out
      have c0 : wr.cell? ⟨b, off + k, none⟩ = some (.slice x.A x.l.length x.c) := by simpa using hc 0 _ rfl
      have hm : x ∈ l := List.mem_of_getElem? hx.out
      have hd := Lib.hid (idxF_drop p l k x hx.out)
      clear hc hx
      cases hpx : p x
      all_goals
        have hcall := Hp.out x hm wr hb
        rw [hpx] at hcall
        replace hcall := Lib.hid hcall
        replace hpx := Lib.hid hpx
        clear hm
        go_wp2_with fail
        refine hcall.out.mono ?_
        rintro e w3 ⟨rfl, hb3⟩
        go_wp2
      · go_roundw
        case rel => exact ⟨k + 1, by omega, by go_num, bl_tr hb hb3, by rw [hi.out, hd.out, hpx.out]; simp⟩
        case measure => simp [intOf]; omega
      · go_ret
        exact ⟨by rw [hi.out, hd.out, hpx.out] <;> rfl, bl_tr hb hb3⟩
    · go_wp2
      go_ret
      have : k = l.length := by have := Hn.out; omega
      exact ⟨by rw [hi.out, this]; simp [idxF], hb⟩
set_option maxRecDepth 20000 in
theorem c_ContainsFuncW (f : FuncId) (lb : Array Value) (p : Rw → Bool) (A : Option Addr) (l : List Rw) (c : Nat) (w : World) (hl : l.length ≤ 1000000)
    (he : Enters Tryz.prog f) (hp : Preds Tryz.prog f lb w (fun x : Rw => .slice x.A x.l.length x.c) l p) (hr : Sl cRw 1 w A l) :
    Calls Tryz.prog 178 #[.slice A l.length c, .func (.func f) #[] lb] w (Ret (.bool (l.any p)) w) := by
  have hcall := Lib.hid (c_IndexFuncW f lb p A l c w hl he hp hr)
  have hge := Lib.hid (idxF_ge p l 0 (Int.le_refl 0))
  clear he hp hr
  generalize l.length = n at *
  go_enter Tryz.func178, Tryz.ntmps178
  go_wp2_with fail
  refine hcall.out.mono ?_
  rintro e w3 ⟨rfl, hb3⟩
  go_wp2
  go_ret
  exact ⟨by rw [hge.out]; rfl, hb3⟩
end Go.Proofs.YtbdgblnccjpahaaGreatDoor
namespace Go.Proofs.YtbdgblnccjpahaaGreatDoor
open Go.RowKit Go.Shelf
attribute [local go_sem] bl_al bl_drew bl_drewN bl_refl
set_option maxRecDepth 20000
theorem c_within (n lo hi : Int) (w : World) : Calls Tryz.prog 71 #[.int .i64 n, .int .i64 lo, .int .i64 hi] w (Same (.bool (inR n lo hi)) w) := by
  go_enter Tryz.func71, Tryz.ntmps71
  go_wp2
  all_goals (go_ret; exact ⟨by first | (simp [inR, *]; done) | (simp [inR]; intros; omega), rfl⟩)

theorem c_unless (b : Bool) (x : Int) (w : World) : Calls Tryz.prog 58 #[.bool b, .int .i64 x] w (Same (.int .i64 (unl b x)) w) := by
  cases b
  all_goals
    go_enter Tryz.func58, Tryz.ntmps58
    go_wp2
    go_ret
    exact ⟨rfl, rfl⟩

set_option maxRecDepth 20000 in
theorem c_firstL (A : Option Addr) (l : List Int) (c : Nat) (w : World) (hl : l.length ≤ 1000000) (hr : Sl cI 1 w A l) :
    Calls Tryz.prog 74 #[.slice A l.length c] w (Same (.int .i64 (fstE l)) w) := by
  have Hr := Lib.hid hr
  clear hr
  obtain ⟨n, Hn⟩ : ∃ n, Hid (l.length = n) := ⟨_, rfl⟩
  rw [Hn.out] at hl ⊢
  go_enter Tryz.func74, Tryz.ntmps74
  go_wp2
  go_loop [7] (fun i => ∃ k : Nat, k ≤ n ∧ i = .int .i64 k ∧ fstE l = fstE (l.drop k)) (fun i => n - (intOf i).toNat)
  case atStart => exact ⟨0, Nat.zero_le _, rfl, rfl⟩
  case round =>
    obtain ⟨k, hk, rfl, hi⟩ := hrel
    replace hi := Lib.hid hi
    by_cases hlt : k < n
    · have hx : l[k]? = some (l[k]'(by rw [Hn.out]; exact hlt)) := List.getElem?_eq_getElem _
      generalize l[k]'(by rw [Hn.out]; exact hlt) = x at hx
      replace hx := Lib.hid hx
      obtain ⟨b, off, rfl, hc⟩ := Hr.out k x hx.out
      have c0 : w.cell? ⟨b, off + k, none⟩ = some (.int .i64 x) := by simpa using hc 0 _ rfl
      have hd := Lib.hid (fstE_drop l k x hx.out)
      clear hc
      by_cases h0 : x = 0
      · have h0' : (x != 0) = false := by simp [h0]
        replace h0 := Lib.hid h0
        go_wp2
        go_round
        case rel => exact ⟨k + 1, by omega, by go_num, by rw [hi.out, hd.out, if_pos h0.out]⟩
        case measure => simp [intOf]; omega
      · have h0' : (x != 0) = true := by simp [h0]
        replace h0 := Lib.hid h0
        go_wp2
        go_ret
        exact ⟨by rw [hi.out, hd.out, if_neg h0.out] <;> rfl, rfl⟩
    · go_wp2
      go_ret
      have : k = l.length := by have := Hn.out; omega
      exact ⟨by rw [hi.out, this]; simp [fstE], rfl⟩

theorem c_first2 {w : World} {g t : Nat} {a b : Int} (h : Blk w g t #[.int .i64 a, .int .i64 b]) : Calls Tryz.prog 74 #[.slice (some ⟨g, 0, none⟩) 2 2] w (Same (.int .i64 (fstE [a, b])) w) :=
  c_firstL (some ⟨g, 0, none⟩) [a, b] 2 w (by simp) (Blk.ints (l := [a, b]) h)
theorem c_first3 {w : World} {g t : Nat} {a b c : Int} (h : Blk w g t #[.int .i64 a, .int .i64 b, .int .i64 c]) : Calls Tryz.prog 74 #[.slice (some ⟨g, 0, none⟩) 3 3] w (Same (.int .i64 (fstE [a, b, c])) w) :=
  c_firstL (some ⟨g, 0, none⟩) [a, b, c] 3 w (by simp) (Blk.ints (l := [a, b, c]) h)
theorem c_isByte (n : Int) (w : World) : Calls Tryz.prog 130 #[.int .i64 n] w (Same (.bool (byteB n)) w) := by
  go_enter Tryz.func130, Tryz.ntmps130
  go_wp2_with (go_at_call 71; (with_reducible refine (c_within _ _ _ _).mono ?_); rintro e w3 ⟨rfl, rfl⟩)
  go_ret
  exact ⟨rfl, rfl⟩
end Go.Proofs.YtbdgblnccjpahaaGreatDoor
namespace Go.Proofs.YtbdgblnccjpahaaGreatDoor
open Go.RowKit Go.Shelf
attribute [local go_sem] bl_al bl_drew bl_drewN bl_refl
set_option maxRecDepth 20000
/-- math/bits.deBruijn64tab as its initialiser lays it. -/
def Tab (w : World) : Prop := ∀ j, j < 64 → w.cell? ⟨2, j, none⟩ = some (.int .u8 ((Lib.deBruijn64tab.getD j 0 : Nat) : Int))
theorem Tab.below {w w' : World} (h : Tab w) (hb : Below w.heap.size w w') : Tab w' := fun j hj => kcell hb (h j hj)
theorem Tab.bx {X : List Nat} {w w' : World} (h : Tab w) (hb : BX X w w') (hX : 2 ∉ X) : Tab w' := fun j hj => by
  have h1 := h j hj
  have hlt := World.block_lt_of_cell? w _ h1
  have : w'.heap[2 ]? = w.heap[2 ]? := hb.block 2 hlt hX
  simp only [World.cell?] at h1 ⊢
  rw [this]
  exact h1
theorem tz_key (x a : Nat) (hx : x < 18446744073709551616) (hx0 : x ≠ 0) (hlow : x &&& (18446744073709551616 - x) = a) :
    IntKind.u64.wrap (bits BinOp.and IntKind.u64 (x : Int) (IntKind.u64.wrap (-(x : Int))) * 285870213051353865) / 288230376151711744 = ((a * 285870213051353865 % 18446744073709551616 / 288230376151711744 : Nat) : Int) := by
  have e1 : IntKind.u64.wrap (-(x : Int)) = ((18446744073709551616 - x : Nat) : Int) := by rw [IntKind.wrap_u64]; omega
  rw [e1, bits_and_u64_nat x _ hx (by omega), hlow, IntKind.wrap_u64]
  omega
set_option maxHeartbeats 1000000 in
theorem tz_core (x k idx : Nat) (w : World) (hx0 : ((x : Int) == 0) = false)
    (key : IntKind.u64.wrap (bits BinOp.and IntKind.u64 (x : Int) (IntKind.u64.wrap (-(x : Int))) * 285870213051353865) / 288230376151711744 = (idx : Int))
    (hi : idx < 64) (hk : k < 64) (hcell : w.cell? ⟨2, idx, none⟩ = some (.int .u8 k)) :
    Calls Tryz.prog 181 #[.int .u64 x] w (Same (.int .i64 k) w) := by
  go_enter Tryz.func181, Tryz.ntmps181
  go_wp2_with (simp only [key])
  go_ret
  exact ⟨rfl, rfl⟩
theorem c_tz (x : Nat) (w : World) (hx0 : x ≠ 0) (hx : x < 1024) (hT : Tab w) : Calls Tryz.prog 142 #[.int .u64 x] w (Same (.int .i64 (Lib.ctz 64 x)) w) := by
  obtain ⟨hlow, hk⟩ := Lib.lowest_bit 64 x hx0 (by omega)
  obtain ⟨hi, htab⟩ := Lib.deBruijn64_at _ hk
  have hcell := hT _ hi
  rw [htab] at hcell
  have hc := Lib.hid (tz_core x _ _ w (by simp; omega) (tz_key x _ (by omega) hx0 hlow) hi hk hcell)
  clear hcell hi htab hlow hk
  generalize Lib.ctz 64 x = k at *
  go_enter Tryz.func142, Tryz.ntmps142
  go_wp2_with (go_at_call 181; (with_reducible refine hc.out.mono ?_); rintro e w3 ⟨rfl, rfl⟩)
  go_ret
  exact ⟨rfl, rfl⟩
theorem c_Ones64 : ∃ f : Nat → Int, (∀ (s : Nat) (w : World), Calls Tryz.prog 206 #[.int .u64 (s : Nat)] w (Same (.int .i64 (f s)) w)) ∧ ∀ s, s < 1024 → f s = (sizeS s : Nat) := by
  apply Exists.intro
  apply And.intro
  · intro s w
    go_enter Tryz.func206, Tryz.ntmps206
    go_wp2
    go_ret
    exact ⟨rfl, rfl⟩
  · decide +kernel
theorem c_Ones (s : Nat) (w : World) (hs : s < 1024) : Calls Tryz.prog 176 #[.int .u64 (s : Nat)] w (Same (.int .i64 (sizeS s : Nat)) w) := by
  obtain ⟨f, h1, h2⟩ := c_Ones64
  have hc := Lib.hid fun W : World => h1 s W
  have e := h2 s hs
  rw [e] at hc
  clear h1 h2 e hs
  go_enter Tryz.func176, Tryz.ntmps176
  go_wp2_with (go_at_call 206; (with_reducible refine (hc.out _).mono ?_); rintro e w3 ⟨rfl, rfl⟩)
  go_ret
  exact ⟨rfl, rfl⟩
theorem c_size (s : Nat) (w : World) (hs : s < 1024) : Calls Tryz.prog 139 #[.int .u64 (s : Nat)] w (Same (.int .i64 (sizeS s : Nat)) w) := by
  have hc := Lib.hid fun W : World => c_Ones s W hs
  go_enter Tryz.func139, Tryz.ntmps139
  go_wp2_with (go_at_call 176; (with_reducible refine (hc.out _).mono ?_); rintro e w3 ⟨rfl, rfl⟩)
  go_ret
  exact ⟨rfl, rfl⟩
/-- The list of a set begins with the lowest number, and goes on with the others. -/
theorem list_step : ∀ s : Nat, s < 1024 → s ≠ 0 → listS s = ((Lib.ctz 64 s : Nat) : Int) :: listS (s &&& (s - 1)) ∧ s &&& (s - 1) < s := by decide +kernel
theorem list_zero : listS 0 = [] := by decide
theorem setL_len (s : Nat) : ∀ k, (setL s k).length ≤ k
  | 0 => Nat.le_refl 0
  | k + 1 => by
    have := setL_len s k
    rw [setL, List.length_append]
    split <;> simp <;> omega
theorem listS_len (s : Nat) : (listS s).length ≤ 10 := setL_len s 10
set_option maxHeartbeats 4000000 in
theorem c_list (s : Nat) (w : World) (hs : s < 1024) (hT : Tab w) : Calls Tryz.prog 90 #[.int .u64 (s : Nat)] w (RetI (listS s) w) := by
  obtain ⟨i0, hi, hz0, hz1, hz2⟩ := info_parts infoI
  have HT := Lib.hid hT
  clear hT
  have htot := listS_len s
  have hst := Lib.hid list_step
  have hs0 := Lib.hid hs
  go_enter Tryz.func90, Tryz.ntmps90
  go_wp2
  go_loopw [0, 3] (fun x v wr => ∃ (r : Nat) (d : List Int), x = .int .u64 (r : Nat) ∧ r < 1024 ∧ d ++ listS r = listS s ∧ Below w.heap.size w wr ∧ wr.ownsRow w.heap.size 3 1 v d.length (d.map (.int .i64))) (fun x _ _ => (intOf x).toNat)
  case atStart => exact ⟨s, [], rfl, hs0.out, rfl, Below.refl _ _, World.ownsRow_nil _ _ _ _⟩
  case round =>
    obtain ⟨r, d, rfl, hr, hd, hb, hown⟩ := hrel
    by_cases h0 : r = 0
    · subst h0
      have hd' : Hid (d = listS s) := Lib.hid (by rw [← hd, list_zero, List.append_nil])
      clear hd
      replace hown := Lib.hid hown
      go_wp2
      go_ret
      exact RetI.of hb (by rw [← hd'.out]; exact hown.out)
    · have h0' : ((r : Int) != 0) = true := by simp; omega
      obtain ⟨h1, h2⟩ := hst.out r hr h0
      have hdl : d.length ≤ 10 := by
        have := congrArg List.length hd
        rw [List.length_append] at this
        omega
      have hand := u64_and_nat r (r - 1) (by omega) (by omega)
      rw [show ((r - 1 : Nat) : Int) = (r : Int) - 1 by omega] at hand
      have htz := Lib.hid fun W (hb : Below w.heap.size w W) => c_tz r W h0 hr (HT.out.below hb)
      rw [h1] at hd
      generalize Lib.ctz 64 r = z at *
      generalize r &&& (r - 1) = r' at *
      replace hand := Lib.hid hand
      replace hd : Hid ((d ++ [(z : Int)]) ++ listS r' = listS s) := Lib.hid (by rw [← hd]; simp)
      clear h1
      replace hown := Lib.hid hown
      have hsz := hb.size
      go_wp2_with (first | (go_at_call 142; (with_reducible refine (htz.out _ hb).mono ?_); rintro e w3 ⟨rfl, rfl⟩) | (at_builtin; refine wpList_append_own _ rfl _ _ 23 rfl w.heap.size 3 i0 (.int .i64 0) 1 8 Tryz.underlying23 hi hz0 hz1 hz2 rfl (by decide) _ _ _ rfl (hown.out.alloc _) ⟨wr.heap.size, 0, none⟩ 1 1 [.int .i64 z] rfl rfl ?c1 ?c2 ?c3 ?c4 ?c5 ?_))
      case c1 =>
        intro j u hj
        match j, hj with
        | 0, hj => simp at hj; subst hj; simp [Addr.add]
      case c2 => intro u hu; simp at hu; subst hu; rfl
      case c3 => unfold maxLen; omega
      case c4 => omega
      case c5 => simp; omega
      intro v' w1 hown' hgrow _
      have hb1 : Below w.heap.size w w1 := (bl_al _ hb).grown hgrow (by simp; omega) (own_ge hown.out)
      clear hgrow hown
      replace hown' := Lib.hid hown'
      go_wp2_with (simp only [hand.out])
      go_roundw
      case rel => exact ⟨r', d ++ [(z : Int)], rfl, by omega, hd.out, hb1, by simpa using hown'.out⟩
      case measure => simp [intOf]; omega
theorem or_step (m k : Nat) (hm : m < 1024) (hk : k ≤ 62) : bits .or .u64 (m : Int) (IntKind.u64.wrap (2 ^ k)) = ((m ||| 2 ^ k : Nat) : Int) := by
  have h1 : (2 : Nat) ^ k ≤ 2 ^ 62 := Nat.pow_le_pow_right (by decide) hk
  have e : ((2 : Int) ^ k) = ((2 ^ k : Nat) : Int) := by simp
  have h2 : (2 : Nat) ^ 62 = 4611686018427387904 := by decide
  have h3 := Nat.two_pow_pos k
  rw [e, IntWalk.u64_in _ (by omega)]
  exact u64_or_nat m (2 ^ k) (by omega) (by omega)
theorem or_bd {m k : Nat} (hm : m < 1024) (hk : k < 10) : m ||| 2 ^ k < 1024 := Nat.or_lt_two_pow (n := 10) hm (Nat.pow_lt_pow_right (by decide) hk)
theorem setN_snoc (l : List Int) (n : Int) : setN (l ++ [n]) = setN l ||| 2 ^ n.toNat := by simp [setN, List.foldl_append]
theorem setN_lt {l : List Int} (h : ∀ n ∈ l, 0 ≤ n ∧ n < 10) : setN l < 1024 := by
  suffices H : ∀ (l : List Int) (s : Nat), s < 1024 → (∀ n ∈ l, 0 ≤ n ∧ n < 10) → l.foldl (fun s n => s ||| 2 ^ n.toNat) s < 1024 from H l 0 (by decide) h
  intro l
  induction l with
  | nil => exact fun s hs _ => hs
  | cons x l ih =>
    intro s hs hl
    have := hl x (by simp)
    exact ih _ (or_bd hs (by omega)) fun n hn => hl n (by simp [hn])
set_option maxHeartbeats 2000000 in
theorem c_setOf (l : List Int) (A : Option Addr) (c : Nat) (w : World) (hr : Sl cI 1 w A l) (hl : l.length ≤ 1000000) (hb : ∀ n ∈ l, 0 ≤ n ∧ n < 10) : Calls Tryz.prog 93 #[.slice A l.length c] w (Same (.int .u64 (setN l : Nat)) w) := by
  have Hr := Lib.hid hr
  clear hr
  have hlt := Lib.hid fun k => setN_lt (l := l.take k) fun n hn => hb n (List.mem_of_mem_take hn)
  have hst := Lib.hid fun k (n : Nat) (h : l[k]? = some (n : Int)) => (show setN (l.take (k + 1)) = setN (l.take k) ||| 2 ^ n by rw [List.take_add_one, h]; exact setN_snoc _ _)
  have h0 : Hid (setN (l.take 0) = 0) := rfl
  have hend : Hid (setN (l.take l.length) = setN l) := Lib.hid (by rw [List.take_length])
  have hbd := Lib.hid fun k x (hx : l[k]? = some x) => hb x (List.mem_of_getElem? hx)
  obtain ⟨g, hg⟩ : ∃ g : Nat → Nat, ∀ k, setN (l.take k) = g k := ⟨_, fun _ => rfl⟩
  simp only [hg] at hlt hst h0 hend
  clear hg hb
  obtain ⟨n, Hn⟩ : ∃ n, Hid (l.length = n) := ⟨_, rfl⟩
  rw [Hn.out] at hl hend ⊢
  go_enter Tryz.func93, Tryz.ntmps93
  go_wp2
  go_loop [3, 8] (fun o i => ∃ k : Nat, k ≤ n ∧ i = .int .i64 k ∧ o = .int .u64 (g k : Nat)) (fun _ i => n - (intOf i).toNat)
  case atStart => exact ⟨0, Nat.zero_le _, rfl, by rw [h0.out]; rfl⟩
  case round =>
    obtain ⟨k, hk, rfl, rfl⟩ := hrel
    by_cases hltn : k < n
    · have hx : l[k]? = some (l[k]'(by rw [Hn.out]; exact hltn)) := List.getElem?_eq_getElem _
      generalize l[k]'(by rw [Hn.out]; exact hltn) = x at hx
      have hxb := hbd.out k x hx
      obtain ⟨m, rfl⟩ : ∃ m : Nat, x = m := ⟨x.toNat, by omega⟩
      obtain ⟨b, off, rfl, hc⟩ := Hr.out k _ hx
      have c0 : w.cell? ⟨b, off + k, none⟩ = some (.int .i64 m) := by simpa using hc 0 _ rfl
      have hs := Lib.hid (hst.out k m hx)
      have hor := Lib.hid (or_step (g k) m (hlt.out k) (by omega))
      clear hc hx
      go_wp2_with (simp only [hor.out])
      go_round
      case rel => exact ⟨k + 1, by omega, by go_num, by rw [hs.out]⟩
      case measure => simp [intOf]; omega
    · go_wp2
      go_ret
      have : k = n := by omega
      exact ⟨by rw [this, hend.out] <;> rfl, rfl⟩
end Go.Proofs.YtbdgblnccjpahaaGreatDoor
namespace Go.Proofs.YtbdgblnccjpahaaGreatDoor
open Go.RowKit Go.Shelf
attribute [local go_sem] bl_al bl_drew bl_drewN bl_refl bx_al bx_drew bx_drewN bx_refl
set_option maxRecDepth 20000
theorem var_bl {w w' : World} {n : String} {cs : Array Value} (h : w.var? Tryz.prog n = some cs) (hb : Below w.heap.size w w') : w'.var? Tryz.prog n = some cs := by
  unfold World.var? at h ⊢
  cases hg : Tryz.prog.globalNamed n with
  | none => rw [hg] at h; cases h
  | some g =>
    rw [hg] at h
    simp only [Option.bind_some] at h ⊢
    cases hk : w.heap[g]? with
    | none => rw [hk] at h; cases h
    | some o =>
      rw [hb.block g (Array.getElem?_eq_some_iff.1 hk).1, hk]
      rw [hk] at h
      exact h
/-- What the library's own variables hold. -/
structure Env (w : World) : Prop where
  tab : Tab w
  syn : ∃ tp p, w.var? Tryz.prog "strconv.ErrSyntax" = some #[.iface tp p]
  rng : ∃ tp p, w.var? Tryz.prog "strconv.ErrRange" = some #[.iface tp p]
  pow : Lib.TabIs Tryz.prog w "internal/strconv.uint64pow10" .u64 Lib.pow10Tab
theorem Env.below {w w' : World} (h : Env w) (hb : Below w.heap.size w w') : Env w' :=
  ⟨h.tab.below hb, h.syn.imp fun _ h => h.imp fun _ h => var_bl h hb, h.rng.imp fun _ h => h.imp fun _ h => var_bl h hb, var_bl h.pow hb⟩
theorem c_AtoiOk (s : ByteArray) (hs : s.size ≤ 1000000) (v : Int) (h : Lib.atoiAll s.data.toList = .ok v) (w : World) : Calls Tryz.prog 159 #[.string s] w (Ret (.tuple #[.int .i64 v, .nilIface]) w) :=
  (Tryz.strconv_Atoi_ok s (by omega) v h w).mono fun e w' ⟨he, hw⟩ => ⟨he, by
    rcases hw with rfl | ⟨t, rfl⟩
    · exact bl_refl w'
    · exact Lib.bytesWorld_below _ _ _⟩
/-- An error of Atoi. -/
theorem c_AtoiErr (s : ByteArray) (hs : s.size ≤ 1000000) (h : ∀ v, Lib.atoiAll s.data.toList ≠ .ok v) (w : World) (hE : Env w) : Calls Tryz.prog 159 #[.string s] w (fun e w' => Below w.heap.size w w' ∧ ∃ x t N, e = .returned (.tuple #[.int .i64 x, .iface t (.pointer (some ⟨N, 0, none⟩))])) := by
  rcases ha : Lib.atoiAll s.data.toList with v | _ | _
  · exact absurd ha (h v)
  · obtain ⟨tp, p, hv⟩ := hE.syn
    exact (Tryz.strconv_Atoi_syntax_var s (by omega) ha tp p w hv).mono fun e w' ⟨N, he, _, _, hb⟩ => ⟨hb, _, _, N, he⟩
  · obtain ⟨tp, p, hv⟩ := hE.rng
    exact (Tryz.strconv_Atoi_range_var s (by omega) ha tp p w hv).mono fun e w' ⟨N, he, _, _, hb⟩ => ⟨hb, _, _, N, he⟩
theorem c_Itoa (n : Int) (h0 : -9223372036854775808 ≤ n) (h1 : n ≤ 9223372036854775807) (w : World) (hE : Env w) : Calls Tryz.prog 121 #[.int .i64 n] w (Ret (.string ⟨(Lib.itoa n).toArray⟩) w) :=
  (Tryz.strconv_Itoa n h0 h1 w hE.pow).mono fun e w' ⟨he, k, os, hw⟩ => ⟨he, by rw [hw]; exact Lib.below_grow _ _ (Nat.le_refl _) _ _⟩
theorem str_ext {s : ByteArray} {l : List UInt8} (h : s.data.toList = l) : (⟨l.toArray⟩ : ByteArray) = s := by
  subst h
  rfl
theorem str_ne {s : ByteArray} {l : List UInt8} (h : l ≠ s.data.toList) : (l == s.toList) = false := by
  rw [ByteArray.toList_eq, beq_eq_false_iff_ne]
  exact h
set_option maxHeartbeats 1000000 in
theorem c_number (s : ByteArray) (hs : s.size ≤ 1000000) (w : World) (hE : Env w) :
    Calls Tryz.prog 120 #[.string s] w (fun e w' => Below w.heap.size w w' ∧ ∃ v : Int, e = .returned (.tuple #[.int .i64 v, .bool (natS s.data.toList).isSome]) ∧ ∀ n : Nat, natS s.data.toList = some n → v = n) := by
  by_cases hok : ∃ v, Lib.atoiAll s.data.toList = .ok v
  · obtain ⟨v, hv⟩ := hok
    have hb := Lib.atoiAll_bounds hv
    have hA := Lib.hid (c_AtoiOk s hs v hv w)
    have hI := Lib.hid fun W (hW : Env W) => c_Itoa v hb.1 hb.2 W hW
    have hEn := Lib.hid fun W (h : Below w.heap.size w W) => hE.below h
    have hn : Hid (∀ n : Nat, natS s.data.toList = some n → v = n) := fun n h => by
      have := atoi_natS h
      rw [hv] at this
      injection this
    have hyes : Hid (0 ≤ v → Lib.itoa v = s.data.toList → s.size ≤ 2 → (natS s.data.toList).isSome = true) := fun h0 h1 h2 => by
      rw [natS_itoa h0 h1 h2]; rfl
    have hno : Hid (¬ (0 ≤ v ∧ Lib.itoa v = s.data.toList ∧ s.size ≤ 2) → (natS s.data.toList).isSome = false) := fun h => by
      cases h1 : natS s.data.toList with
      | none => rfl
      | some n =>
        exfalso
        have h2 := hn.out n h1
        subst h2
        exact h ⟨Int.natCast_nonneg n, itoa_natS h1, natS_len h1⟩
    obtain ⟨hb0, hb1⟩ := hb
    have he := Lib.hid (@str_ext s (Lib.itoa v))
    have hne := Lib.hid (@str_ne s (Lib.itoa v))
    have hlen : Hid (s.data.toList.length = s.size) := rfl
    clear hE hv
    generalize (natS s.data.toList).isSome = ok at *
    generalize Lib.itoa v = L at *
    go_enter Tryz.func120, Tryz.ntmps120
    go_wp2_with fail
    refine hA.out.mono ?_
    rintro e w1 ⟨rfl, hb2⟩
    by_cases h0 : 0 ≤ v
    rotate_left
    · have e1 := hno.out (fun h => h0 h.1)
      subst e1
      go_wp2
      refine bodyPost_ret (v := .tuple #[.int .i64 v, .bool false]) (by simp [results, Tryz.results120, go_sem]) rfl ⟨hb2, v, rfl, hn.out⟩
    have hEw := hEn.out w1 hb2
    go_wp2_with fail
    refine (hI.out w1 hEw).mono ?_
    rintro e w2 ⟨rfl, hb3⟩
    have hb4 := bl_tr hb2 hb3
    by_cases h1 : L = s.data.toList
    rotate_left
    · have e1 := hno.out (fun h => h1 h.2.1)
      have e2 := hne.out h1
      subst e1
      replace h1 := Lib.hid h1
      go_wp2
      refine bodyPost_ret (v := .tuple #[.int .i64 v, .bool false]) (by simp [results, Tryz.results120, go_sem]) rfl ⟨hb4, v, rfl, hn.out⟩
    have e3 := he.out h1.symm
    rw [e3]
    by_cases h2 : s.size ≤ 2
    · have e1 := hyes.out h0 h1 h2
      subst e1
      have h2' : (s.size : Int) ≤ 2 := by omega
      replace h1 := Lib.hid h1
      go_wp2
      refine bodyPost_ret (v := .tuple #[.int .i64 v, .bool true]) (by simp [results, Tryz.results120, go_sem]) rfl ⟨hb4, v, rfl, hn.out⟩
    · have e1 := hno.out (fun h => h2 h.2.2)
      subst e1
      have h2' : ¬ (s.size : Int) ≤ 2 := by omega
      replace h1 := Lib.hid h1
      go_wp2
      refine bodyPost_ret (v := .tuple #[.int .i64 v, .bool false]) (by simp [results, Tryz.results120, go_sem]; omega) rfl ⟨hb4, v, rfl, hn.out⟩
  · have hA := Lib.hid (c_AtoiErr s hs (fun v h => hok ⟨v, h⟩) w hE)
    have e1 : natS s.data.toList = none := by
      cases h1 : natS s.data.toList with
      | none => rfl
      | some n => exact absurd ⟨_, atoi_natS h1⟩ hok
    rw [e1]
    clear hok hE e1
    go_enter Tryz.func120, Tryz.ntmps120
    go_wp2_with fail
    refine hA.out.mono ?_
    rintro e w1 ⟨hb2, x, t, N, rfl⟩
    go_wp2
    refine bodyPost_ret (v := .tuple #[.int .i64 x, .bool false]) (by simp [results, Tryz.results120, go_sem]) rfl ⟨hb2, x, rfl, fun n h => by cases h⟩
end Go.Proofs.YtbdgblnccjpahaaGreatDoor
namespace Go.Proofs.YtbdgblnccjpahaaGreatDoor
open Go.RowKit
set_option maxRecDepth 20000
/-- The blocks of two slices of the call's own are not one. -/
def Dis (u v : Value) : Prop := ∀ k, u.ownBlock = some k → v.ownBlock ≠ some k
theorem Dis.symm {u v : Value} (h : Dis u v) : Dis v u := fun k hk hu => h k hu hk
theorem dis_nil (v : Value) : Dis (.slice none 0 0) v := fun k hk => by simp [Value.ownBlock] at hk
section
variable {P : Program} {w : World}
theorem run_append_own2 (base : Nat) (t ty e : TypeId) (i : TypeInfo) (z : Value) (size bytes : Nat) (ht : P.underlying t = some (.slice e)) (hi : P.info? e = some i) (hz : i.zero = some z)
    (hsize : i.size = size) (hby : i.bytes = bytes) (hzs : z.cells.size = size) (hsz : 0 < size)
    (v : Value) (n : Nat) (xs : List Value) (hown : w.ownsRow base e size v n xs)
    (a : Addr) (m c : Nat) (news : List Value) (hl : news.length = m * size) (hnews : ∀ j u, news[j]? = some u → w.cell? (a.add j) = some u) (h1 : ∀ u ∈ news, u.oneCell' = true)
    (h63 : n + m ≤ maxLen) (hbytes : (n + m) * bytes ≤ 140737488355328) (hbase : base ≤ w.heap.size) :
    ∃ v' w', (Builtin.append_ #[t, t] ty #[v, .slice (some a) m c]).run P w = .ok v' w' ∧ w'.ownsRow base e size v' (n + m) (xs ++ news) ∧ w.grownBy w' v.ownBlock ∧
      ∀ k, v'.ownBlock = some k → v.ownBlock = some k ∨ w.heap.size ≤ k := by
  obtain ⟨v', w', hr, h2, h3, h4⟩ := run_append_own (P := P) w base t ty e i z size bytes ht hi hz hsize hby hzs hsz v n xs hown a m c news hl hnews h1 h63 hbytes hbase
  refine ⟨v', w', hr, h2, h3, ?_⟩
  rcases hown.2 with ⟨rfl, rfl⟩ | ⟨g, cap, cur, rfl, hbg, hg, hnc, hcm, hcs, htake⟩
  · have hx : xs = [] := List.eq_nil_of_length_eq_zero (by simpa using hown.1)
    subst hx
    obtain ⟨v2, w2, hr2, h5, -, -⟩ := run_append_own (P := P) w w.heap.size t ty e i z size bytes ht hi hz hsize hby hzs hsz _ 0 [] (World.ownsRow_nil _ _ _ _) a m c news hl hnews h1 h63 hbytes (Nat.le_refl _)
    rw [hr] at hr2
    injection hr2 with e1 e2
    subst e1 e2
    exact fun k hk => .inr (own_ge h5 k hk)
  · subst hsize
    by_cases hroom : n + m ≤ cap
    · have hfit : n * i.size + news.length ≤ cur.size := by rw [hl, hcs, ← Nat.add_mul]; exact Nat.mul_le_mul_right _ hroom
      have hr2 := run_append_room (P := P) w t ty e i ht hi g n cap cur hg a m c news hl hnews h1 hroom hfit
      rw [hr] at hr2
      injection hr2 with e1 e2
      subst e1
      exact fun k hk => .inl (by simpa [Value.ownBlock] using hk)
    · have holds : ∀ j u, xs[j]? = some u → w.cell? ((⟨g, 0, none⟩ : Addr).add j) = some u := hown.cells (g := g) rfl
      have hsmall : n + m ≤ 9223372036854775807 := by simp only [maxLen] at h63; omega
      subst hby
      have hr2 := run_append_grow (P := P) w t ty e i z ht hi hz ⟨g, 0, none⟩ n cap xs hown.1 holds a m c news hl hnews (by omega) (by omega) (growslice_fits (by omega) hbytes)
      rw [hr] at hr2
      injection hr2 with e1 e2
      subst e1
      exact fun k hk => .inr (by simp [Value.ownBlock] at hk; omega)
theorem wpList_append_own2 {ops : Array Oper} {rest : List Oper} {o : Oper} {a : Act} {Q : Exit → Act → World → Prop} (hgd : o.guard = none) (s x : Operand) (t : TypeId)
    (ho : o.op = .call { callee := .builtin .append, args := #[s, x], argTypes := #[t, t] })
    (base : Nat) (e : TypeId) (i : TypeInfo) (z : Value) (size bytes : Nat) (ht : P.underlying t = some (.slice e)) (hi : P.info? e = some i) (hz : i.zero = some z)
    (hsize : i.size = size) (hby : i.bytes = bytes) (hzs : z.cells.size = size) (hsz : 0 < size)
    (v : Value) (n : Nat) (xs : List Value) (hs : a.eval s = v) (hown : w.ownsRow base e size v n xs)
    (ad : Addr) (m c : Nat) (news : List Value) (hx : a.eval x = .slice (some ad) m c) (hl : news.length = m * size) (hnews : ∀ j u, news[j]? = some u → w.cell? (ad.add j) = some u) (h1 : ∀ u ∈ news, u.oneCell' = true)
    (h63 : n + m ≤ maxLen) (hbytes : (n + m) * bytes ≤ 140737488355328) (hbase : base ≤ w.heap.size)
    (h : ∀ v' w', w'.ownsRow base e size v' (n + m) (xs ++ news) → w.grownBy w' v.ownBlock → (∀ k, v'.ownBlock = some k → v.ownBlock = some k ∨ w.heap.size ≤ k) → wpList P ops Q rest (a.put o.dst v') w') : wpList P ops Q (o :: rest) a w := by
  refine wpList_plain hgd fun _ hK => ?_
  obtain ⟨v', w', hr, h2, h3, h4⟩ := run_append_own2 (P := P) base t o.type e i z size bytes ht hi hz hsize hby hzs hsz v n xs hown ad m c news hl hnews h1 h63 hbytes hbase
  unfold Oper.wp execOp
  simp only [ho, resolve, invoke, builtin, Sem.run_bind, Sem.run_pure, Result.andThen_ok, List.map_toArray, List.map_cons, List.map_nil, hs, hx, hr]
  exact hK _ _ (h v' w' h2 h3 h4)
end
/-- Three slices of integers of the call's own, in blocks of their own. -/
structure Row3 (D : Nat) (u v x : Value) (A B C : List Int) (w : World) : Prop where
  a : w.ownsRow D 3 1 u A.length (A.map (.int .i64))
  b : w.ownsRow D 3 1 v B.length (B.map (.int .i64))
  c : w.ownsRow D 3 1 x C.length (C.map (.int .i64))
  ab : Dis u v
  ac : Dis u x
  bc : Dis v x
  ge : D ≤ w.heap.size
theorem kept2 {D n m : Nat} {u v : Value} {xs ys : List Value} {e : TypeId} {size : Nat} {w w' : World} (h : w.ownsRow D e size v m ys) (hg : w.grownBy w' u.ownBlock) (hd : Dis u v) : w'.ownsRow D e size v m ys :=
  h.kept hg (by
    cases hv : v.ownBlock with
    | none => exact .inl rfl
    | some k =>
      refine .inr fun e => ?_
      exact hd k e.symm hv)
theorem dis_new {D n : Nat} {u u' v : Value} {ys : List Value} {e : TypeId} {size : Nat} {w : World} (h : w.ownsRow D e size v n ys) (hd : Dis u v) (hu : ∀ k, u'.ownBlock = some k → u.ownBlock = some k ∨ w.heap.size ≤ k) : Dis u' v := fun k hk hv => by
  rcases hu k hk with h1 | h1
  · exact hd k h1 hv
  · have := (h.lt k hv).2
    omega
theorem Row3.nil {D : Nat} {w : World} (h : D ≤ w.heap.size) : Row3 D (.slice none 0 0) (.slice none 0 0) (.slice none 0 0) [] [] [] w :=
  ⟨World.ownsRow_nil _ _ _ _, World.ownsRow_nil _ _ _ _, World.ownsRow_nil _ _ _ _, dis_nil _, dis_nil _, dis_nil _, h⟩
theorem Row3.below {D : Nat} {u v x : Value} {A B C : List Int} {w w' : World} (h : Row3 D u v x A B C w) (hb : Below w.heap.size w w') : Row3 D u v x A B C w' :=
  ⟨own_below h.a hb, own_below h.b hb, own_below h.c hb, h.ab, h.ac, h.bc, Nat.le_trans h.ge hb.size⟩
end Go.Proofs.YtbdgblnccjpahaaGreatDoor
namespace Go.Proofs.YtbdgblnccjpahaaGreatDoor
open Go.RowKit
set_option maxRecDepth 20000
/-- The block of a slice, if it has one. -/
def ownL (v : Value) : List Nat := v.ownBlock.toList
section
variable {P : Program} {w : World}
theorem run_append_own3 (base : Nat) (t ty e : TypeId) (i : TypeInfo) (z : Value) (size bytes : Nat) (ht : P.underlying t = some (.slice e)) (hi : P.info? e = some i) (hz : i.zero = some z)
    (hsize : i.size = size) (hby : i.bytes = bytes) (hzs : z.cells.size = size) (hsz : 0 < size)
    (v : Value) (n : Nat) (xs : List Value) (hown : w.ownsRow base e size v n xs)
    (a : Addr) (m c : Nat) (news : List Value) (hl : news.length = m * size) (hnews : ∀ j u, news[j]? = some u → w.cell? (a.add j) = some u) (h1 : ∀ u ∈ news, u.oneCell' = true)
    (h63 : n + m ≤ maxLen) (hbytes : (n + m) * bytes ≤ 140737488355328) (hbase : base ≤ w.heap.size) :
    ∃ v' w', (Builtin.append_ #[t, t] ty #[v, .slice (some a) m c]).run P w = .ok v' w' ∧ w'.ownsRow base e size v' (n + m) (xs ++ news) ∧ BX (ownL v) w w' ∧
      ∀ k, v'.ownBlock = some k → v.ownBlock = some k ∨ w.heap.size ≤ k := by
  obtain ⟨v', w', hr, h2, h3, h4⟩ := run_append_own2 (P := P) base t ty e i z size bytes ht hi hz hsize hby hzs hsz v n xs hown a m c news hl hnews h1 h63 hbytes hbase
  refine ⟨v', w', hr, h2, ?_, h4⟩
  rcases hown.2 with ⟨rfl, rfl⟩ | ⟨g, cap, cur, rfl, hbg, hg, hnc, hcm, hcs, htake⟩
  · exact bx_bl _ ⟨h3.os, h3.tape, h3.output, h3.size, fun k hk => h3.block k hk (by simp [Value.ownBlock])⟩
  · subst hsize
    refine ⟨h3.os, h3.tape, h3.output, h3.size, fun k hk hX => h3.block k hk (fun e => hX (by simp [ownL, ← e])), fun b hb t' cs' hk => ?_⟩
    obtain rfl : b = g := by simpa [ownL, Value.ownBlock, eq_comm] using hb
    have hk2 : (Obj.cells cs' t' (0, 0)) = .cells cur e (0, 0) := by
      have : w.heap[b]? = some (.cells cs' t' (0, 0)) := hk
      rw [hg] at this
      injection this with this
      exact this.symm
    injection hk2 with e1 e2 _
    subst e1 e2
    by_cases hroom : n + m ≤ cap
    · have hfit : n * i.size + news.length ≤ cs'.size := by rw [hl, hcs, ← Nat.add_mul]; exact Nat.mul_le_mul_right _ hroom
      have hr2 := run_append_room (P := P) w t ty t' i ht hi b n cap cs' hg a m c news hl hnews h1 hroom hfit
      rw [hr] at hr2
      injection hr2 with e1 e2
      subst e2
      refine ⟨_, setRow_heap w b _ _ _ _ hg, ?_⟩
      simp
      omega
    · have holds : ∀ j u, xs[j]? = some u → w.cell? ((⟨b, 0, none⟩ : Addr).add j) = some u := hown.cells (g := b) rfl
      have hsmall : n + m ≤ 9223372036854775807 := by simp only [maxLen] at h63; omega
      subst hby
      have hr2 := run_append_grow (P := P) w t ty t' i z ht hi hz ⟨b, 0, none⟩ n cap xs hown.1 holds a m c news hl hnews (by omega) (by omega) (growslice_fits (by omega) hbytes)
      rw [hr] at hr2
      injection hr2 with e1 e2
      subst e2
      exact ⟨cs', (bl_al _ (bl_drew (bl_refl w))).block b hk.lt |>.trans hk, rfl⟩
theorem wp_appT {o : Oper} {a : Act} {K : Act → World → Prop} {Q : Exit → Act → World → Prop} (s x : Operand) {t e : TypeId} {i : TypeInfo} {z : Value} {size bytes base g : Nat} (ho : o.op = .call { callee := .builtin .append, args := #[s, x], argTypes := #[t, t] })
    (ht : P.underlying t = some (.slice e)) (hi : P.info? e = some i) (hz : i.zero = some z) (hsize : i.size = size) (hby : i.bytes = bytes) (hzs : z.cells.size = size) (hsz : 0 < size)
    (v : Value) (n : Nat) (xs news : List Value) (hs' : a.eval s = v) (hx : a.eval x = .slice (some ⟨g, 0, none⟩) 1 1) (hown : w.ownsRow base e size v n xs) (hg : Blk w g e news.toArray) (hl : news.length = size) (h1 : ∀ u ∈ news, u.oneCell' = true)
    (h63 : n + 1 ≤ maxLen) (hbytes : (n + 1) * bytes ≤ 140737488355328) (hbase : base ≤ w.heap.size)
    (h : ∀ v' w', w'.ownsRow base e size v' (n + 1) (xs ++ news) → BX (ownL v) w w' → (∀ k, v'.ownBlock = some k → v.ownBlock = some k ∨ w.heap.size ≤ k) → K (a.put o.dst v') w') : o.wp P a w K Q := by
  have hnews : ∀ j u, news[j]? = some u → w.cell? ((⟨g, 0, none⟩ : Addr).add j) = some u := by
    intro j u hj
    have hadd : (⟨g, 0, none⟩ : Addr).add j = ⟨g, j, none⟩ := by unfold Addr.add; split <;> simp_all
    rw [hadd, hg.cell]
    simpa using hj
  obtain ⟨v', w', hr, h2, h3, h4⟩ := run_append_own3 (P := P) base t o.type e i z size bytes ht hi hz hsize hby hzs hsz v n xs hown ⟨g, 0, none⟩ 1 1 news (by rw [hl, Nat.one_mul]) hnews h1 h63 hbytes hbase
  unfold Oper.wp execOp
  simp only [ho, resolve, invoke, builtin, Sem.run_bind, Sem.run_pure, Result.andThen_ok, List.map_toArray, List.map_cons, List.map_nil, hs', hx, hr]
  exact h _ _ h2 h3 h4
end
theorem own_bxT {W W' : World} {base n size : Nat} {e : TypeId} {v : Value} {xs : List Value} {X : List Nat} (h : W.ownsRow base e size v n xs) (hb : BX X W W') (hX : ∀ k, v.ownBlock = some k → k ∉ X) : W'.ownsRow base e size v n xs := by
  refine ⟨h.1, ?_⟩
  rcases h.2 with h1 | ⟨g, cap, cur, rfl, hbg, hg, hnc, hcm, hcs, htake⟩
  · exact .inl h1
  · refine .inr ⟨g, cap, cur, rfl, hbg, ?_, hnc, hcm, hcs, htake⟩
    rw [hb.block g (Array.getElem?_eq_some_iff.1 hg).1 (hX g rfl)]
    exact hg
theorem ownL_ge {w : World} {base n size : Nat} {e : TypeId} {v : Value} {xs : List Value} (h : w.ownsRow base e size v n xs) : ∀ g ∈ ownL v, base ≤ g := fun g hg => by
  unfold ownL at hg
  cases hv : v.ownBlock with
  | none => rw [hv] at hg; simp at hg
  | some k =>
    rw [hv] at hg
    obtain rfl : g = k := by simpa using hg
    exact own_ge h g hv
end Go.Proofs.YtbdgblnccjpahaaGreatDoor
namespace Go.Proofs.YtbdgblnccjpahaaGreatDoor
open Go.RowKit
set_option maxRecDepth 20000
theorem CK.own {D b n size : Nat} {e : TypeId} {v : Value} {xs : List Value} {A B : World} (h : A.ownsRow b e size v n xs) (hc : CK D A B) : B.ownsRow b e size v n xs := by
  refine ⟨h.1, ?_⟩
  rcases h.2 with h2 | ⟨g, cap, cur, e1, e2, e3, e4⟩
  · exact .inl h2
  · exact .inr ⟨g, cap, cur, e1, e2, hc.keep g _ e3 (.inr rfl), e4⟩
section
variable {P : Program} {w : World} {l m0 : Nat}
theorem wpListIn_append_own2 {ops : Array Oper} {rest : List Oper} {o : Oper} {a : Act} {Q : Exit → Act → World → Prop} (hgd : o.guard = none) (s x : Operand) (t : TypeId)
    (ho : o.op = .call { callee := .builtin .append, args := #[s, x], argTypes := #[t, t] })
    (base : Nat) (e : TypeId) (i : TypeInfo) (z : Value) (size bytes : Nat) (ht : P.underlying t = some (.slice e)) (hi : P.info? e = some i) (hz : i.zero = some z)
    (hsize : i.size = size) (hby : i.bytes = bytes) (hzs : z.cells.size = size) (hsz : 0 < size)
    (v : Value) (n : Nat) (xs : List Value) (hs : a.eval s = v) (hown : w.ownsRow base e size v n xs)
    (ad : Addr) (m c : Nat) (news : List Value) (hx : a.eval x = .slice (some ad) m c) (hl : news.length = m * size) (hnews : ∀ j u, news[j]? = some u → w.cell? (ad.add j) = some u) (h1 : ∀ u ∈ news, u.oneCell' = true)
    (h63 : n + m ≤ maxLen) (hbytes : (n + m) * bytes ≤ 140737488355328) (hbase : base ≤ w.heap.size)
    (h : ∀ v' w', w'.ownsRow base e size v' (n + m) (xs ++ news) → w.grownBy w' v.ownBlock → (∀ k, v'.ownBlock = some k → v.ownBlock = some k ∨ w.heap.size ≤ k) → wpListIn (Fence.wide.inRound l) m0 P ops Q rest (a.put o.dst v') w') : wpListIn (Fence.wide.inRound l) m0 P ops Q (o :: rest) a w := by
  refine wpListIn_plain hgd fun K hK => opIn_of_wp (fun c hc => by rw [ho] at hc; cases hc) ?_
  obtain ⟨v', w', hr, h2, h3, h4⟩ := run_append_own2 (P := P) base t o.type e i z size bytes ht hi hz hsize hby hzs hsz v n xs hown ad m c news hl hnews h1 h63 hbytes hbase
  unfold Oper.wp execOp
  simp only [ho, resolve, invoke, builtin, Sem.run_bind, Sem.run_pure, Result.andThen_ok, List.map_toArray, List.map_cons, List.map_nil, hs, hx, hr]
  exact hK _ _ (h v' w' h2 h3 h4)
end
end Go.Proofs.YtbdgblnccjpahaaGreatDoor
namespace Go.Proofs.YtbdgblnccjpahaaGreatDoor
end Go.Proofs.YtbdgblnccjpahaaGreatDoor
namespace Go.Proofs.YtbdgblnccjpahaaGreatDoor
open Go.RowKit Go.Shelf
attribute [local go_sem] bl_al bl_drew bl_drewN bl_refl bx_al bx_drew bx_drewN bx_refl
set_option maxRecDepth 20000
theorem Blk.grown {w w' : World} {g : Nat} {t : TypeId} {cs : Array Value} {row : Option Nat} (h : Blk w g t cs) (hg : w.grownBy w' row) (hne : some g ≠ row) : Blk w' g t cs := (hg.block g h.lt hne).trans h
theorem own_slice {w : World} {base n : Nat} {e : TypeId} {size : Nat} {v : Value} {xs : List Value} (h : w.ownsRow base e size v n xs) : ∃ A c, v = .slice A n c := by
  rcases h.2 with ⟨e, hn⟩ | ⟨g, cap, cur, e, _⟩
  · exact ⟨none, 0, by rw [e, hn]⟩
  · exact ⟨_, _, e⟩
theorem own_set {w : World} {base n g i : Nat} {e : TypeId} {size : Nat} {v : Value} {xs : List Value} (u : Value) (h : w.ownsRow base e size v n xs) (hg : g < base) : (w.setCell ⟨g, i, none⟩ u).ownsRow base e size v n xs :=
  own_bx h (bx_set (X := [g]) (.inl (by simp)) u (bx_refl _ _)) (by simp; omega)
end Go.Proofs.YtbdgblnccjpahaaGreatDoor
