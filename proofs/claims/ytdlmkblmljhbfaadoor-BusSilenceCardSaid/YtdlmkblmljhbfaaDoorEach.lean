/-
  bus.each at numbers, streams, strings, functions and modes, the check with a state of its own; slices.IndexFunc and slices.ContainsFunc. (Printed by gen_each.py.)
-/
import Derived.Test.YtdlmkblmljhbfaaDoorOwn
import Derived.Shelf.Abstract
namespace Go.Proofs.YtdlmkblmljhbfaaDoor
set_option linter.unusedSimpArgs false
set_option linter.unusedVariables false
open Go.RowKit Go.Shelf
attribute [local go_sem] bl_al bl_drew bl_drewN bl_refl

set_option maxHeartbeats 800000 in
set_option maxRecDepth 20000 in
theorem c_eachJI (f : FuncId) (lb : Array Value) (err : Nat → Int → Int) (J : Nat → World → Prop) (X : List Nat) (A : Option Addr) (l : List Int) (c : Nat) (w : World) (hl : l.length ≤ 1000000)
    (he : Enters Tryd.prog f) (hJ : ∀ k A B, J k A → Below A.heap.size A B → J k B)
    (hp : ∀ k x, l[k]? = some x → ∀ W : World, BX X w W → J k W → Calls Tryd.prog f (#[.int .i64 (k : Nat), .int .i64 x] ++ lb) W (fun e W' => e = .returned (.int .i64 (err k x)) ∧ BX X W W' ∧ (err k x = 0 → J (k + 1) W')))
    (hr : ∀ W, BX X w W → Sl cI 1 W A l) (h0 : J 0 w) :
    Calls Tryd.prog 75 #[.slice A l.length c, .func (.func f) #[] lb] w (fun e W' => e = .returned (.tuple #[.int .i64 (eachS err l 0).1, .int .i64 (eachS err l 0).2]) ∧ BX X w W' ∧ ((eachS err l 0).2 = 0 → J l.length W')) := by
  have he' : ∀ args w, (callFunc f args).run Tryd.prog w = .ok (.enter f args) w := he
  clear he
  have Hp := Lib.hid hp
  have Hr := Lib.hid hr
  have H0 := Lib.hid h0
  have HJ := Lib.hid hJ
  clear hp hr h0 hJ
  obtain ⟨n, Hn⟩ : ∃ n, Hid (l.length = n) := ⟨_, rfl⟩
  rw [Hn.out] at hl ⊢
  go_enter Tryd.func75, Tryd.ntmps75
  go_wp2
  go_loopw [11] (fun i wr => ∃ k : Nat, k ≤ n ∧ i = .int .i64 k ∧ BX X w wr ∧ J k wr ∧ eachS err l 0 = eachS err (l.drop k) k) (fun i _ => n - (intOf i).toNat)
  case atStart => exact ⟨0, Nat.zero_le _, rfl, bx_refl _ _, H0.out, rfl⟩
  case round =>
    obtain ⟨k, hk, rfl, hb, hj, hi⟩ := hrel
    replace hi := Lib.hid hi
    replace hj := Lib.hid hj
    by_cases hlt : k < n
    · have hx : l[k]? = some (l[k]'(by rw [Hn.out]; exact hlt)) := List.getElem?_eq_getElem _
      generalize l[k]'(by rw [Hn.out]; exact hlt) = x at hx
      replace hx := Lib.hid hx
      obtain ⟨b, off, rfl, hc⟩ := (Hr.out wr hb) k x hx.out
      have c0 : wr.cell? ⟨b, off + k, none⟩ = some (.int .i64 x) := by simpa using hc 0 _ rfl
      have hd := Lib.hid (eachS_drop err l k x hx.out)
      have hcall := Lib.hid (Hp.out k x hx.out)
      clear hc
      go_wp2_with fail
      refine Calls.mono (hcall.out _ ?_ ?_) ?_
      · first | exact hb | exact bx_al _ hb
      · first | exact hj.out | exact HJ.out _ _ _ hj.out (bl_al _ (bl_refl _))
      rintro e w3 ⟨rfl, hb3, hj3⟩
      have hb4 : BX X w w3 := BX.trans (by first | exact hb | exact bx_al _ hb) hb3
      replace hj3 := Lib.hid hj3
      clear hb3
      generalize err k x = ex at *
      by_cases h0 : ex = 0
      · have h0' : (ex != 0) = false := by simp [h0]
        replace h0 := Lib.hid h0
        have hj4 := Lib.hid (hj3.out h0.out)
        go_wp2
        go_roundw
        case rel => exact ⟨k + 1, by omega, by go_num, hb4, hj4.out, by rw [hi.out, hd.out, if_pos h0.out]⟩
        case measure => simp [intOf]; omega
      · have h0' : (ex != 0) = true := by simp [h0]
        replace h0 := Lib.hid h0
        go_wp2
        go_ret2
        exact ⟨by rw [hi.out, hd.out, if_neg h0.out] <;> rfl, hb4, fun h => by rw [hi.out, hd.out, if_neg h0.out] at h; exact absurd h h0.out⟩
    · go_wp2
      go_ret2
      have : k = l.length := by have := Hn.out; omega
      exact ⟨by rw [hi.out, this]; simp [eachS], hb, fun _ => (show k = n by omega) ▸ hj.out⟩
theorem c_eachI (f : FuncId) (lb : Array Value) (err : Nat → Int → Int) (A : Option Addr) (l : List Int) (c : Nat) (w : World) (hl : l.length ≤ 1000000)
    (he : Enters Tryd.prog f) (hp : ∀ k x, l[k]? = some x → ∀ W : World, Below w.heap.size w W → Calls Tryd.prog f (#[.int .i64 (k : Nat), .int .i64 x] ++ lb) W (Ret (.int .i64 (err k x)) W))
    (hr : Sl cI 1 w A l) :
    Calls Tryd.prog 75 #[.slice A l.length c, .func (.func f) #[] lb] w (Ret (.tuple #[.int .i64 (eachS err l 0).1, .int .i64 (eachS err l 0).2]) w) :=
  (c_eachJI f lb err (fun _ _ => True) [] A l c w hl he (fun _ _ _ _ _ => trivial) (fun k x hx W hb _ => (hp k x hx W (bx_nil hb)).mono fun _ _ ⟨h1, h2⟩ => ⟨h1, bx_bl [] h2, fun _ => trivial⟩)
    (fun W hb => hr.below (bx_nil hb)) trivial).mono fun _ _ ⟨h1, h2, _⟩ => ⟨h1, bx_nil h2⟩

set_option maxHeartbeats 800000 in
set_option maxRecDepth 20000 in
theorem c_eachJS (f : FuncId) (lb : Array Value) (err : Nat → Sm → Int) (J : Nat → World → Prop) (X : List Nat) (A : Option Addr) (l : List Sm) (c : Nat) (w : World) (hl : l.length ≤ 1000000)
    (he : Enters Tryd.prog f) (hJ : ∀ k A B, J k A → Below A.heap.size A B → J k B)
    (hp : ∀ k x, l[k]? = some x → ∀ W : World, BX X w W → J k W → Calls Tryd.prog f (#[.int .i64 (k : Nat), .agg #[.string x.name, .int .i64 x.per, .int .i64 x.dl, .int .i64 x.len]] ++ lb) W (fun e W' => e = .returned (.int .i64 (err k x)) ∧ BX X W W' ∧ (err k x = 0 → J (k + 1) W')))
    (hr : ∀ W, BX X w W → Sl cSm 4 W A l) (h0 : J 0 w) :
    Calls Tryd.prog 151 #[.slice A l.length c, .func (.func f) #[] lb] w (fun e W' => e = .returned (.tuple #[.int .i64 (eachS err l 0).1, .int .i64 (eachS err l 0).2]) ∧ BX X w W' ∧ ((eachS err l 0).2 = 0 → J l.length W')) := by
  have he' : ∀ args w, (callFunc f args).run Tryd.prog w = .ok (.enter f args) w := he
  clear he
  have Hp := Lib.hid hp
  have Hr := Lib.hid hr
  have H0 := Lib.hid h0
  have HJ := Lib.hid hJ
  clear hp hr h0 hJ
  obtain ⟨n, Hn⟩ : ∃ n, Hid (l.length = n) := ⟨_, rfl⟩
  rw [Hn.out] at hl ⊢
  go_enter Tryd.func151, Tryd.ntmps151
  go_wp2
  go_loopw [11] (fun i wr => ∃ k : Nat, k ≤ n ∧ i = .int .i64 k ∧ BX X w wr ∧ J k wr ∧ eachS err l 0 = eachS err (l.drop k) k) (fun i _ => n - (intOf i).toNat)
  case atStart => exact ⟨0, Nat.zero_le _, rfl, bx_refl _ _, H0.out, rfl⟩
  case round =>
    obtain ⟨k, hk, rfl, hb, hj, hi⟩ := hrel
    replace hi := Lib.hid hi
    replace hj := Lib.hid hj
    by_cases hlt : k < n
    · have hx : l[k]? = some (l[k]'(by rw [Hn.out]; exact hlt)) := List.getElem?_eq_getElem _
      generalize l[k]'(by rw [Hn.out]; exact hlt) = x at hx
      replace hx := Lib.hid hx
      obtain ⟨b, off, rfl, hc⟩ := (Hr.out wr hb) k x hx.out
      have c0 : wr.cell? ⟨b, off + k * 4, none⟩ = some (.string x.name) := hc 0 _ rfl
      have c1 : wr.cell? ⟨b, off + k * 4 + 1, none⟩ = some (.int .i64 x.per) := hc 1 _ rfl
      have c2 : wr.cell? ⟨b, off + k * 4 + 2, none⟩ = some (.int .i64 x.dl) := hc 2 _ rfl
      have c3 : wr.cell? ⟨b, off + k * 4 + 3, none⟩ = some (.int .i64 x.len) := hc 3 _ rfl
      have hd := Lib.hid (eachS_drop err l k x hx.out)
      have hcall := Lib.hid (Hp.out k x hx.out)
      clear hc
      go_wp2_with fail
      refine Calls.mono (hcall.out _ ?_ ?_) ?_
      · first | exact hb | exact bx_al _ hb
      · first | exact hj.out | exact HJ.out _ _ _ hj.out (bl_al _ (bl_refl _))
      rintro e w3 ⟨rfl, hb3, hj3⟩
      have hb4 : BX X w w3 := BX.trans (by first | exact hb | exact bx_al _ hb) hb3
      replace hj3 := Lib.hid hj3
      clear hb3
      generalize err k x = ex at *
      by_cases h0 : ex = 0
      · have h0' : (ex != 0) = false := by simp [h0]
        replace h0 := Lib.hid h0
        have hj4 := Lib.hid (hj3.out h0.out)
        go_wp2
        go_roundw
        case rel => exact ⟨k + 1, by omega, by go_num, hb4, hj4.out, by rw [hi.out, hd.out, if_pos h0.out]⟩
        case measure => simp [intOf]; omega
      · have h0' : (ex != 0) = true := by simp [h0]
        replace h0 := Lib.hid h0
        go_wp2
        go_ret2
        exact ⟨by rw [hi.out, hd.out, if_neg h0.out] <;> rfl, hb4, fun h => by rw [hi.out, hd.out, if_neg h0.out] at h; exact absurd h h0.out⟩
    · go_wp2
      go_ret2
      have : k = l.length := by have := Hn.out; omega
      exact ⟨by rw [hi.out, this]; simp [eachS], hb, fun _ => (show k = n by omega) ▸ hj.out⟩
theorem c_eachS (f : FuncId) (lb : Array Value) (err : Nat → Sm → Int) (A : Option Addr) (l : List Sm) (c : Nat) (w : World) (hl : l.length ≤ 1000000)
    (he : Enters Tryd.prog f) (hp : ∀ k x, l[k]? = some x → ∀ W : World, Below w.heap.size w W → Calls Tryd.prog f (#[.int .i64 (k : Nat), .agg #[.string x.name, .int .i64 x.per, .int .i64 x.dl, .int .i64 x.len]] ++ lb) W (Ret (.int .i64 (err k x)) W))
    (hr : Sl cSm 4 w A l) :
    Calls Tryd.prog 151 #[.slice A l.length c, .func (.func f) #[] lb] w (Ret (.tuple #[.int .i64 (eachS err l 0).1, .int .i64 (eachS err l 0).2]) w) :=
  (c_eachJS f lb err (fun _ _ => True) [] A l c w hl he (fun _ _ _ _ _ => trivial) (fun k x hx W hb _ => (hp k x hx W (bx_nil hb)).mono fun _ _ ⟨h1, h2⟩ => ⟨h1, bx_bl [] h2, fun _ => trivial⟩)
    (fun W hb => hr.below (bx_nil hb)) trivial).mono fun _ _ ⟨h1, h2, _⟩ => ⟨h1, bx_nil h2⟩

set_option maxHeartbeats 800000 in
set_option maxRecDepth 20000 in
theorem c_eachJN (f : FuncId) (lb : Array Value) (err : Nat → ByteArray → Int) (J : Nat → World → Prop) (X : List Nat) (A : Option Addr) (l : List ByteArray) (c : Nat) (w : World) (hl : l.length ≤ 1000000)
    (he : Enters Tryd.prog f) (hJ : ∀ k A B, J k A → Below A.heap.size A B → J k B)
    (hp : ∀ k x, l[k]? = some x → ∀ W : World, BX X w W → J k W → Calls Tryd.prog f (#[.int .i64 (k : Nat), .string x] ++ lb) W (fun e W' => e = .returned (.int .i64 (err k x)) ∧ BX X W W' ∧ (err k x = 0 → J (k + 1) W')))
    (hr : ∀ W, BX X w W → Sl cS 1 W A l) (h0 : J 0 w) :
    Calls Tryd.prog 102 #[.slice A l.length c, .func (.func f) #[] lb] w (fun e W' => e = .returned (.tuple #[.int .i64 (eachS err l 0).1, .int .i64 (eachS err l 0).2]) ∧ BX X w W' ∧ ((eachS err l 0).2 = 0 → J l.length W')) := by
  have he' : ∀ args w, (callFunc f args).run Tryd.prog w = .ok (.enter f args) w := he
  clear he
  have Hp := Lib.hid hp
  have Hr := Lib.hid hr
  have H0 := Lib.hid h0
  have HJ := Lib.hid hJ
  clear hp hr h0 hJ
  obtain ⟨n, Hn⟩ : ∃ n, Hid (l.length = n) := ⟨_, rfl⟩
  rw [Hn.out] at hl ⊢
  go_enter Tryd.func102, Tryd.ntmps102
  go_wp2
  go_loopw [11] (fun i wr => ∃ k : Nat, k ≤ n ∧ i = .int .i64 k ∧ BX X w wr ∧ J k wr ∧ eachS err l 0 = eachS err (l.drop k) k) (fun i _ => n - (intOf i).toNat)
  case atStart => exact ⟨0, Nat.zero_le _, rfl, bx_refl _ _, H0.out, rfl⟩
  case round =>
    obtain ⟨k, hk, rfl, hb, hj, hi⟩ := hrel
    replace hi := Lib.hid hi
    replace hj := Lib.hid hj
    by_cases hlt : k < n
    · have hx : l[k]? = some (l[k]'(by rw [Hn.out]; exact hlt)) := List.getElem?_eq_getElem _
      generalize l[k]'(by rw [Hn.out]; exact hlt) = x at hx
      replace hx := Lib.hid hx
      obtain ⟨b, off, rfl, hc⟩ := (Hr.out wr hb) k x hx.out
      have c0 : wr.cell? ⟨b, off + k, none⟩ = some (.string x) := by simpa using hc 0 _ rfl
      have hd := Lib.hid (eachS_drop err l k x hx.out)
      have hcall := Lib.hid (Hp.out k x hx.out)
      clear hc
      go_wp2_with fail
      refine Calls.mono (hcall.out _ ?_ ?_) ?_
      · first | exact hb | exact bx_al _ hb
      · first | exact hj.out | exact HJ.out _ _ _ hj.out (bl_al _ (bl_refl _))
      rintro e w3 ⟨rfl, hb3, hj3⟩
      have hb4 : BX X w w3 := BX.trans (by first | exact hb | exact bx_al _ hb) hb3
      replace hj3 := Lib.hid hj3
      clear hb3
      generalize err k x = ex at *
      by_cases h0 : ex = 0
      · have h0' : (ex != 0) = false := by simp [h0]
        replace h0 := Lib.hid h0
        have hj4 := Lib.hid (hj3.out h0.out)
        go_wp2
        go_roundw
        case rel => exact ⟨k + 1, by omega, by go_num, hb4, hj4.out, by rw [hi.out, hd.out, if_pos h0.out]⟩
        case measure => simp [intOf]; omega
      · have h0' : (ex != 0) = true := by simp [h0]
        replace h0 := Lib.hid h0
        go_wp2
        go_ret2
        exact ⟨by rw [hi.out, hd.out, if_neg h0.out] <;> rfl, hb4, fun h => by rw [hi.out, hd.out, if_neg h0.out] at h; exact absurd h h0.out⟩
    · go_wp2
      go_ret2
      have : k = l.length := by have := Hn.out; omega
      exact ⟨by rw [hi.out, this]; simp [eachS], hb, fun _ => (show k = n by omega) ▸ hj.out⟩
theorem c_eachN (f : FuncId) (lb : Array Value) (err : Nat → ByteArray → Int) (A : Option Addr) (l : List ByteArray) (c : Nat) (w : World) (hl : l.length ≤ 1000000)
    (he : Enters Tryd.prog f) (hp : ∀ k x, l[k]? = some x → ∀ W : World, Below w.heap.size w W → Calls Tryd.prog f (#[.int .i64 (k : Nat), .string x] ++ lb) W (Ret (.int .i64 (err k x)) W))
    (hr : Sl cS 1 w A l) :
    Calls Tryd.prog 102 #[.slice A l.length c, .func (.func f) #[] lb] w (Ret (.tuple #[.int .i64 (eachS err l 0).1, .int .i64 (eachS err l 0).2]) w) :=
  (c_eachJN f lb err (fun _ _ => True) [] A l c w hl he (fun _ _ _ _ _ => trivial) (fun k x hx W hb _ => (hp k x hx W (bx_nil hb)).mono fun _ _ ⟨h1, h2⟩ => ⟨h1, bx_bl [] h2, fun _ => trivial⟩)
    (fun W hb => hr.below (bx_nil hb)) trivial).mono fun _ _ ⟨h1, h2, _⟩ => ⟨h1, bx_nil h2⟩

set_option maxHeartbeats 800000 in
set_option maxRecDepth 20000 in
theorem c_eachJF (f : FuncId) (lb : Array Value) (err : Nat → Fu → Int) (J : Nat → World → Prop) (X : List Nat) (A : Option Addr) (l : List Fu) (c : Nat) (w : World) (hl : l.length ≤ 1000000)
    (he : Enters Tryd.prog f) (hJ : ∀ k A B, J k A → Below A.heap.size A B → J k B)
    (hp : ∀ k x, l[k]? = some x → ∀ W : World, BX X w W → J k W → Calls Tryd.prog f (#[.int .i64 (k : Nat), .agg #[.string x.name, .slice x.A x.ws.length x.c]] ++ lb) W (fun e W' => e = .returned (.int .i64 (err k x)) ∧ BX X W W' ∧ (err k x = 0 → J (k + 1) W')))
    (hr : ∀ W, BX X w W → Sl cFu 2 W A l) (h0 : J 0 w) :
    Calls Tryd.prog 104 #[.slice A l.length c, .func (.func f) #[] lb] w (fun e W' => e = .returned (.tuple #[.int .i64 (eachS err l 0).1, .int .i64 (eachS err l 0).2]) ∧ BX X w W' ∧ ((eachS err l 0).2 = 0 → J l.length W')) := by
  have he' : ∀ args w, (callFunc f args).run Tryd.prog w = .ok (.enter f args) w := he
  clear he
  have Hp := Lib.hid hp
  have Hr := Lib.hid hr
  have H0 := Lib.hid h0
  have HJ := Lib.hid hJ
  clear hp hr h0 hJ
  obtain ⟨n, Hn⟩ : ∃ n, Hid (l.length = n) := ⟨_, rfl⟩
  rw [Hn.out] at hl ⊢
  go_enter Tryd.func104, Tryd.ntmps104
  go_wp2
  go_loopw [11] (fun i wr => ∃ k : Nat, k ≤ n ∧ i = .int .i64 k ∧ BX X w wr ∧ J k wr ∧ eachS err l 0 = eachS err (l.drop k) k) (fun i _ => n - (intOf i).toNat)
  case atStart => exact ⟨0, Nat.zero_le _, rfl, bx_refl _ _, H0.out, rfl⟩
  case round =>
    obtain ⟨k, hk, rfl, hb, hj, hi⟩ := hrel
    replace hi := Lib.hid hi
    replace hj := Lib.hid hj
    by_cases hlt : k < n
    · have hx : l[k]? = some (l[k]'(by rw [Hn.out]; exact hlt)) := List.getElem?_eq_getElem _
      generalize l[k]'(by rw [Hn.out]; exact hlt) = x at hx
      replace hx := Lib.hid hx
      obtain ⟨b, off, rfl, hc⟩ := (Hr.out wr hb) k x hx.out
      have c0 : wr.cell? ⟨b, off + k * 2, none⟩ = some (.string x.name) := hc 0 _ rfl
      have c1 : wr.cell? ⟨b, off + k * 2 + 1, none⟩ = some (.slice x.A x.ws.length x.c) := hc 1 _ rfl
      have hd := Lib.hid (eachS_drop err l k x hx.out)
      have hcall := Lib.hid (Hp.out k x hx.out)
      clear hc
      go_wp2_with fail
      refine Calls.mono (hcall.out _ ?_ ?_) ?_
      · first | exact hb | exact bx_al _ hb
      · first | exact hj.out | exact HJ.out _ _ _ hj.out (bl_al _ (bl_refl _))
      rintro e w3 ⟨rfl, hb3, hj3⟩
      have hb4 : BX X w w3 := BX.trans (by first | exact hb | exact bx_al _ hb) hb3
      replace hj3 := Lib.hid hj3
      clear hb3
      generalize err k x = ex at *
      by_cases h0 : ex = 0
      · have h0' : (ex != 0) = false := by simp [h0]
        replace h0 := Lib.hid h0
        have hj4 := Lib.hid (hj3.out h0.out)
        go_wp2
        go_roundw
        case rel => exact ⟨k + 1, by omega, by go_num, hb4, hj4.out, by rw [hi.out, hd.out, if_pos h0.out]⟩
        case measure => simp [intOf]; omega
      · have h0' : (ex != 0) = true := by simp [h0]
        replace h0 := Lib.hid h0
        go_wp2
        go_ret2
        exact ⟨by rw [hi.out, hd.out, if_neg h0.out] <;> rfl, hb4, fun h => by rw [hi.out, hd.out, if_neg h0.out] at h; exact absurd h h0.out⟩
    · go_wp2
      go_ret2
      have : k = l.length := by have := Hn.out; omega
      exact ⟨by rw [hi.out, this]; simp [eachS], hb, fun _ => (show k = n by omega) ▸ hj.out⟩
theorem c_eachF (f : FuncId) (lb : Array Value) (err : Nat → Fu → Int) (A : Option Addr) (l : List Fu) (c : Nat) (w : World) (hl : l.length ≤ 1000000)
    (he : Enters Tryd.prog f) (hp : ∀ k x, l[k]? = some x → ∀ W : World, Below w.heap.size w W → Calls Tryd.prog f (#[.int .i64 (k : Nat), .agg #[.string x.name, .slice x.A x.ws.length x.c]] ++ lb) W (Ret (.int .i64 (err k x)) W))
    (hr : Sl cFu 2 w A l) :
    Calls Tryd.prog 104 #[.slice A l.length c, .func (.func f) #[] lb] w (Ret (.tuple #[.int .i64 (eachS err l 0).1, .int .i64 (eachS err l 0).2]) w) :=
  (c_eachJF f lb err (fun _ _ => True) [] A l c w hl he (fun _ _ _ _ _ => trivial) (fun k x hx W hb _ => (hp k x hx W (bx_nil hb)).mono fun _ _ ⟨h1, h2⟩ => ⟨h1, bx_bl [] h2, fun _ => trivial⟩)
    (fun W hb => hr.below (bx_nil hb)) trivial).mono fun _ _ ⟨h1, h2, _⟩ => ⟨h1, bx_nil h2⟩

set_option maxHeartbeats 800000 in
set_option maxRecDepth 20000 in
theorem c_eachJM (f : FuncId) (lb : Array Value) (err : Nat → Md → Int) (J : Nat → World → Prop) (X : List Nat) (A : Option Addr) (l : List Md) (c : Nat) (w : World) (hl : l.length ≤ 1000000)
    (he : Enters Tryd.prog f) (hJ : ∀ k A B, J k A → Below A.heap.size A B → J k B)
    (hp : ∀ k x, l[k]? = some x → ∀ W : World, BX X w W → J k W → Calls Tryd.prog f (#[.int .i64 (k : Nat), .agg #[.string x.name, .slice x.r.A x.r.l.length x.r.c]] ++ lb) W (fun e W' => e = .returned (.int .i64 (err k x)) ∧ BX X W W' ∧ (err k x = 0 → J (k + 1) W')))
    (hr : ∀ W, BX X w W → Sl cMd 2 W A l) (h0 : J 0 w) :
    Calls Tryd.prog 107 #[.slice A l.length c, .func (.func f) #[] lb] w (fun e W' => e = .returned (.tuple #[.int .i64 (eachS err l 0).1, .int .i64 (eachS err l 0).2]) ∧ BX X w W' ∧ ((eachS err l 0).2 = 0 → J l.length W')) := by
  have he' : ∀ args w, (callFunc f args).run Tryd.prog w = .ok (.enter f args) w := he
  clear he
  have Hp := Lib.hid hp
  have Hr := Lib.hid hr
  have H0 := Lib.hid h0
  have HJ := Lib.hid hJ
  clear hp hr h0 hJ
  obtain ⟨n, Hn⟩ : ∃ n, Hid (l.length = n) := ⟨_, rfl⟩
  rw [Hn.out] at hl ⊢
  go_enter Tryd.func107, Tryd.ntmps107
  go_wp2
  go_loopw [11] (fun i wr => ∃ k : Nat, k ≤ n ∧ i = .int .i64 k ∧ BX X w wr ∧ J k wr ∧ eachS err l 0 = eachS err (l.drop k) k) (fun i _ => n - (intOf i).toNat)
  case atStart => exact ⟨0, Nat.zero_le _, rfl, bx_refl _ _, H0.out, rfl⟩
  case round =>
    obtain ⟨k, hk, rfl, hb, hj, hi⟩ := hrel
    replace hi := Lib.hid hi
    replace hj := Lib.hid hj
    by_cases hlt : k < n
    · have hx : l[k]? = some (l[k]'(by rw [Hn.out]; exact hlt)) := List.getElem?_eq_getElem _
      generalize l[k]'(by rw [Hn.out]; exact hlt) = x at hx
      replace hx := Lib.hid hx
      obtain ⟨b, off, rfl, hc⟩ := (Hr.out wr hb) k x hx.out
      have c0 : wr.cell? ⟨b, off + k * 2, none⟩ = some (.string x.name) := hc 0 _ rfl
      have c1 : wr.cell? ⟨b, off + k * 2 + 1, none⟩ = some (.slice x.r.A x.r.l.length x.r.c) := hc 1 _ rfl
      have hd := Lib.hid (eachS_drop err l k x hx.out)
      have hcall := Lib.hid (Hp.out k x hx.out)
      clear hc
      go_wp2_with fail
      refine Calls.mono (hcall.out _ ?_ ?_) ?_
      · first | exact hb | exact bx_al _ hb
      · first | exact hj.out | exact HJ.out _ _ _ hj.out (bl_al _ (bl_refl _))
      rintro e w3 ⟨rfl, hb3, hj3⟩
      have hb4 : BX X w w3 := BX.trans (by first | exact hb | exact bx_al _ hb) hb3
      replace hj3 := Lib.hid hj3
      clear hb3
      generalize err k x = ex at *
      by_cases h0 : ex = 0
      · have h0' : (ex != 0) = false := by simp [h0]
        replace h0 := Lib.hid h0
        have hj4 := Lib.hid (hj3.out h0.out)
        go_wp2
        go_roundw
        case rel => exact ⟨k + 1, by omega, by go_num, hb4, hj4.out, by rw [hi.out, hd.out, if_pos h0.out]⟩
        case measure => simp [intOf]; omega
      · have h0' : (ex != 0) = true := by simp [h0]
        replace h0 := Lib.hid h0
        go_wp2
        go_ret2
        exact ⟨by rw [hi.out, hd.out, if_neg h0.out] <;> rfl, hb4, fun h => by rw [hi.out, hd.out, if_neg h0.out] at h; exact absurd h h0.out⟩
    · go_wp2
      go_ret2
      have : k = l.length := by have := Hn.out; omega
      exact ⟨by rw [hi.out, this]; simp [eachS], hb, fun _ => (show k = n by omega) ▸ hj.out⟩
theorem c_eachM (f : FuncId) (lb : Array Value) (err : Nat → Md → Int) (A : Option Addr) (l : List Md) (c : Nat) (w : World) (hl : l.length ≤ 1000000)
    (he : Enters Tryd.prog f) (hp : ∀ k x, l[k]? = some x → ∀ W : World, Below w.heap.size w W → Calls Tryd.prog f (#[.int .i64 (k : Nat), .agg #[.string x.name, .slice x.r.A x.r.l.length x.r.c]] ++ lb) W (Ret (.int .i64 (err k x)) W))
    (hr : Sl cMd 2 w A l) :
    Calls Tryd.prog 107 #[.slice A l.length c, .func (.func f) #[] lb] w (Ret (.tuple #[.int .i64 (eachS err l 0).1, .int .i64 (eachS err l 0).2]) w) :=
  (c_eachJM f lb err (fun _ _ => True) [] A l c w hl he (fun _ _ _ _ _ => trivial) (fun k x hx W hb _ => (hp k x hx W (bx_nil hb)).mono fun _ _ ⟨h1, h2⟩ => ⟨h1, bx_bl [] h2, fun _ => trivial⟩)
    (fun W hb => hr.below (bx_nil hb)) trivial).mono fun _ _ ⟨h1, h2, _⟩ => ⟨h1, bx_nil h2⟩

set_option maxHeartbeats 400000 in
set_option maxRecDepth 20000 in
theorem c_IndexFuncS (f : FuncId) (lb : Array Value) (p : Sm → Bool) (A : Option Addr) (l : List Sm) (c : Nat) (w : World) (hl : l.length ≤ 1000000)
    (he : Enters Tryd.prog f) (hp : Preds Tryd.prog f lb w (fun x : Sm => .agg #[.string x.name, .int .i64 x.per, .int .i64 x.dl, .int .i64 x.len]) l p) (hr : Sl cSm 4 w A l) :
    Calls Tryd.prog 158 #[.slice A l.length c, .func (.func f) #[] lb] w (Ret (.int .i64 (idxF p l 0)) w) := by
  have he' : ∀ args w, (callFunc f args).run Tryd.prog w = .ok (.enter f args) w := he
  clear he
  have Hp := Lib.hid hp
  have Hr := Lib.hid hr
  clear hp hr
  obtain ⟨n, Hn⟩ : ∃ n, Hid (l.length = n) := ⟨_, rfl⟩
  rw [Hn.out] at hl ⊢
  go_enter Tryd.func158, Tryd.ntmps158
  go_wp2
  go_loopw [8] (fun i wr => ∃ k : Nat, k ≤ n ∧ i = .int .i64 k ∧ Below w.heap.size w wr ∧ idxF p l 0 = idxF p (l.drop k) k) (fun i _ => n - (intOf i).toNat)
  case atStart => exact ⟨0, Nat.zero_le _, rfl, Below.refl _ _, rfl⟩
  case round =>
    obtain ⟨k, hk, rfl, hb, hi⟩ := hrel
    replace hi := Lib.hid hi
    by_cases hlt : k < n
    · have hx : l[k]? = some (l[k]'(by rw [Hn.out]; exact hlt)) := List.getElem?_eq_getElem _
      generalize l[k]'(by rw [Hn.out]; exact hlt) = x at hx
      replace hx := Lib.hid hx
      obtain ⟨b, off, rfl, hc⟩ := (Hr.out.below hb) k x hx.out
      have c0 : wr.cell? ⟨b, off + k * 4, none⟩ = some (.string x.name) := hc 0 _ rfl
      have c1 : wr.cell? ⟨b, off + k * 4 + 1, none⟩ = some (.int .i64 x.per) := hc 1 _ rfl
      have c2 : wr.cell? ⟨b, off + k * 4 + 2, none⟩ = some (.int .i64 x.dl) := hc 2 _ rfl
      have c3 : wr.cell? ⟨b, off + k * 4 + 3, none⟩ = some (.int .i64 x.len) := hc 3 _ rfl
      have hm : x ∈ l := List.mem_of_getElem? hx.out
      have hd := Lib.hid (idxF_drop p l k x hx.out)
      clear hc hx
      cases hpx : p x
      all_goals
        have hcall := Hp.out x hm wr hb
        rw [hpx] at hcall
        replace hcall := Lib.hid hcall
        replace hpx := Lib.hid hpx
        clear hm
        go_wp2_with fail
        refine hcall.out.mono ?_
        rintro e w3 ⟨rfl, hb3⟩
        go_wp2
      · go_roundw
        case rel => exact ⟨k + 1, by omega, by go_num, bl_tr hb hb3, by rw [hi.out, hd.out, hpx.out]; simp⟩
        case measure => simp [intOf]; omega
      · go_ret
        exact ⟨by rw [hi.out, hd.out, hpx.out] <;> rfl, bl_tr hb hb3⟩
    · go_wp2
      go_ret
      have : k = l.length := by have := Hn.out; omega
      exact ⟨by rw [hi.out, this]; simp [idxF], hb⟩
set_option maxRecDepth 20000 in
theorem c_ContainsFuncS (f : FuncId) (lb : Array Value) (p : Sm → Bool) (A : Option Addr) (l : List Sm) (c : Nat) (w : World) (hl : l.length ≤ 1000000)
    (he : Enters Tryd.prog f) (hp : Preds Tryd.prog f lb w (fun x : Sm => .agg #[.string x.name, .int .i64 x.per, .int .i64 x.dl, .int .i64 x.len]) l p) (hr : Sl cSm 4 w A l) :
    Calls Tryd.prog 153 #[.slice A l.length c, .func (.func f) #[] lb] w (Ret (.bool (l.any p)) w) := by
  have hcall := Lib.hid (c_IndexFuncS f lb p A l c w hl he hp hr)
  have hge := Lib.hid (idxF_ge p l 0 (Int.le_refl 0))
  clear he hp hr
  generalize l.length = n at *
  go_enter Tryd.func153, Tryd.ntmps153
  go_wp2_with fail
  refine hcall.out.mono ?_
  rintro e w3 ⟨rfl, hb3⟩
  go_wp2
  go_ret
  exact ⟨by rw [hge.out]; rfl, hb3⟩

set_option maxHeartbeats 400000 in
set_option maxRecDepth 20000 in
theorem c_IndexFuncW (f : FuncId) (lb : Array Value) (p : Rw → Bool) (A : Option Addr) (l : List Rw) (c : Nat) (w : World) (hl : l.length ≤ 1000000)
    (he : Enters Tryd.prog f) (hp : Preds Tryd.prog f lb w (fun x : Rw => .slice x.A x.l.length x.c) l p) (hr : Sl cRw 1 w A l) :
    Calls Tryd.prog 157 #[.slice A l.length c, .func (.func f) #[] lb] w (Ret (.int .i64 (idxF p l 0)) w) := by
  have he' : ∀ args w, (callFunc f args).run Tryd.prog w = .ok (.enter f args) w := he
  clear he
  have Hp := Lib.hid hp
  have Hr := Lib.hid hr
  clear hp hr
  obtain ⟨n, Hn⟩ : ∃ n, Hid (l.length = n) := ⟨_, rfl⟩
  rw [Hn.out] at hl ⊢
  go_enter Tryd.func157, Tryd.ntmps157
  go_wp2
  go_loopw [8] (fun i wr => ∃ k : Nat, k ≤ n ∧ i = .int .i64 k ∧ Below w.heap.size w wr ∧ idxF p l 0 = idxF p (l.drop k) k) (fun i _ => n - (intOf i).toNat)
  case atStart => exact ⟨0, Nat.zero_le _, rfl, Below.refl _ _, rfl⟩
  case round =>
    obtain ⟨k, hk, rfl, hb, hi⟩ := hrel
    replace hi := Lib.hid hi
    by_cases hlt : k < n
    · have hx : l[k]? = some (l[k]'(by rw [Hn.out]; exact hlt)) := List.getElem?_eq_getElem _
      generalize l[k]'(by rw [Hn.out]; exact hlt) = x at hx
      replace hx := Lib.hid hx
      obtain ⟨b, off, rfl, hc⟩ := (Hr.out.below hb) k x hx.out
      have c0 : wr.cell? ⟨b, off + k, none⟩ = some (.slice x.A x.l.length x.c) := by simpa using hc 0 _ rfl
      have hm : x ∈ l := List.mem_of_getElem? hx.out
      have hd := Lib.hid (idxF_drop p l k x hx.out)
      clear hc hx
      cases hpx : p x
      all_goals
        have hcall := Hp.out x hm wr hb
        rw [hpx] at hcall
        replace hcall := Lib.hid hcall
        replace hpx := Lib.hid hpx
        clear hm
        go_wp2_with fail
        refine hcall.out.mono ?_
        rintro e w3 ⟨rfl, hb3⟩
        go_wp2
      · go_roundw
        case rel => exact ⟨k + 1, by omega, by go_num, bl_tr hb hb3, by rw [hi.out, hd.out, hpx.out]; simp⟩
        case measure => simp [intOf]; omega
      · go_ret
        exact ⟨by rw [hi.out, hd.out, hpx.out] <;> rfl, bl_tr hb hb3⟩
    · go_wp2
      go_ret
      have : k = l.length := by have := Hn.out; omega
      exact ⟨by rw [hi.out, this]; simp [idxF], hb⟩
set_option maxRecDepth 20000 in
theorem c_ContainsFuncW (f : FuncId) (lb : Array Value) (p : Rw → Bool) (A : Option Addr) (l : List Rw) (c : Nat) (w : World) (hl : l.length ≤ 1000000)
    (he : Enters Tryd.prog f) (hp : Preds Tryd.prog f lb w (fun x : Rw => .slice x.A x.l.length x.c) l p) (hr : Sl cRw 1 w A l) :
    Calls Tryd.prog 144 #[.slice A l.length c, .func (.func f) #[] lb] w (Ret (.bool (l.any p)) w) := by
  have hcall := Lib.hid (c_IndexFuncW f lb p A l c w hl he hp hr)
  have hge := Lib.hid (idxF_ge p l 0 (Int.le_refl 0))
  clear he hp hr
  generalize l.length = n at *
  go_enter Tryd.func144, Tryd.ntmps144
  go_wp2_with fail
  refine hcall.out.mono ?_
  rintro e w3 ⟨rfl, hb3⟩
  go_wp2
  go_ret
  exact ⟨by rw [hge.out]; rfl, hb3⟩
end Go.Proofs.YtdlmkblmljhbfaaDoor
