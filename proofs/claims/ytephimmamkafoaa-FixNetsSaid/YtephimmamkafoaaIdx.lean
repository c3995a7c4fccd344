/-
  slices.IndexFunc and slices.ContainsFunc at ranges, at beacons and at integers: the place of the first element of which a function value says yes, whether there is one. (Printed by gen_idx.py.)
-/
import Derived.Test.YtephimmamkafoaaLib
import Derived.Test.YtephimmamkafoaaPlain
import Derived.Shelf.Abstract
namespace Go.Proofs.Ytephimmamkafoaa
set_option linter.unusedSimpArgs false
set_option linter.unusedVariables false
open Go.RowKit Go.Shelf

set_option maxHeartbeats 400000 in
set_option maxRecDepth 20000 in
theorem c_IndexFuncR (f : FuncId) (lb : Array Value) (p : Rg → Bool) (A : Option Addr) (l : List Rg) (c : Nat) (w : World) (hl : l.length ≤ 1000000)
    (he : Enters Try.prog f) (hp : Preds Try.prog f lb w (fun x : Rg => .agg #[.int .i64 x.lo, .int .i64 x.hi]) l p) (hr : Sl cRg 2 w A l) :
    Calls Try.prog 123 #[.slice A l.length c, .func (.func f) #[] lb] w (Ret (.int .i64 (idxF p l 0)) w) := by
  have he' : ∀ args w, (callFunc f args).run Try.prog w = .ok (.enter f args) w := he
  clear he
  have Hp := Lib.hid hp
  have Hr := Lib.hid hr
  clear hp hr
  obtain ⟨n, Hn⟩ : ∃ n, Hid (l.length = n) := ⟨_, rfl⟩
  rw [Hn.out] at hl ⊢
  go_enter Try.func123, Try.ntmps123
  go_wp2
  go_loopw [8] (fun i wr => ∃ k : Nat, k ≤ n ∧ i = .int .i64 k ∧ Below w.heap.size w wr ∧ idxF p l 0 = idxF p (l.drop k) k) (fun i _ => n - (intOf i).toNat)
  case atStart => exact ⟨0, Nat.zero_le _, rfl, Below.refl _ _, rfl⟩
  case round =>
    obtain ⟨k, hk, rfl, hb, hi⟩ := hrel
    replace hi := Lib.hid hi
    by_cases hlt : k < n
    · have hx : l[k]? = some (l[k]'(by rw [Hn.out]; exact hlt)) := List.getElem?_eq_getElem _
      generalize l[k]'(by rw [Hn.out]; exact hlt) = x at hx
      replace hx := Lib.hid hx
      obtain ⟨b, off, rfl, hc⟩ := Hr.out k x hx.out
      have c0 : wr.cell? ⟨b, off + k * 2, none⟩ = some (.int .i64 x.lo) := kcell hb (hc 0 _ rfl)
      have c1 : wr.cell? ⟨b, off + k * 2 + 1, none⟩ = some (.int .i64 x.hi) := kcell hb (hc 1 _ rfl)
      have hm : x ∈ l := List.mem_of_getElem? hx.out
      have hd := Lib.hid (idxF_drop p l k x hx.out)
      clear hc hx
      cases hpx : p x
      all_goals
        have hcall := Hp.out x hm wr hb
        rw [hpx] at hcall
        replace hcall := Lib.hid hcall
        replace hpx := Lib.hid hpx
        clear hm
        go_wp2_with fail
        refine hcall.out.mono ?_
        rintro e w3 ⟨rfl, hb3⟩
        go_wp2
      · go_roundw
        case rel => exact ⟨k + 1, by omega, by go_num, bl_tr hb hb3, by rw [hi.out, hd.out, hpx.out]; simp⟩
        case measure => simp [intOf]; omega
      · go_ret
        exact ⟨by rw [hi.out, hd.out, hpx.out] <;> rfl, bl_tr hb hb3⟩
    · go_wp2
      go_ret
      have : k = l.length := by have := Hn.out; omega
      exact ⟨by rw [hi.out, this]; simp [idxF], hb⟩
set_option maxRecDepth 20000 in
theorem c_ContainsFuncR (f : FuncId) (lb : Array Value) (p : Rg → Bool) (A : Option Addr) (l : List Rg) (c : Nat) (w : World) (hl : l.length ≤ 1000000)
    (he : Enters Try.prog f) (hp : Preds Try.prog f lb w (fun x : Rg => .agg #[.int .i64 x.lo, .int .i64 x.hi]) l p) (hr : Sl cRg 2 w A l) :
    Calls Try.prog 110 #[.slice A l.length c, .func (.func f) #[] lb] w (Ret (.bool (l.any p)) w) := by
  have hcall := Lib.hid (c_IndexFuncR f lb p A l c w hl he hp hr)
  have hge := Lib.hid (idxF_ge p l 0 (Int.le_refl 0))
  clear he hp hr
  generalize l.length = n at *
  go_enter Try.func110, Try.ntmps110
  go_wp2_with fail
  refine hcall.out.mono ?_
  rintro e w3 ⟨rfl, hb3⟩
  go_wp2
  go_ret
  exact ⟨by rw [hge.out]; rfl, hb3⟩

set_option maxHeartbeats 400000 in
set_option maxRecDepth 20000 in
theorem c_IndexFuncB (f : FuncId) (lb : Array Value) (p : Bc → Bool) (A : Option Addr) (l : List Bc) (c : Nat) (w : World) (hl : l.length ≤ 1000000)
    (he : Enters Try.prog f) (hp : Preds Try.prog f lb w (fun x : Bc => .agg #[.string x.name, .int .i64 x.pl.x, .int .i64 x.pl.y, .int .i64 x.pl.z]) l p) (hr : Sl cBc 4 w A l) :
    Calls Try.prog 113 #[.slice A l.length c, .func (.func f) #[] lb] w (Ret (.int .i64 (idxF p l 0)) w) := by
  have he' : ∀ args w, (callFunc f args).run Try.prog w = .ok (.enter f args) w := he
  clear he
  have Hp := Lib.hid hp
  have Hr := Lib.hid hr
  clear hp hr
  obtain ⟨n, Hn⟩ : ∃ n, Hid (l.length = n) := ⟨_, rfl⟩
  rw [Hn.out] at hl ⊢
  go_enter Try.func113, Try.ntmps113
  go_wp2
  go_loopw [8] (fun i wr => ∃ k : Nat, k ≤ n ∧ i = .int .i64 k ∧ Below w.heap.size w wr ∧ idxF p l 0 = idxF p (l.drop k) k) (fun i _ => n - (intOf i).toNat)
  case atStart => exact ⟨0, Nat.zero_le _, rfl, Below.refl _ _, rfl⟩
  case round =>
    obtain ⟨k, hk, rfl, hb, hi⟩ := hrel
    replace hi := Lib.hid hi
    by_cases hlt : k < n
    · have hx : l[k]? = some (l[k]'(by rw [Hn.out]; exact hlt)) := List.getElem?_eq_getElem _
      generalize l[k]'(by rw [Hn.out]; exact hlt) = x at hx
      replace hx := Lib.hid hx
      obtain ⟨b, off, rfl, hc⟩ := Hr.out k x hx.out
      have c0 : wr.cell? ⟨b, off + k * 4, none⟩ = some (.string x.name) := kcell hb (hc 0 _ rfl)
      have c1 : wr.cell? ⟨b, off + k * 4 + 1, none⟩ = some (.int .i64 x.pl.x) := kcell hb (hc 1 _ rfl)
      have c2 : wr.cell? ⟨b, off + k * 4 + 2, none⟩ = some (.int .i64 x.pl.y) := kcell hb (hc 2 _ rfl)
      have c3 : wr.cell? ⟨b, off + k * 4 + 3, none⟩ = some (.int .i64 x.pl.z) := kcell hb (hc 3 _ rfl)
      have hm : x ∈ l := List.mem_of_getElem? hx.out
      have hd := Lib.hid (idxF_drop p l k x hx.out)
      clear hc hx
      cases hpx : p x
      all_goals
        have hcall := Hp.out x hm wr hb
        rw [hpx] at hcall
        replace hcall := Lib.hid hcall
        replace hpx := Lib.hid hpx
        clear hm
        go_wp2_with fail
        refine hcall.out.mono ?_
        rintro e w3 ⟨rfl, hb3⟩
        go_wp2
      · go_roundw
        case rel => exact ⟨k + 1, by omega, by go_num, bl_tr hb hb3, by rw [hi.out, hd.out, hpx.out]; simp⟩
        case measure => simp [intOf]; omega
      · go_ret
        exact ⟨by rw [hi.out, hd.out, hpx.out] <;> rfl, bl_tr hb hb3⟩
    · go_wp2
      go_ret
      have : k = l.length := by have := Hn.out; omega
      exact ⟨by rw [hi.out, this]; simp [idxF], hb⟩
set_option maxRecDepth 20000 in
theorem c_ContainsFuncB (f : FuncId) (lb : Array Value) (p : Bc → Bool) (A : Option Addr) (l : List Bc) (c : Nat) (w : World) (hl : l.length ≤ 1000000)
    (he : Enters Try.prog f) (hp : Preds Try.prog f lb w (fun x : Bc => .agg #[.string x.name, .int .i64 x.pl.x, .int .i64 x.pl.y, .int .i64 x.pl.z]) l p) (hr : Sl cBc 4 w A l) :
    Calls Try.prog 66 #[.slice A l.length c, .func (.func f) #[] lb] w (Ret (.bool (l.any p)) w) := by
  have hcall := Lib.hid (c_IndexFuncB f lb p A l c w hl he hp hr)
  have hge := Lib.hid (idxF_ge p l 0 (Int.le_refl 0))
  clear he hp hr
  generalize l.length = n at *
  go_enter Try.func66, Try.ntmps66
  go_wp2_with fail
  refine hcall.out.mono ?_
  rintro e w3 ⟨rfl, hb3⟩
  go_wp2
  go_ret
  exact ⟨by rw [hge.out]; rfl, hb3⟩

set_option maxHeartbeats 400000 in
set_option maxRecDepth 20000 in
theorem c_IndexFuncI (f : FuncId) (lb : Array Value) (p : Int → Bool) (A : Option Addr) (l : List Int) (c : Nat) (w : World) (hl : l.length ≤ 1000000)
    (he : Enters Try.prog f) (hp : Preds Try.prog f lb w (fun x : Int => .int .i64 x) l p) (hr : Sl cI 1 w A l) :
    Calls Try.prog 114 #[.slice A l.length c, .func (.func f) #[] lb] w (Ret (.int .i64 (idxF p l 0)) w) := by
  have he' : ∀ args w, (callFunc f args).run Try.prog w = .ok (.enter f args) w := he
  clear he
  have Hp := Lib.hid hp
  have Hr := Lib.hid hr
  clear hp hr
  obtain ⟨n, Hn⟩ : ∃ n, Hid (l.length = n) := ⟨_, rfl⟩
  rw [Hn.out] at hl ⊢
  go_enter Try.func114, Try.ntmps114
  go_wp2
  go_loopw [8] (fun i wr => ∃ k : Nat, k ≤ n ∧ i = .int .i64 k ∧ Below w.heap.size w wr ∧ idxF p l 0 = idxF p (l.drop k) k) (fun i _ => n - (intOf i).toNat)
  case atStart => exact ⟨0, Nat.zero_le _, rfl, Below.refl _ _, rfl⟩
  case round =>
    obtain ⟨k, hk, rfl, hb, hi⟩ := hrel
    replace hi := Lib.hid hi
    by_cases hlt : k < n
    · have hx : l[k]? = some (l[k]'(by rw [Hn.out]; exact hlt)) := List.getElem?_eq_getElem _
      generalize l[k]'(by rw [Hn.out]; exact hlt) = x at hx
      replace hx := Lib.hid hx
      obtain ⟨b, off, rfl, hc⟩ := Hr.out k x hx.out
      have c0 : wr.cell? ⟨b, off + k, none⟩ = some (.int .i64 x) := by simpa using kcell hb (hc 0 _ rfl)
      have hm : x ∈ l := List.mem_of_getElem? hx.out
      have hd := Lib.hid (idxF_drop p l k x hx.out)
      clear hc hx
      cases hpx : p x
      all_goals
        have hcall := Hp.out x hm wr hb
        rw [hpx] at hcall
        replace hcall := Lib.hid hcall
        replace hpx := Lib.hid hpx
        clear hm
        go_wp2_with fail
        refine hcall.out.mono ?_
        rintro e w3 ⟨rfl, hb3⟩
        go_wp2
      · go_roundw
        case rel => exact ⟨k + 1, by omega, by go_num, bl_tr hb hb3, by rw [hi.out, hd.out, hpx.out]; simp⟩
        case measure => simp [intOf]; omega
      · go_ret
        exact ⟨by rw [hi.out, hd.out, hpx.out] <;> rfl, bl_tr hb hb3⟩
    · go_wp2
      go_ret
      have : k = l.length := by have := Hn.out; omega
      exact ⟨by rw [hi.out, this]; simp [idxF], hb⟩
set_option maxRecDepth 20000 in
theorem c_ContainsFuncI (f : FuncId) (lb : Array Value) (p : Int → Bool) (A : Option Addr) (l : List Int) (c : Nat) (w : World) (hl : l.length ≤ 1000000)
    (he : Enters Try.prog f) (hp : Preds Try.prog f lb w (fun x : Int => .int .i64 x) l p) (hr : Sl cI 1 w A l) :
    Calls Try.prog 69 #[.slice A l.length c, .func (.func f) #[] lb] w (Ret (.bool (l.any p)) w) := by
  have hcall := Lib.hid (c_IndexFuncI f lb p A l c w hl he hp hr)
  have hge := Lib.hid (idxF_ge p l 0 (Int.le_refl 0))
  clear he hp hr
  generalize l.length = n at *
  go_enter Try.func69, Try.ntmps69
  go_wp2_with fail
  refine hcall.out.mono ?_
  rintro e w3 ⟨rfl, hb3⟩
  go_wp2
  go_ret
  exact ⟨by rw [hge.out]; rfl, hb3⟩

set_option maxHeartbeats 800000 in
set_option maxRecDepth 20000 in
theorem c_eachB (f : FuncId) (lb : Array Value) (err : Nat → Bc → Int) (A : Option Addr) (l : List Bc) (c : Nat) (w : World) (hl : l.length ≤ 1000000)
    (he : Enters Try.prog f) (hp : ∀ k x, l[k]? = some x → ∀ W : World, Below w.heap.size w W → Calls Try.prog f (#[.int .i64 (k : Nat), .agg #[.string x.name, .int .i64 x.pl.x, .int .i64 x.pl.y, .int .i64 x.pl.z]] ++ lb) W (Ret (.int .i64 (err k x)) W))
    (hr : Sl cBc 4 w A l) :
    Calls Try.prog 64 #[.slice A l.length c, .func (.func f) #[] lb] w (Ret (.tuple #[.int .i64 (eachS err l 0).1, .int .i64 (eachS err l 0).2]) w) := by
  have he' : ∀ args w, (callFunc f args).run Try.prog w = .ok (.enter f args) w := he
  clear he
  have Hp := Lib.hid hp
  have Hr := Lib.hid hr
  clear hp hr
  obtain ⟨n, Hn⟩ : ∃ n, Hid (l.length = n) := ⟨_, rfl⟩
  rw [Hn.out] at hl ⊢
  go_enter Try.func64, Try.ntmps64
  go_wp2
  go_loopw [11] (fun i wr => ∃ k : Nat, k ≤ n ∧ i = .int .i64 k ∧ Below w.heap.size w wr ∧ eachS err l 0 = eachS err (l.drop k) k) (fun i _ => n - (intOf i).toNat)
  case atStart => exact ⟨0, Nat.zero_le _, rfl, Below.refl _ _, rfl⟩
  case round =>
    obtain ⟨k, hk, rfl, hb, hi⟩ := hrel
    replace hi := Lib.hid hi
    by_cases hlt : k < n
    · have hx : l[k]? = some (l[k]'(by rw [Hn.out]; exact hlt)) := List.getElem?_eq_getElem _
      generalize l[k]'(by rw [Hn.out]; exact hlt) = x at hx
      replace hx := Lib.hid hx
      obtain ⟨b, off, rfl, hc⟩ := Hr.out k x hx.out
      have c0 : wr.cell? ⟨b, off + k * 4, none⟩ = some (.string x.name) := kcell hb (hc 0 _ rfl)
      have c1 : wr.cell? ⟨b, off + k * 4 + 1, none⟩ = some (.int .i64 x.pl.x) := kcell hb (hc 1 _ rfl)
      have c2 : wr.cell? ⟨b, off + k * 4 + 2, none⟩ = some (.int .i64 x.pl.y) := kcell hb (hc 2 _ rfl)
      have c3 : wr.cell? ⟨b, off + k * 4 + 3, none⟩ = some (.int .i64 x.pl.z) := kcell hb (hc 3 _ rfl)
      have hd := Lib.hid (eachS_drop err l k x hx.out)
      have hcall := Lib.hid (Hp.out k x hx.out)
      clear hc
      go_wp2_with fail
      refine (hcall.out _ (bl_al _ hb)).mono ?_
      rintro e w3 ⟨rfl, hb3⟩
      have hb4 := bl_tr (bl_al _ hb) hb3
      clear hb3
      generalize err k x = ex at *
      by_cases h0 : ex = 0
      · have h0' : (ex != 0) = false := by simp [h0]
        replace h0 := Lib.hid h0
        go_wp2
        go_roundw
        case rel => exact ⟨k + 1, by omega, by go_num, hb4, by rw [hi.out, hd.out, if_pos h0.out]⟩
        case measure => simp [intOf]; omega
      · have h0' : (ex != 0) = true := by simp [h0]
        replace h0 := Lib.hid h0
        go_wp2
        go_ret2
        exact ⟨by rw [hi.out, hd.out, if_neg h0.out] <;> rfl, hb4⟩
    · go_wp2
      go_ret2
      have : k = l.length := by have := Hn.out; omega
      exact ⟨by rw [hi.out, this]; simp [eachS], hb⟩

set_option maxHeartbeats 800000 in
set_option maxRecDepth 20000 in
theorem c_eachR (f : FuncId) (lb : Array Value) (err : Nat → Rd → Int) (A : Option Addr) (l : List Rd) (c : Nat) (w : World) (hl : l.length ≤ 1000000)
    (he : Enters Try.prog f) (hp : ∀ k x, l[k]? = some x → ∀ W : World, Below w.heap.size w W → Calls Try.prog f (#[.int .i64 (k : Nat), .agg #[.int .i64 x.kind, .int .i64 x.idx, .int .i64 x.v.lo, .int .i64 x.v.hi]] ++ lb) W (Ret (.int .i64 (err k x)) W))
    (hr : Sl cRd 4 w A l) :
    Calls Try.prog 90 #[.slice A l.length c, .func (.func f) #[] lb] w (Ret (.tuple #[.int .i64 (eachS err l 0).1, .int .i64 (eachS err l 0).2]) w) := by
  have he' : ∀ args w, (callFunc f args).run Try.prog w = .ok (.enter f args) w := he
  clear he
  have Hp := Lib.hid hp
  have Hr := Lib.hid hr
  clear hp hr
  obtain ⟨n, Hn⟩ : ∃ n, Hid (l.length = n) := ⟨_, rfl⟩
  rw [Hn.out] at hl ⊢
  go_enter Try.func90, Try.ntmps90
  go_wp2
  go_loopw [11] (fun i wr => ∃ k : Nat, k ≤ n ∧ i = .int .i64 k ∧ Below w.heap.size w wr ∧ eachS err l 0 = eachS err (l.drop k) k) (fun i _ => n - (intOf i).toNat)
  case atStart => exact ⟨0, Nat.zero_le _, rfl, Below.refl _ _, rfl⟩
  case round =>
    obtain ⟨k, hk, rfl, hb, hi⟩ := hrel
    replace hi := Lib.hid hi
    by_cases hlt : k < n
    · have hx : l[k]? = some (l[k]'(by rw [Hn.out]; exact hlt)) := List.getElem?_eq_getElem _
      generalize l[k]'(by rw [Hn.out]; exact hlt) = x at hx
      replace hx := Lib.hid hx
      obtain ⟨b, off, rfl, hc⟩ := Hr.out k x hx.out
      have c0 : wr.cell? ⟨b, off + k * 4, none⟩ = some (.int .i64 x.kind) := kcell hb (hc 0 _ rfl)
      have c1 : wr.cell? ⟨b, off + k * 4 + 1, none⟩ = some (.int .i64 x.idx) := kcell hb (hc 1 _ rfl)
      have c2 : wr.cell? ⟨b, off + k * 4 + 2, none⟩ = some (.int .i64 x.v.lo) := kcell hb (hc 2 _ rfl)
      have c3 : wr.cell? ⟨b, off + k * 4 + 3, none⟩ = some (.int .i64 x.v.hi) := kcell hb (hc 3 _ rfl)
      have hd := Lib.hid (eachS_drop err l k x hx.out)
      have hcall := Lib.hid (Hp.out k x hx.out)
      clear hc
      go_wp2_with fail
      refine (hcall.out _ (bl_al _ hb)).mono ?_
      rintro e w3 ⟨rfl, hb3⟩
      have hb4 := bl_tr (bl_al _ hb) hb3
      clear hb3
      generalize err k x = ex at *
      by_cases h0 : ex = 0
      · have h0' : (ex != 0) = false := by simp [h0]
        replace h0 := Lib.hid h0
        go_wp2
        go_roundw
        case rel => exact ⟨k + 1, by omega, by go_num, hb4, by rw [hi.out, hd.out, if_pos h0.out]⟩
        case measure => simp [intOf]; omega
      · have h0' : (ex != 0) = true := by simp [h0]
        replace h0 := Lib.hid h0
        go_wp2
        go_ret2
        exact ⟨by rw [hi.out, hd.out, if_neg h0.out] <;> rfl, hb4⟩
    · go_wp2
      go_ret2
      have : k = l.length := by have := Hn.out; omega
      exact ⟨by rw [hi.out, this]; simp [eachS], hb⟩
end Go.Proofs.Ytephimmamkafoaa
