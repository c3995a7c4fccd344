/-
  bus.each at numbers, streams, strings, functions and modes, the check with a state of its own; slices.IndexFunc and slices.ContainsFunc. (Printed by gen_each.py.)
  Walks of chapter 7's smallest functions: comparisons, errors, names.
  Walks: sets of numbers as bits: the lowest one, how many, the list, the set of a list. The table of the library's that is read: Tab.
  Walks: numbers of at most two digits, read.
  'append' onto a slice of the call's own: its block is the one it had, or a new one.
  'append' onto a slice of the call's own, as the end of a region that draws its order: what it turns is the slice's own block.
  'append' onto a slice of the call's own in a round's fence; such slices through a loop's machinery.
  Plain laws of silence: the ranges ascend without neighbours; a longer timeout leaves no further tick silent.
-/
import Derived.Test.YtbdgblnccjpahaaGreatDoorUT3
import Derived.Shelf.Abstract
import Derived.Lib.TrailingZeros
import Derived.Laws.Bits64b
import Derived.Lib.AppendIntMem
import Derived.Lib.AtoiErrMem
import Derived.Test.YtbdgblnccjpahaaGreatDoorUT1
import Derived.Test.YtbdgblnccjpahaaGreatDoorUT2
set_option linter.unusedSimpArgs false
set_option linter.unusedVariables false
namespace Go.Proofs.YtbdgblnccjpahaaGreatDoor
open Go.RowKit Go.Shelf
attribute [local go_sem] bl_al bl_drew bl_drewN bl_refl

set_option maxHeartbeats 800000 in
set_option maxRecDepth 20000 in
theorem c_eachJI (f : FuncId) (lb : Array Value) (err : Nat → Int → Int) (J : Nat → World → Prop) (X : List Nat) (A : Option Addr) (l : List Int) (c : Nat) (w : World) (hl : l.length ≤ 1000000)
    (he : Enters Tryz.prog f) (hJ : ∀ k A B, J k A → Below A.heap.size A B → J k B)
    (hp : ∀ k x, l[k]? = some x → ∀ W : World, BX X w W → J k W → Calls Tryz.prog f (#[.int .i64 (k : Nat), .int .i64 x] ++ lb) W (fun e W' => e = .returned (.int .i64 (err k x)) ∧ BX X W W' ∧ (err k x = 0 → J (k + 1) W')))
    (hr : ∀ W, BX X w W → Sl cI 1 W A l) (h0 : J 0 w) :
    Calls Tryz.prog 72 #[.slice A l.length c, .func (.func f) #[] lb] w (fun e W' => e = .returned (.tuple #[.int .i64 (eachS err l 0).1, .int .i64 (eachS err l 0).2]) ∧ BX X w W' ∧ ((eachS err l 0).2 = 0 → J l.length W')) := by
  have he' : ∀ args w, (callFunc f args).run Tryz.prog w = .ok (.enter f args) w := he
  clear he
  have Hp := Lib.hid hp
  have Hr := Lib.hid hr
  have H0 := Lib.hid h0
  have HJ := Lib.hid hJ
  clear hp hr h0 hJ
  obtain ⟨n, Hn⟩ : ∃ n, Hid (l.length = n) := ⟨_, rfl⟩
  rw [Hn.out] at hl ⊢
  go_enter Tryz.func72, Tryz.ntmps72
  go_wp2
  go_loopw [11] (fun i wr => ∃ k : Nat, k ≤ n ∧ i = .int .i64 k ∧ BX X w wr ∧ J k wr ∧ eachS err l 0 = eachS err (l.drop k) k) (fun i _ => n - (intOf i).toNat)
  case atStart => exact ⟨0, Nat.zero_le _, rfl, bx_refl _ _, H0.out, rfl⟩
  case round =>
    obtain ⟨k, hk, rfl, hb, hj, hi⟩ := hrel
    replace hi := Lib.hid hi
    replace hj := Lib.hid hj
    by_cases hlt : k < n
    · have hx : l[k]? = some (l[k]'(by rw [Hn.out]; exact hlt)) := List.getElem?_eq_getElem _
      generalize l[k]'(by rw [Hn.out]; exact hlt) = x at hx
      replace hx := Lib.hid hx
      obtain ⟨b, off, rfl, hc⟩ := (Hr.out wr hb) k x hx.out
      have c0 : wr.cell? ⟨b, off + k, none⟩ = some (.int .i64 x) := by simpa using hc 0 _ rfl
      have hd := Lib.hid (eachS_drop err l k x hx.out)
      have hcall := Lib.hid (Hp.out k x hx.out)
      clear hc
      go_wp2_with fail
      refine Calls.mono (hcall.out _ ?_ ?_) ?_
      · first | exact hb | exact bx_al _ hb
      · first | exact hj.out | exact HJ.out _ _ _ hj.out (bl_al _ (bl_refl _))
      rintro e w3 ⟨rfl, hb3, hj3⟩
      have hb4 : BX X w w3 := BX.trans (by first | exact hb | exact bx_al _ hb) hb3
      replace hj3 := Lib.hid hj3
      clear hb3
      generalize err k x = ex at *
      by_cases h0 : ex = 0
      · have h0' : (ex != 0) = false := by simp [h0]
        replace h0 := Lib.hid h0
        have hj4 := Lib.hid (hj3.out h0.out)
        go_wp2
        go_roundw
        case rel => exact ⟨k + 1, by omega, by go_num, hb4, hj4.out, by rw [hi.out, hd.out, if_pos h0.out]⟩
        case measure => simp [intOf]; omega
      · have h0' : (ex != 0) = true := by simp [h0]
        replace h0 := Lib.hid h0
        go_wp2
        go_ret2
        exact ⟨by rw [hi.out, hd.out, if_neg h0.out] <;> rfl, hb4, fun h => by rw [hi.out, hd.out, if_neg h0.out] at h; exact absurd h h0.out⟩
    · go_wp2
      go_ret2
      have : k = l.length := by have := Hn.out; omega
      exact ⟨by rw [hi.out, this]; simp [eachS], hb, fun _ => (show k = n by omega) ▸ hj.out⟩
theorem c_eachI (f : FuncId) (lb : Array Value) (err : Nat → Int → Int) (A : Option Addr) (l : List Int) (c : Nat) (w : World) (hl : l.length ≤ 1000000)
    (he : Enters Tryz.prog f) (hp : ∀ k x, l[k]? = some x → ∀ W : World, Below w.heap.size w W → Calls Tryz.prog f (#[.int .i64 (k : Nat), .int .i64 x] ++ lb) W (Ret (.int .i64 (err k x)) W))
    (hr : Sl cI 1 w A l) :
    Calls Tryz.prog 72 #[.slice A l.length c, .func (.func f) #[] lb] w (Ret (.tuple #[.int .i64 (eachS err l 0).1, .int .i64 (eachS err l 0).2]) w) :=
  (c_eachJI f lb err (fun _ _ => True) [] A l c w hl he (fun _ _ _ _ _ => trivial) (fun k x hx W hb _ => (hp k x hx W (bx_nil hb)).mono fun _ _ ⟨h1, h2⟩ => ⟨h1, bx_bl [] h2, fun _ => trivial⟩)
    (fun W hb => hr.below (bx_nil hb)) trivial).mono fun _ _ ⟨h1, h2, _⟩ => ⟨h1, bx_nil h2⟩

set_option maxHeartbeats 800000 in
set_option maxRecDepth 20000 in
theorem c_eachJS (f : FuncId) (lb : Array Value) (err : Nat → Sm → Int) (J : Nat → World → Prop) (X : List Nat) (A : Option Addr) (l : List Sm) (c : Nat) (w : World) (hl : l.length ≤ 1000000)
    (he : Enters Tryz.prog f) (hJ : ∀ k A B, J k A → Below A.heap.size A B → J k B)
    (hp : ∀ k x, l[k]? = some x → ∀ W : World, BX X w W → J k W → Calls Tryz.prog f (#[.int .i64 (k : Nat), .agg #[.string x.name, .int .i64 x.per, .int .i64 x.dl, .int .i64 x.len]] ++ lb) W (fun e W' => e = .returned (.int .i64 (err k x)) ∧ BX X W W' ∧ (err k x = 0 → J (k + 1) W')))
    (hr : ∀ W, BX X w W → Sl cSm 4 W A l) (h0 : J 0 w) :
    Calls Tryz.prog 96 #[.slice A l.length c, .func (.func f) #[] lb] w (fun e W' => e = .returned (.tuple #[.int .i64 (eachS err l 0).1, .int .i64 (eachS err l 0).2]) ∧ BX X w W' ∧ ((eachS err l 0).2 = 0 → J l.length W')) := by
  have he' : ∀ args w, (callFunc f args).run Tryz.prog w = .ok (.enter f args) w := he
  clear he
  have Hp := Lib.hid hp
  have Hr := Lib.hid hr
  have H0 := Lib.hid h0
  have HJ := Lib.hid hJ
  clear hp hr h0 hJ
  obtain ⟨n, Hn⟩ : ∃ n, Hid (l.length = n) := ⟨_, rfl⟩
  rw [Hn.out] at hl ⊢
  go_enter Tryz.func96, Tryz.ntmps96
  go_wp2
  go_loopw [11] (fun i wr => ∃ k : Nat, k ≤ n ∧ i = .int .i64 k ∧ BX X w wr ∧ J k wr ∧ eachS err l 0 = eachS err (l.drop k) k) (fun i _ => n - (intOf i).toNat)
  case atStart => exact ⟨0, Nat.zero_le _, rfl, bx_refl _ _, H0.out, rfl⟩
  case round =>
    obtain ⟨k, hk, rfl, hb, hj, hi⟩ := hrel
    replace hi := Lib.hid hi
    replace hj := Lib.hid hj
    by_cases hlt : k < n
    · have hx : l[k]? = some (l[k]'(by rw [Hn.out]; exact hlt)) := List.getElem?_eq_getElem _
      generalize l[k]'(by rw [Hn.out]; exact hlt) = x at hx
      replace hx := Lib.hid hx
      obtain ⟨b, off, rfl, hc⟩ := (Hr.out wr hb) k x hx.out
      have c0 : wr.cell? ⟨b, off + k * 4, none⟩ = some (.string x.name) := hc 0 _ rfl
      have c1 : wr.cell? ⟨b, off + k * 4 + 1, none⟩ = some (.int .i64 x.per) := hc 1 _ rfl
      have c2 : wr.cell? ⟨b, off + k * 4 + 2, none⟩ = some (.int .i64 x.dl) := hc 2 _ rfl
      have c3 : wr.cell? ⟨b, off + k * 4 + 3, none⟩ = some (.int .i64 x.len) := hc 3 _ rfl
      have hd := Lib.hid (eachS_drop err l k x hx.out)
      have hcall := Lib.hid (Hp.out k x hx.out)
      clear hc
      go_wp2_with fail
      refine Calls.mono (hcall.out _ ?_ ?_) ?_
      · first | exact hb | exact bx_al _ hb
      · first | exact hj.out | exact HJ.out _ _ _ hj.out (bl_al _ (bl_refl _))
      rintro e w3 ⟨rfl, hb3, hj3⟩
      have hb4 : BX X w w3 := BX.trans (by first | exact hb | exact bx_al _ hb) hb3
      replace hj3 := Lib.hid hj3
      clear hb3
      generalize err k x = ex at *
      by_cases h0 : ex = 0
      · have h0' : (ex != 0) = false := by simp [h0]
        replace h0 := Lib.hid h0
        have hj4 := Lib.hid (hj3.out h0.out)
        go_wp2
        go_roundw
        case rel => exact ⟨k + 1, by omega, by go_num, hb4, hj4.out, by rw [hi.out, hd.out, if_pos h0.out]⟩
        case measure => simp [intOf]; omega
      · have h0' : (ex != 0) = true := by simp [h0]
        replace h0 := Lib.hid h0
        go_wp2
        go_ret2
        exact ⟨by rw [hi.out, hd.out, if_neg h0.out] <;> rfl, hb4, fun h => by rw [hi.out, hd.out, if_neg h0.out] at h; exact absurd h h0.out⟩
    · go_wp2
      go_ret2
      have : k = l.length := by have := Hn.out; omega
      exact ⟨by rw [hi.out, this]; simp [eachS], hb, fun _ => (show k = n by omega) ▸ hj.out⟩
theorem c_eachS (f : FuncId) (lb : Array Value) (err : Nat → Sm → Int) (A : Option Addr) (l : List Sm) (c : Nat) (w : World) (hl : l.length ≤ 1000000)
    (he : Enters Tryz.prog f) (hp : ∀ k x, l[k]? = some x → ∀ W : World, Below w.heap.size w W → Calls Tryz.prog f (#[.int .i64 (k : Nat), .agg #[.string x.name, .int .i64 x.per, .int .i64 x.dl, .int .i64 x.len]] ++ lb) W (Ret (.int .i64 (err k x)) W))
    (hr : Sl cSm 4 w A l) :
    Calls Tryz.prog 96 #[.slice A l.length c, .func (.func f) #[] lb] w (Ret (.tuple #[.int .i64 (eachS err l 0).1, .int .i64 (eachS err l 0).2]) w) :=
  (c_eachJS f lb err (fun _ _ => True) [] A l c w hl he (fun _ _ _ _ _ => trivial) (fun k x hx W hb _ => (hp k x hx W (bx_nil hb)).mono fun _ _ ⟨h1, h2⟩ => ⟨h1, bx_bl [] h2, fun _ => trivial⟩)
    (fun W hb => hr.below (bx_nil hb)) trivial).mono fun _ _ ⟨h1, h2, _⟩ => ⟨h1, bx_nil h2⟩

set_option maxHeartbeats 400000 in
set_option maxRecDepth 20000 in
theorem c_IndexFuncS (f : FuncId) (lb : Array Value) (p : Sm → Bool) (A : Option Addr) (l : List Sm) (c : Nat) (w : World) (hl : l.length ≤ 1000000)
    (he : Enters Tryz.prog f) (hp : Preds Tryz.prog f lb w (fun x : Sm => .agg #[.string x.name, .int .i64 x.per, .int .i64 x.dl, .int .i64 x.len]) l p) (hr : Sl cSm 4 w A l) :
    Calls Tryz.prog 144 #[.slice A l.length c, .func (.func f) #[] lb] w (Ret (.int .i64 (idxF p l 0)) w) := by
  have he' : ∀ args w, (callFunc f args).run Tryz.prog w = .ok (.enter f args) w := he
  clear he
  have Hp := Lib.hid hp
  have Hr := Lib.hid hr
  clear hp hr
  obtain ⟨n, Hn⟩ : ∃ n, Hid (l.length = n) := ⟨_, rfl⟩
  rw [Hn.out] at hl ⊢
  go_enter Tryz.func144, Tryz.ntmps144
  go_wp2
  go_loopw [8] (fun i wr => ∃ k : Nat, k ≤ n ∧ i = .int .i64 k ∧ Below w.heap.size w wr ∧ idxF p l 0 = idxF p (l.drop k) k) (fun i _ => n - (intOf i).toNat)
  case atStart => exact ⟨0, Nat.zero_le _, rfl, Below.refl _ _, rfl⟩
  case round =>
    obtain ⟨k, hk, rfl, hb, hi⟩ := hrel
    replace hi := Lib.hid hi
    by_cases hlt : k < n
    · have hx : l[k]? = some (l[k]'(by rw [Hn.out]; exact hlt)) := List.getElem?_eq_getElem _
      generalize l[k]'(by rw [Hn.out]; exact hlt) = x at hx
      replace hx := Lib.hid hx
      obtain ⟨b, off, rfl, hc⟩ := (Hr.out.below hb) k x hx.out
      have c0 : wr.cell? ⟨b, off + k * 4, none⟩ = some (.string x.name) := hc 0 _ rfl
      have c1 : wr.cell? ⟨b, off + k * 4 + 1, none⟩ = some (.int .i64 x.per) := hc 1 _ rfl
      have c2 : wr.cell? ⟨b, off + k * 4 + 2, none⟩ = some (.int .i64 x.dl) := hc 2 _ rfl
      have c3 : wr.cell? ⟨b, off + k * 4 + 3, none⟩ = some (.int .i64 x.len) := hc 3 _ rfl
      have hm : x ∈ l := List.mem_of_getElem? hx.out
      have hd := Lib.hid (idxF_drop p l k x hx.out)
      clear hc hx
      cases hpx : p x
      all_goals
        have hcall := Hp.out x hm wr hb
        rw [hpx] at hcall
        replace hcall := Lib.hid hcall
        replace hpx := Lib.hid hpx
        clear hm
        go_wp2_with fail
        refine hcall.out.mono ?_
        rintro e w3 ⟨rfl, hb3⟩
        go_wp2
      · go_roundw
        case rel => exact ⟨k + 1, by omega, by go_num, bl_tr hb hb3, by rw [hi.out, hd.out, hpx.out]; simp⟩
        case measure => simp [intOf]; omega
      · go_ret
        exact ⟨by rw [hi.out, hd.out, hpx.out] <;> rfl, bl_tr hb hb3⟩
    · go_wp2
      go_ret
      have : k = l.length := by have := Hn.out; omega
      exact ⟨by rw [hi.out, this]; simp [idxF], hb⟩
set_option maxRecDepth 20000 in
theorem c_ContainsFuncS (f : FuncId) (lb : Array Value) (p : Sm → Bool) (A : Option Addr) (l : List Sm) (c : Nat) (w : World) (hl : l.length ≤ 1000000)
    (he : Enters Tryz.prog f) (hp : Preds Tryz.prog f lb w (fun x : Sm => .agg #[.string x.name, .int .i64 x.per, .int .i64 x.dl, .int .i64 x.len]) l p) (hr : Sl cSm 4 w A l) :
    Calls Tryz.prog 98 #[.slice A l.length c, .func (.func f) #[] lb] w (Ret (.bool (l.any p)) w) := by
  have hcall := Lib.hid (c_IndexFuncS f lb p A l c w hl he hp hr)
  have hge := Lib.hid (idxF_ge p l 0 (Int.le_refl 0))
  clear he hp hr
  generalize l.length = n at *
  go_enter Tryz.func98, Tryz.ntmps98
  go_wp2_with fail
  refine hcall.out.mono ?_
  rintro e w3 ⟨rfl, hb3⟩
  go_wp2
  go_ret
  exact ⟨by rw [hge.out]; rfl, hb3⟩

end Go.Proofs.YtbdgblnccjpahaaGreatDoor
namespace Go.Proofs.YtbdgblnccjpahaaGreatDoor
open Go.RowKit Go.Shelf
attribute [local go_sem] bl_al bl_drew bl_drewN bl_refl
set_option maxRecDepth 20000
theorem c_within (n lo hi : Int) (w : World) : Calls Tryz.prog 71 #[.int .i64 n, .int .i64 lo, .int .i64 hi] w (Same (.bool (inR n lo hi)) w) := by
  go_enter Tryz.func71, Tryz.ntmps71
  go_wp2
  all_goals (go_ret; exact ⟨by first | (simp [inR, *]; done) | (simp [inR]; intros; omega), rfl⟩)

theorem c_unless (b : Bool) (x : Int) (w : World) : Calls Tryz.prog 58 #[.bool b, .int .i64 x] w (Same (.int .i64 (unl b x)) w) := by
  cases b
  all_goals
    go_enter Tryz.func58, Tryz.ntmps58
    go_wp2
    go_ret
    exact ⟨rfl, rfl⟩

set_option maxRecDepth 20000 in
theorem c_firstL (A : Option Addr) (l : List Int) (c : Nat) (w : World) (hl : l.length ≤ 1000000) (hr : Sl cI 1 w A l) :
    Calls Tryz.prog 74 #[.slice A l.length c] w (Same (.int .i64 (fstE l)) w) := by
  have Hr := Lib.hid hr
  clear hr
  obtain ⟨n, Hn⟩ : ∃ n, Hid (l.length = n) := ⟨_, rfl⟩
  rw [Hn.out] at hl ⊢
  go_enter Tryz.func74, Tryz.ntmps74
  go_wp2
  go_loop [7] (fun i => ∃ k : Nat, k ≤ n ∧ i = .int .i64 k ∧ fstE l = fstE (l.drop k)) (fun i => n - (intOf i).toNat)
  case atStart => exact ⟨0, Nat.zero_le _, rfl, rfl⟩
  case round =>
    obtain ⟨k, hk, rfl, hi⟩ := hrel
    replace hi := Lib.hid hi
    by_cases hlt : k < n
    · have hx : l[k]? = some (l[k]'(by rw [Hn.out]; exact hlt)) := List.getElem?_eq_getElem _
      generalize l[k]'(by rw [Hn.out]; exact hlt) = x at hx
      replace hx := Lib.hid hx
      obtain ⟨b, off, rfl, hc⟩ := Hr.out k x hx.out
      have c0 : w.cell? ⟨b, off + k, none⟩ = some (.int .i64 x) := by simpa using hc 0 _ rfl
      have hd := Lib.hid (fstE_drop l k x hx.out)
      clear hc
      by_cases h0 : x = 0
      · have h0' : (x != 0) = false := by simp [h0]
        replace h0 := Lib.hid h0
        go_wp2
        go_round
        case rel => exact ⟨k + 1, by omega, by go_num, by rw [hi.out, hd.out, if_pos h0.out]⟩
        case measure => simp [intOf]; omega
      · have h0' : (x != 0) = true := by simp [h0]
        replace h0 := Lib.hid h0
        go_wp2
        go_ret
        exact ⟨by rw [hi.out, hd.out, if_neg h0.out] <;> rfl, rfl⟩
    · go_wp2
      go_ret
      have : k = l.length := by have := Hn.out; omega
      exact ⟨by rw [hi.out, this]; simp [fstE], rfl⟩

theorem c_first2 {w : World} {g t : Nat} {a b : Int} (h : Blk w g t #[.int .i64 a, .int .i64 b]) : Calls Tryz.prog 74 #[.slice (some ⟨g, 0, none⟩) 2 2] w (Same (.int .i64 (fstE [a, b])) w) :=
  c_firstL (some ⟨g, 0, none⟩) [a, b] 2 w (by simp) (Blk.ints (l := [a, b]) h)
theorem c_first3 {w : World} {g t : Nat} {a b c : Int} (h : Blk w g t #[.int .i64 a, .int .i64 b, .int .i64 c]) : Calls Tryz.prog 74 #[.slice (some ⟨g, 0, none⟩) 3 3] w (Same (.int .i64 (fstE [a, b, c])) w) :=
  c_firstL (some ⟨g, 0, none⟩) [a, b, c] 3 w (by simp) (Blk.ints (l := [a, b, c]) h)
theorem c_first4 {w : World} {g t : Nat} {a b c d : Int} (h : Blk w g t #[.int .i64 a, .int .i64 b, .int .i64 c, .int .i64 d]) : Calls Tryz.prog 74 #[.slice (some ⟨g, 0, none⟩) 4 4] w (Same (.int .i64 (fstE [a, b, c, d])) w) :=
  c_firstL (some ⟨g, 0, none⟩) [a, b, c, d] 4 w (by simp) (Blk.ints (l := [a, b, c, d]) h)

theorem c_isByte (n : Int) (w : World) : Calls Tryz.prog 130 #[.int .i64 n] w (Same (.bool (byteB n)) w) := by
  go_enter Tryz.func130, Tryz.ntmps130
  go_wp2_with (go_at_call 71; (with_reducible refine (c_within _ _ _ _).mono ?_); rintro e w3 ⟨rfl, rfl⟩)
  go_ret
  exact ⟨rfl, rfl⟩
end Go.Proofs.YtbdgblnccjpahaaGreatDoor
namespace Go.Proofs.YtbdgblnccjpahaaGreatDoor
open Go.RowKit Go.Shelf
attribute [local go_sem] bl_al bl_drew bl_drewN bl_refl
set_option maxRecDepth 20000
/-- math/bits.deBruijn64tab as its initialiser lays it. -/
def Tab (w : World) : Prop := ∀ j, j < 64 → w.cell? ⟨2, j, none⟩ = some (.int .u8 ((Lib.deBruijn64tab.getD j 0 : Nat) : Int))
theorem Tab.below {w w' : World} (h : Tab w) (hb : Below w.heap.size w w') : Tab w' := fun j hj => kcell hb (h j hj)
end Go.Proofs.YtbdgblnccjpahaaGreatDoor
namespace Go.Proofs.YtbdgblnccjpahaaGreatDoor
open Go.RowKit Go.Shelf
attribute [local go_sem] bl_al bl_drew bl_drewN bl_refl bx_al bx_drew bx_drewN bx_refl
set_option maxRecDepth 20000
theorem var_bl {w w' : World} {n : String} {cs : Array Value} (h : w.var? Tryz.prog n = some cs) (hb : Below w.heap.size w w') : w'.var? Tryz.prog n = some cs := by
  unfold World.var? at h ⊢
  cases hg : Tryz.prog.globalNamed n with
  | none => rw [hg] at h; cases h
  | some g =>
    rw [hg] at h
    simp only [Option.bind_some] at h ⊢
    cases hk : w.heap[g]? with
    | none => rw [hk] at h; cases h
    | some o =>
      rw [hb.block g (Array.getElem?_eq_some_iff.1 hk).1, hk]
      rw [hk] at h
      exact h
/-- What the library's own variables hold. -/
structure Env (w : World) : Prop where
  tab : Tab w
  syn : ∃ tp p, w.var? Tryz.prog "strconv.ErrSyntax" = some #[.iface tp p]
  rng : ∃ tp p, w.var? Tryz.prog "strconv.ErrRange" = some #[.iface tp p]
  pow : Lib.TabIs Tryz.prog w "internal/strconv.uint64pow10" .u64 Lib.pow10Tab
theorem Env.below {w w' : World} (h : Env w) (hb : Below w.heap.size w w') : Env w' :=
  ⟨h.tab.below hb, h.syn.imp fun _ h => h.imp fun _ h => var_bl h hb, h.rng.imp fun _ h => h.imp fun _ h => var_bl h hb, var_bl h.pow hb⟩
theorem c_AtoiOk (s : ByteArray) (hs : s.size ≤ 1000000) (v : Int) (h : Lib.atoiAll s.data.toList = .ok v) (w : World) : Calls Tryz.prog 159 #[.string s] w (Ret (.tuple #[.int .i64 v, .nilIface]) w) :=
  (Tryz.strconv_Atoi_ok s (by omega) v h w).mono fun e w' ⟨he, hw⟩ => ⟨he, by
    rcases hw with rfl | ⟨t, rfl⟩
    · exact bl_refl w'
    · exact Lib.bytesWorld_below _ _ _⟩
/-- An error of Atoi. -/
theorem c_AtoiErr (s : ByteArray) (hs : s.size ≤ 1000000) (h : ∀ v, Lib.atoiAll s.data.toList ≠ .ok v) (w : World) (hE : Env w) : Calls Tryz.prog 159 #[.string s] w (fun e w' => Below w.heap.size w w' ∧ ∃ x t N, e = .returned (.tuple #[.int .i64 x, .iface t (.pointer (some ⟨N, 0, none⟩))])) := by
  rcases ha : Lib.atoiAll s.data.toList with v | _ | _
  · exact absurd ha (h v)
  · obtain ⟨tp, p, hv⟩ := hE.syn
    exact (Tryz.strconv_Atoi_syntax_var s (by omega) ha tp p w hv).mono fun e w' ⟨N, he, _, _, hb⟩ => ⟨hb, _, _, N, he⟩
  · obtain ⟨tp, p, hv⟩ := hE.rng
    exact (Tryz.strconv_Atoi_range_var s (by omega) ha tp p w hv).mono fun e w' ⟨N, he, _, _, hb⟩ => ⟨hb, _, _, N, he⟩
theorem c_Itoa (n : Int) (h0 : -9223372036854775808 ≤ n) (h1 : n ≤ 9223372036854775807) (w : World) (hE : Env w) : Calls Tryz.prog 121 #[.int .i64 n] w (Ret (.string ⟨(Lib.itoa n).toArray⟩) w) :=
  (Tryz.strconv_Itoa n h0 h1 w hE.pow).mono fun e w' ⟨he, k, os, hw⟩ => ⟨he, by rw [hw]; exact Lib.below_grow _ _ (Nat.le_refl _) _ _⟩
theorem str_ext {s : ByteArray} {l : List UInt8} (h : s.data.toList = l) : (⟨l.toArray⟩ : ByteArray) = s := by
  subst h
  rfl
theorem str_ne {s : ByteArray} {l : List UInt8} (h : l ≠ s.data.toList) : (l == s.toList) = false := by
  rw [ByteArray.toList_eq, beq_eq_false_iff_ne]
  exact h
set_option maxHeartbeats 1000000 in
theorem c_number (s : ByteArray) (hs : s.size ≤ 1000000) (w : World) (hE : Env w) :
    Calls Tryz.prog 120 #[.string s] w (fun e w' => Below w.heap.size w w' ∧ ∃ v : Int, e = .returned (.tuple #[.int .i64 v, .bool (natS s.data.toList).isSome]) ∧ ∀ n : Nat, natS s.data.toList = some n → v = n) := by
  by_cases hok : ∃ v, Lib.atoiAll s.data.toList = .ok v
  · obtain ⟨v, hv⟩ := hok
    have hb := Lib.atoiAll_bounds hv
    have hA := Lib.hid (c_AtoiOk s hs v hv w)
    have hI := Lib.hid fun W (hW : Env W) => c_Itoa v hb.1 hb.2 W hW
    have hEn := Lib.hid fun W (h : Below w.heap.size w W) => hE.below h
    have hn : Hid (∀ n : Nat, natS s.data.toList = some n → v = n) := fun n h => by
      have := atoi_natS h
      rw [hv] at this
      injection this
    have hyes : Hid (0 ≤ v → Lib.itoa v = s.data.toList → s.size ≤ 2 → (natS s.data.toList).isSome = true) := fun h0 h1 h2 => by
      rw [natS_itoa h0 h1 h2]; rfl
    have hno : Hid (¬ (0 ≤ v ∧ Lib.itoa v = s.data.toList ∧ s.size ≤ 2) → (natS s.data.toList).isSome = false) := fun h => by
      cases h1 : natS s.data.toList with
      | none => rfl
      | some n =>
        exfalso
        have h2 := hn.out n h1
        subst h2
        exact h ⟨Int.natCast_nonneg n, itoa_natS h1, natS_len h1⟩
    obtain ⟨hb0, hb1⟩ := hb
    have he := Lib.hid (@str_ext s (Lib.itoa v))
    have hne := Lib.hid (@str_ne s (Lib.itoa v))
    have hlen : Hid (s.data.toList.length = s.size) := rfl
    clear hE hv
    generalize (natS s.data.toList).isSome = ok at *
    generalize Lib.itoa v = L at *
    go_enter Tryz.func120, Tryz.ntmps120
    go_wp2_with fail
    refine hA.out.mono ?_
    rintro e w1 ⟨rfl, hb2⟩
    by_cases h0 : 0 ≤ v
    rotate_left
    · have e1 := hno.out (fun h => h0 h.1)
      subst e1
      go_wp2
      refine bodyPost_ret (v := .tuple #[.int .i64 v, .bool false]) (by simp [results, Tryz.results120, go_sem]) rfl ⟨hb2, v, rfl, hn.out⟩
    have hEw := hEn.out w1 hb2
    go_wp2_with fail
    refine (hI.out w1 hEw).mono ?_
    rintro e w2 ⟨rfl, hb3⟩
    have hb4 := bl_tr hb2 hb3
    by_cases h1 : L = s.data.toList
    rotate_left
    · have e1 := hno.out (fun h => h1 h.2.1)
      have e2 := hne.out h1
      subst e1
      replace h1 := Lib.hid h1
      go_wp2
      refine bodyPost_ret (v := .tuple #[.int .i64 v, .bool false]) (by simp [results, Tryz.results120, go_sem]) rfl ⟨hb4, v, rfl, hn.out⟩
    have e3 := he.out h1.symm
    rw [e3]
    by_cases h2 : s.size ≤ 2
    · have e1 := hyes.out h0 h1 h2
      subst e1
      have h2' : (s.size : Int) ≤ 2 := by omega
      replace h1 := Lib.hid h1
      go_wp2
      refine bodyPost_ret (v := .tuple #[.int .i64 v, .bool true]) (by simp [results, Tryz.results120, go_sem]) rfl ⟨hb4, v, rfl, hn.out⟩
    · have e1 := hno.out (fun h => h2 h.2.2)
      subst e1
      have h2' : ¬ (s.size : Int) ≤ 2 := by omega
      replace h1 := Lib.hid h1
      go_wp2
      refine bodyPost_ret (v := .tuple #[.int .i64 v, .bool false]) (by simp [results, Tryz.results120, go_sem]; omega) rfl ⟨hb4, v, rfl, hn.out⟩
  · have hA := Lib.hid (c_AtoiErr s hs (fun v h => hok ⟨v, h⟩) w hE)
    have e1 : natS s.data.toList = none := by
      cases h1 : natS s.data.toList with
      | none => rfl
      | some n => exact absurd ⟨_, atoi_natS h1⟩ hok
    rw [e1]
    clear hok hE e1
    go_enter Tryz.func120, Tryz.ntmps120
    go_wp2_with fail
    refine hA.out.mono ?_
    rintro e w1 ⟨hb2, x, t, N, rfl⟩
    go_wp2
    refine bodyPost_ret (v := .tuple #[.int .i64 x, .bool false]) (by simp [results, Tryz.results120, go_sem]) rfl ⟨hb2, x, rfl, fun n h => by cases h⟩
end Go.Proofs.YtbdgblnccjpahaaGreatDoor
namespace Go.Proofs.YtbdgblnccjpahaaGreatDoor
open Go.RowKit
set_option maxRecDepth 20000
/-- The blocks of two slices of the call's own are not one. -/
def Dis (u v : Value) : Prop := ∀ k, u.ownBlock = some k → v.ownBlock ≠ some k
theorem Dis.symm {u v : Value} (h : Dis u v) : Dis v u := fun k hk hu => h k hu hk
theorem dis_nil (v : Value) : Dis (.slice none 0 0) v := fun k hk => by simp [Value.ownBlock] at hk
section
variable {P : Program} {w : World}
theorem run_append_own2 (base : Nat) (t ty e : TypeId) (i : TypeInfo) (z : Value) (size bytes : Nat) (ht : P.underlying t = some (.slice e)) (hi : P.info? e = some i) (hz : i.zero = some z)
    (hsize : i.size = size) (hby : i.bytes = bytes) (hzs : z.cells.size = size) (hsz : 0 < size)
    (v : Value) (n : Nat) (xs : List Value) (hown : w.ownsRow base e size v n xs)
    (a : Addr) (m c : Nat) (news : List Value) (hl : news.length = m * size) (hnews : ∀ j u, news[j]? = some u → w.cell? (a.add j) = some u) (h1 : ∀ u ∈ news, u.oneCell' = true)
    (h63 : n + m ≤ maxLen) (hbytes : (n + m) * bytes ≤ 140737488355328) (hbase : base ≤ w.heap.size) :
    ∃ v' w', (Builtin.append_ #[t, t] ty #[v, .slice (some a) m c]).run P w = .ok v' w' ∧ w'.ownsRow base e size v' (n + m) (xs ++ news) ∧ w.grownBy w' v.ownBlock ∧
      ∀ k, v'.ownBlock = some k → v.ownBlock = some k ∨ w.heap.size ≤ k := by
  obtain ⟨v', w', hr, h2, h3, h4⟩ := run_append_own (P := P) w base t ty e i z size bytes ht hi hz hsize hby hzs hsz v n xs hown a m c news hl hnews h1 h63 hbytes hbase
  refine ⟨v', w', hr, h2, h3, ?_⟩
  rcases hown.2 with ⟨rfl, rfl⟩ | ⟨g, cap, cur, rfl, hbg, hg, hnc, hcm, hcs, htake⟩
  · have hx : xs = [] := List.eq_nil_of_length_eq_zero (by simpa using hown.1)
    subst hx
    obtain ⟨v2, w2, hr2, h5, -, -⟩ := run_append_own (P := P) w w.heap.size t ty e i z size bytes ht hi hz hsize hby hzs hsz _ 0 [] (World.ownsRow_nil _ _ _ _) a m c news hl hnews h1 h63 hbytes (Nat.le_refl _)
    rw [hr] at hr2
    injection hr2 with e1 e2
    subst e1 e2
    exact fun k hk => .inr (own_ge h5 k hk)
  · subst hsize
    by_cases hroom : n + m ≤ cap
    · have hfit : n * i.size + news.length ≤ cur.size := by rw [hl, hcs, ← Nat.add_mul]; exact Nat.mul_le_mul_right _ hroom
      have hr2 := run_append_room (P := P) w t ty e i ht hi g n cap cur hg a m c news hl hnews h1 hroom hfit
      rw [hr] at hr2
      injection hr2 with e1 e2
      subst e1
      exact fun k hk => .inl (by simpa [Value.ownBlock] using hk)
    · have holds : ∀ j u, xs[j]? = some u → w.cell? ((⟨g, 0, none⟩ : Addr).add j) = some u := hown.cells (g := g) rfl
      have hsmall : n + m ≤ 9223372036854775807 := by simp only [maxLen] at h63; omega
      subst hby
      have hr2 := run_append_grow (P := P) w t ty e i z ht hi hz ⟨g, 0, none⟩ n cap xs hown.1 holds a m c news hl hnews (by omega) (by omega) (growslice_fits (by omega) hbytes)
      rw [hr] at hr2
      injection hr2 with e1 e2
      subst e1
      exact fun k hk => .inr (by simp [Value.ownBlock] at hk; omega)
theorem wpList_append_own2 {ops : Array Oper} {rest : List Oper} {o : Oper} {a : Act} {Q : Exit → Act → World → Prop} (hgd : o.guard = none) (s x : Operand) (t : TypeId)
    (ho : o.op = .call { callee := .builtin .append, args := #[s, x], argTypes := #[t, t] })
    (base : Nat) (e : TypeId) (i : TypeInfo) (z : Value) (size bytes : Nat) (ht : P.underlying t = some (.slice e)) (hi : P.info? e = some i) (hz : i.zero = some z)
    (hsize : i.size = size) (hby : i.bytes = bytes) (hzs : z.cells.size = size) (hsz : 0 < size)
    (v : Value) (n : Nat) (xs : List Value) (hs : a.eval s = v) (hown : w.ownsRow base e size v n xs)
    (ad : Addr) (m c : Nat) (news : List Value) (hx : a.eval x = .slice (some ad) m c) (hl : news.length = m * size) (hnews : ∀ j u, news[j]? = some u → w.cell? (ad.add j) = some u) (h1 : ∀ u ∈ news, u.oneCell' = true)
    (h63 : n + m ≤ maxLen) (hbytes : (n + m) * bytes ≤ 140737488355328) (hbase : base ≤ w.heap.size)
    (h : ∀ v' w', w'.ownsRow base e size v' (n + m) (xs ++ news) → w.grownBy w' v.ownBlock → (∀ k, v'.ownBlock = some k → v.ownBlock = some k ∨ w.heap.size ≤ k) → wpList P ops Q rest (a.put o.dst v') w') : wpList P ops Q (o :: rest) a w := by
  refine wpList_plain hgd fun _ hK => ?_
  obtain ⟨v', w', hr, h2, h3, h4⟩ := run_append_own2 (P := P) base t o.type e i z size bytes ht hi hz hsize hby hzs hsz v n xs hown ad m c news hl hnews h1 h63 hbytes hbase
  unfold Oper.wp execOp
  simp only [ho, resolve, invoke, builtin, Sem.run_bind, Sem.run_pure, Result.andThen_ok, List.map_toArray, List.map_cons, List.map_nil, hs, hx, hr]
  exact hK _ _ (h v' w' h2 h3 h4)
end
/-- Three slices of integers of the call's own, in blocks of their own. -/
structure Row3 (D : Nat) (u v x : Value) (A B C : List Int) (w : World) : Prop where
  a : w.ownsRow D 3 1 u A.length (A.map (.int .i64))
  b : w.ownsRow D 3 1 v B.length (B.map (.int .i64))
  c : w.ownsRow D 3 1 x C.length (C.map (.int .i64))
  ab : Dis u v
  ac : Dis u x
  bc : Dis v x
  ge : D ≤ w.heap.size
theorem Row3.nil {D : Nat} {w : World} (h : D ≤ w.heap.size) : Row3 D (.slice none 0 0) (.slice none 0 0) (.slice none 0 0) [] [] [] w :=
  ⟨World.ownsRow_nil _ _ _ _, World.ownsRow_nil _ _ _ _, World.ownsRow_nil _ _ _ _, dis_nil _, dis_nil _, dis_nil _, h⟩
theorem Row3.below {D : Nat} {u v x : Value} {A B C : List Int} {w w' : World} (h : Row3 D u v x A B C w) (hb : Below w.heap.size w w') : Row3 D u v x A B C w' :=
  ⟨own_below h.a hb, own_below h.b hb, own_below h.c hb, h.ab, h.ac, h.bc, Nat.le_trans h.ge hb.size⟩
end Go.Proofs.YtbdgblnccjpahaaGreatDoor
namespace Go.Proofs.YtbdgblnccjpahaaGreatDoor
open Go.RowKit
set_option maxRecDepth 20000
/-- The block of a slice, if it has one. -/
def ownL (v : Value) : List Nat := v.ownBlock.toList
section
variable {P : Program} {w : World}
theorem run_append_own3 (base : Nat) (t ty e : TypeId) (i : TypeInfo) (z : Value) (size bytes : Nat) (ht : P.underlying t = some (.slice e)) (hi : P.info? e = some i) (hz : i.zero = some z)
    (hsize : i.size = size) (hby : i.bytes = bytes) (hzs : z.cells.size = size) (hsz : 0 < size)
    (v : Value) (n : Nat) (xs : List Value) (hown : w.ownsRow base e size v n xs)
    (a : Addr) (m c : Nat) (news : List Value) (hl : news.length = m * size) (hnews : ∀ j u, news[j]? = some u → w.cell? (a.add j) = some u) (h1 : ∀ u ∈ news, u.oneCell' = true)
    (h63 : n + m ≤ maxLen) (hbytes : (n + m) * bytes ≤ 140737488355328) (hbase : base ≤ w.heap.size) :
    ∃ v' w', (Builtin.append_ #[t, t] ty #[v, .slice (some a) m c]).run P w = .ok v' w' ∧ w'.ownsRow base e size v' (n + m) (xs ++ news) ∧ BX (ownL v) w w' ∧
      ∀ k, v'.ownBlock = some k → v.ownBlock = some k ∨ w.heap.size ≤ k := by
  obtain ⟨v', w', hr, h2, h3, h4⟩ := run_append_own2 (P := P) base t ty e i z size bytes ht hi hz hsize hby hzs hsz v n xs hown a m c news hl hnews h1 h63 hbytes hbase
  refine ⟨v', w', hr, h2, ?_, h4⟩
  rcases hown.2 with ⟨rfl, rfl⟩ | ⟨g, cap, cur, rfl, hbg, hg, hnc, hcm, hcs, htake⟩
  · exact bx_bl _ ⟨h3.os, h3.tape, h3.output, h3.size, fun k hk => h3.block k hk (by simp [Value.ownBlock])⟩
  · subst hsize
    refine ⟨h3.os, h3.tape, h3.output, h3.size, fun k hk hX => h3.block k hk (fun e => hX (by simp [ownL, ← e])), fun b hb t' cs' hk => ?_⟩
    obtain rfl : b = g := by simpa [ownL, Value.ownBlock, eq_comm] using hb
    have hk2 : (Obj.cells cs' t' (0, 0)) = .cells cur e (0, 0) := by
      have : w.heap[b]? = some (.cells cs' t' (0, 0)) := hk
      rw [hg] at this
      injection this with this
      exact this.symm
    injection hk2 with e1 e2 _
    subst e1 e2
    by_cases hroom : n + m ≤ cap
    · have hfit : n * i.size + news.length ≤ cs'.size := by rw [hl, hcs, ← Nat.add_mul]; exact Nat.mul_le_mul_right _ hroom
      have hr2 := run_append_room (P := P) w t ty t' i ht hi b n cap cs' hg a m c news hl hnews h1 hroom hfit
      rw [hr] at hr2
      injection hr2 with e1 e2
      subst e2
      refine ⟨_, setRow_heap w b _ _ _ _ hg, ?_⟩
      simp
      omega
    · have holds : ∀ j u, xs[j]? = some u → w.cell? ((⟨b, 0, none⟩ : Addr).add j) = some u := hown.cells (g := b) rfl
      have hsmall : n + m ≤ 9223372036854775807 := by simp only [maxLen] at h63; omega
      subst hby
      have hr2 := run_append_grow (P := P) w t ty t' i z ht hi hz ⟨b, 0, none⟩ n cap xs hown.1 holds a m c news hl hnews (by omega) (by omega) (growslice_fits (by omega) hbytes)
      rw [hr] at hr2
      injection hr2 with e1 e2
      subst e2
      exact ⟨cs', (bl_al _ (bl_drew (bl_refl w))).block b hk.lt |>.trans hk, rfl⟩
theorem wp_appT {o : Oper} {a : Act} {K : Act → World → Prop} {Q : Exit → Act → World → Prop} (s x : Operand) {t e : TypeId} {i : TypeInfo} {z : Value} {size bytes base g : Nat} (ho : o.op = .call { callee := .builtin .append, args := #[s, x], argTypes := #[t, t] })
    (ht : P.underlying t = some (.slice e)) (hi : P.info? e = some i) (hz : i.zero = some z) (hsize : i.size = size) (hby : i.bytes = bytes) (hzs : z.cells.size = size) (hsz : 0 < size)
    (v : Value) (n : Nat) (xs news : List Value) (hs' : a.eval s = v) (hx : a.eval x = .slice (some ⟨g, 0, none⟩) 1 1) (hown : w.ownsRow base e size v n xs) (hg : Blk w g e news.toArray) (hl : news.length = size) (h1 : ∀ u ∈ news, u.oneCell' = true)
    (h63 : n + 1 ≤ maxLen) (hbytes : (n + 1) * bytes ≤ 140737488355328) (hbase : base ≤ w.heap.size)
    (h : ∀ v' w', w'.ownsRow base e size v' (n + 1) (xs ++ news) → BX (ownL v) w w' → (∀ k, v'.ownBlock = some k → v.ownBlock = some k ∨ w.heap.size ≤ k) → K (a.put o.dst v') w') : o.wp P a w K Q := by
  have hnews : ∀ j u, news[j]? = some u → w.cell? ((⟨g, 0, none⟩ : Addr).add j) = some u := by
    intro j u hj
    have hadd : (⟨g, 0, none⟩ : Addr).add j = ⟨g, j, none⟩ := by unfold Addr.add; split <;> simp_all
    rw [hadd, hg.cell]
    simpa using hj
  obtain ⟨v', w', hr, h2, h3, h4⟩ := run_append_own3 (P := P) base t o.type e i z size bytes ht hi hz hsize hby hzs hsz v n xs hown ⟨g, 0, none⟩ 1 1 news (by rw [hl, Nat.one_mul]) hnews h1 h63 hbytes hbase
  unfold Oper.wp execOp
  simp only [ho, resolve, invoke, builtin, Sem.run_bind, Sem.run_pure, Result.andThen_ok, List.map_toArray, List.map_cons, List.map_nil, hs', hx, hr]
  exact h _ _ h2 h3 h4
end
theorem own_bxT {W W' : World} {base n size : Nat} {e : TypeId} {v : Value} {xs : List Value} {X : List Nat} (h : W.ownsRow base e size v n xs) (hb : BX X W W') (hX : ∀ k, v.ownBlock = some k → k ∉ X) : W'.ownsRow base e size v n xs := by
  refine ⟨h.1, ?_⟩
  rcases h.2 with h1 | ⟨g, cap, cur, rfl, hbg, hg, hnc, hcm, hcs, htake⟩
  · exact .inl h1
  · refine .inr ⟨g, cap, cur, rfl, hbg, ?_, hnc, hcm, hcs, htake⟩
    rw [hb.block g (Array.getElem?_eq_some_iff.1 hg).1 (hX g rfl)]
    exact hg
theorem ownL_ge {w : World} {base n size : Nat} {e : TypeId} {v : Value} {xs : List Value} (h : w.ownsRow base e size v n xs) : ∀ g ∈ ownL v, base ≤ g := fun g hg => by
  unfold ownL at hg
  cases hv : v.ownBlock with
  | none => rw [hv] at hg; simp at hg
  | some k =>
    rw [hv] at hg
    obtain rfl : g = k := by simpa using hg
    exact own_ge h g hv
end Go.Proofs.YtbdgblnccjpahaaGreatDoor
namespace Go.Proofs.YtbdgblnccjpahaaGreatDoor
open Go.RowKit
set_option maxRecDepth 20000
theorem CK.own {D b n size : Nat} {e : TypeId} {v : Value} {xs : List Value} {A B : World} (h : A.ownsRow b e size v n xs) (hc : CK D A B) : B.ownsRow b e size v n xs := by
  refine ⟨h.1, ?_⟩
  rcases h.2 with h2 | ⟨g, cap, cur, e1, e2, e3, e4⟩
  · exact .inl h2
  · exact .inr ⟨g, cap, cur, e1, e2, hc.keep g _ e3 (.inr rfl), e4⟩
section
variable {P : Program} {w : World} {l m0 : Nat}
theorem wpListIn_append_own2 {ops : Array Oper} {rest : List Oper} {o : Oper} {a : Act} {Q : Exit → Act → World → Prop} (hgd : o.guard = none) (s x : Operand) (t : TypeId)
    (ho : o.op = .call { callee := .builtin .append, args := #[s, x], argTypes := #[t, t] })
    (base : Nat) (e : TypeId) (i : TypeInfo) (z : Value) (size bytes : Nat) (ht : P.underlying t = some (.slice e)) (hi : P.info? e = some i) (hz : i.zero = some z)
    (hsize : i.size = size) (hby : i.bytes = bytes) (hzs : z.cells.size = size) (hsz : 0 < size)
    (v : Value) (n : Nat) (xs : List Value) (hs : a.eval s = v) (hown : w.ownsRow base e size v n xs)
    (ad : Addr) (m c : Nat) (news : List Value) (hx : a.eval x = .slice (some ad) m c) (hl : news.length = m * size) (hnews : ∀ j u, news[j]? = some u → w.cell? (ad.add j) = some u) (h1 : ∀ u ∈ news, u.oneCell' = true)
    (h63 : n + m ≤ maxLen) (hbytes : (n + m) * bytes ≤ 140737488355328) (hbase : base ≤ w.heap.size)
    (h : ∀ v' w', w'.ownsRow base e size v' (n + m) (xs ++ news) → w.grownBy w' v.ownBlock → (∀ k, v'.ownBlock = some k → v.ownBlock = some k ∨ w.heap.size ≤ k) → wpListIn (Fence.wide.inRound l) m0 P ops Q rest (a.put o.dst v') w') : wpListIn (Fence.wide.inRound l) m0 P ops Q (o :: rest) a w := by
  refine wpListIn_plain hgd fun K hK => opIn_of_wp (fun c hc => by rw [ho] at hc; cases hc) ?_
  obtain ⟨v', w', hr, h2, h3, h4⟩ := run_append_own2 (P := P) base t o.type e i z size bytes ht hi hz hsize hby hzs hsz v n xs hown ad m c news hl hnews h1 h63 hbytes hbase
  unfold Oper.wp execOp
  simp only [ho, resolve, invoke, builtin, Sem.run_bind, Sem.run_pure, Result.andThen_ok, List.map_toArray, List.map_cons, List.map_nil, hs, hx, hr]
  exact hK _ _ (h v' w' h2 h3 h4)
end
end Go.Proofs.YtbdgblnccjpahaaGreatDoor
namespace Go.Proofs.YtbdgblnccjpahaaGreatDoor
end Go.Proofs.YtbdgblnccjpahaaGreatDoor
