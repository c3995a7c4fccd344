/-
  Walks: the library's comparison of numbers, and of lists of numbers.
-/
import Derived.Test.YtdlmkblmljhbfaaDoorW1
namespace Go.Proofs.YtdlmkblmljhbfaaDoor
set_option linter.unusedSimpArgs false
set_option linter.unusedVariables false
open Go.RowKit
attribute [local go_sem] bl_al bl_drew bl_drewN bl_refl
set_option maxRecDepth 20000
def cmpI (x y : Int) : Int := if x < y then -1 else if y < x then 1 else 0
def cmpL : List Int → List Int → Int
  | [], [] => 0
  | [], _ :: _ => -1
  | _ :: _, [] => 1
  | x :: a, y :: b => if x = y then cmpL a b else cmpI x y
theorem cmpL_lt : ∀ a b : List Int, decide (cmpL a b < 0) = lexB a b
  | [], [] => rfl
  | [], _ :: _ => rfl
  | _ :: _, [] => rfl
  | x :: a, y :: b => by
    unfold cmpL lexB
    by_cases h : x = y
    · rw [if_pos h, if_pos h]; exact cmpL_lt a b
    · rw [if_neg h, if_neg h]
      unfold cmpI
      by_cases h1 : x < y
      · simp [h1]
      · have h2 : y < x := by omega
        simp [h1, h2]
theorem c_isNaN (x : Int) (w : World) : Calls Tryd.prog 156 #[.int .i64 x] w (Same (.bool false) w) := by
  go_enter Tryd.func156, Tryd.ntmps156
  go_wp2
  go_ret
  exact ⟨by simp, rfl⟩
theorem c_cmp (x y : Int) (w : World) : Calls Tryd.prog 143 #[.int .i64 x, .int .i64 y] w (Same (.int .i64 (cmpI x y)) w) := by
  by_cases h1 : x < y
  · have e : cmpI x y = -1 := by rw [cmpI, if_pos h1]
    have e1 : decide (x < y) = true := by simp [h1]
    rw [e]
    clear h1
    go_enter Tryd.func143, Tryd.ntmps143
    go_wp2_with (go_at_call 156; (with_reducible refine (c_isNaN _ _).mono ?_); rintro e w3 ⟨rfl, rfl⟩)
    go_ret
    exact ⟨rfl, rfl⟩
  · have e1 : decide (x < y) = false := by simp [h1]
    by_cases h2 : y < x
    · have e : cmpI x y = 1 := by rw [cmpI, if_neg h1, if_pos h2]
      have e2 : decide (y < x) = true := by simp [h2]
      rw [e]
      clear h1 h2
      go_enter Tryd.func143, Tryd.ntmps143
      go_wp2_with (go_at_call 156; (with_reducible refine (c_isNaN _ _).mono ?_); rintro e w3 ⟨rfl, rfl⟩)
      go_ret
      exact ⟨rfl, rfl⟩
    · have e : cmpI x y = 0 := by rw [cmpI, if_neg h1, if_neg h2]
      have e2 : decide (y < x) = false := by simp [h2]
      rw [e]
      clear h1 h2
      go_enter Tryd.func143, Tryd.ntmps143
      go_wp2_with (go_at_call 156; (with_reducible refine (c_isNaN _ _).mono ?_); rintro e w3 ⟨rfl, rfl⟩)
      go_ret
      exact ⟨rfl, rfl⟩
theorem cmpL_drop {a b : List Int} {k : Nat} {x y : Int} (hx : a[k]? = some x) (hy : b[k]? = some y) : cmpL (a.drop k) (b.drop k) = if x = y then cmpL (a.drop (k + 1)) (b.drop (k + 1)) else cmpI x y := by
  have h1 := (List.getElem?_eq_some_iff.1 hx).1
  have h2 := (List.getElem?_eq_some_iff.1 hy).1
  rw [List.drop_eq_getElem_cons h1, List.drop_eq_getElem_cons h2, (List.getElem?_eq_some_iff.1 hx).2, (List.getElem?_eq_some_iff.1 hy).2, cmpL]
theorem cmpL_end {a b : List Int} {k : Nat} (hk1 : k ≤ a.length) (hk2 : k ≤ b.length) (h : a.length ≤ k) : cmpL (a.drop k) (b.drop k) = if a.length < b.length then -1 else 0 := by
  rw [List.drop_of_length_le h]
  by_cases h2 : b.length ≤ k
  · rw [List.drop_of_length_le h2, cmpL, if_neg (by omega)]
  · rw [List.drop_eq_getElem_cons (by omega : k < b.length), cmpL, if_pos (by omega)]
theorem cmpL_long {a b : List Int} {k : Nat} {x : Int} (hx : a[k]? = some x) (h : b.length ≤ k) : cmpL (a.drop k) (b.drop k) = 1 := by
  rw [List.drop_of_length_le h, List.drop_eq_getElem_cons (List.getElem?_eq_some_iff.1 hx).1, cmpL]
set_option maxHeartbeats 4000000 in
theorem c_Compare (a b : List Int) (A B : Option Addr) (c d : Nat) (w : World) (ha : Sl cI 1 w A a) (hb : Sl cI 1 w B b) (h1 : a.length ≤ 1000) (h2 : b.length ≤ 1000) :
    Calls Tryd.prog 126 #[.slice A a.length c, .slice B b.length d] w (Ret (.int .i64 (cmpL a b)) w) := by
  have Ha := Lib.hid ha
  have Hb := Lib.hid hb
  clear ha hb
  have hend := Lib.hid (fun k => cmpL_end (a := a) (b := b) (k := k))
  have hlong := Lib.hid (fun k x => cmpL_long (a := a) (b := b) (k := k) (x := x))
  obtain ⟨n, Hn⟩ : ∃ n, Hid (a.length = n) := ⟨_, rfl⟩
  obtain ⟨m, Hm⟩ : ∃ n, Hid (b.length = n) := ⟨_, rfl⟩
  rw [Hn.out] at h1 hend ⊢
  rw [Hm.out] at h2 hend hlong ⊢
  go_enter Tryd.func126, Tryd.ntmps126
  go_wp2
  go_loopw [11] (fun i wr => ∃ k : Nat, k ≤ n ∧ k ≤ m ∧ i = .int .i64 k ∧ Below w.heap.size w wr ∧ cmpL a b = cmpL (a.drop k) (b.drop k)) (fun i _ => n - (intOf i).toNat)
  case atStart => exact ⟨0, Nat.zero_le _, Nat.zero_le _, rfl, Below.refl _ _, rfl⟩
  case round =>
    obtain ⟨k, hk, hk2, rfl, hbw, hi⟩ := hrel
    replace hi := Lib.hid hi
    by_cases hlt : k < n
    · have hx : a[k]? = some (a[k]'(by rw [Hn.out]; exact hlt)) := List.getElem?_eq_getElem _
      generalize a[k]'(by rw [Hn.out]; exact hlt) = x at hx
      obtain ⟨ba, oa, hA, hca⟩ := Ha.out k x hx
      have c0 : wr.cell? ⟨ba, oa + k, none⟩ = some (.int .i64 x) := by have := kcell hbw (hca 0 _ rfl); simpa using this
      clear hca
      subst hA
      by_cases hlt2 : k < m
      · have hy : b[k]? = some (b[k]'(by rw [Hm.out]; exact hlt2)) := List.getElem?_eq_getElem _
        generalize b[k]'(by rw [Hm.out]; exact hlt2) = y at hy
        obtain ⟨bb, ob, hB, hcb⟩ := Hb.out k y hy
        have c1 : wr.cell? ⟨bb, ob + k, none⟩ = some (.int .i64 y) := by have := kcell hbw (hcb 0 _ rfl); simpa using this
        have hd := Lib.hid (cmpL_drop hx hy)
        clear hcb hx hy hend hlong
        subst hB
        by_cases hxy : x = y
        · have h' : Hid (cmpL a b = cmpL (a.drop (k + 1)) (b.drop (k + 1))) := Lib.hid (by rw [hi.out, hd.out, if_pos hxy])
          have e : cmpI x y = 0 := by rw [hxy, cmpI, if_neg (Int.lt_irrefl y), if_neg (Int.lt_irrefl y)]
          have hc := Lib.hid fun W : World => e ▸ c_cmp x y W
          clear hxy hd hi e
          go_wp2_with (go_at_call 143; (with_reducible refine (hc.out _).mono ?_); rintro e w3 ⟨rfl, rfl⟩)
          go_roundw
          case rel => exact ⟨k + 1, by omega, by omega, by go_num, hbw, h'.out⟩
          case measure => simp [intOf]; omega
        · have h' : Hid (cmpL a b = cmpI x y) := Lib.hid (by rw [hi.out, hd.out, if_neg hxy])
          have e : (cmpI x y != 0) = true := by
            unfold cmpI
            by_cases h : x < y
            · simp [h]
            · have : y < x := by omega
              simp [h, this]
          have hc := Lib.hid fun W : World => c_cmp x y W
          generalize cmpI x y = z at *
          clear hxy hd hi
          go_wp2_with (go_at_call 143; (with_reducible refine (hc.out _).mono ?_); rintro e w3 ⟨rfl, rfl⟩)
          go_ret
          exact ⟨by rw [h'.out] <;> rfl, hbw⟩
      · have h' : Hid (cmpL a b = 1) := Lib.hid (by rw [hi.out]; exact hlong.out k x hx (by omega))
        clear hend hlong hi hx
        go_wp2
        go_ret
        exact ⟨by rw [h'.out] <;> rfl, hbw⟩
    · have h' : Hid (cmpL a b = if n < m then -1 else 0) := Lib.hid (by rw [hi.out]; exact hend.out k (by omega) (by omega) (by omega))
      clear hend hlong hi
      by_cases hnm : n < m
      · have h2' : Hid (cmpL a b = -1) := Lib.hid (by rw [h'.out, if_pos hnm])
        have e : decide (n < m) = true := by simp [hnm]
        clear h' hnm
        go_wp2
        go_ret
        exact ⟨by rw [h2'.out] <;> rfl, hbw⟩
      · have h2' : Hid (cmpL a b = 0) := Lib.hid (by rw [h'.out, if_neg hnm])
        have e : decide (n < m) = false := by simp; omega
        clear h' hnm
        go_wp2
        go_ret
        exact ⟨by rw [h2'.out] <;> rfl, hbw⟩
end Go.Proofs.YtdlmkblmljhbfaaDoor
