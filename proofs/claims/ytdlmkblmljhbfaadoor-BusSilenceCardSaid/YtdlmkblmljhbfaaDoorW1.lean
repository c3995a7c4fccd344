/-
  Walks of chapter 7's smallest functions: comparisons, errors, names.
-/
import Derived.Test.YtdlmkblmljhbfaaDoorEach
namespace Go.Proofs.YtdlmkblmljhbfaaDoor
set_option linter.unusedSimpArgs false
set_option linter.unusedVariables false
open Go.RowKit Go.Shelf
attribute [local go_sem] bl_al bl_drew bl_drewN bl_refl
set_option maxRecDepth 20000
theorem c_within (n lo hi : Int) (w : World) : Calls Tryd.prog 74 #[.int .i64 n, .int .i64 lo, .int .i64 hi] w (Same (.bool (inR n lo hi)) w) := by
  go_enter Tryd.func74, Tryd.ntmps74
  go_wp2
  all_goals (go_ret; exact ⟨by first | (simp [inR, *]; done) | (simp [inR]; intros; omega), rfl⟩)

theorem c_unless (b : Bool) (x : Int) (w : World) : Calls Tryd.prog 78 #[.bool b, .int .i64 x] w (Same (.int .i64 (unl b x)) w) := by
  cases b
  all_goals
    go_enter Tryd.func78, Tryd.ntmps78
    go_wp2
    go_ret
    exact ⟨rfl, rfl⟩

set_option maxRecDepth 20000 in
theorem c_firstL (A : Option Addr) (l : List Int) (c : Nat) (w : World) (hl : l.length ≤ 1000000) (hr : Sl cI 1 w A l) :
    Calls Tryd.prog 77 #[.slice A l.length c] w (Same (.int .i64 (fstE l)) w) := by
  have Hr := Lib.hid hr
  clear hr
  obtain ⟨n, Hn⟩ : ∃ n, Hid (l.length = n) := ⟨_, rfl⟩
  rw [Hn.out] at hl ⊢
  go_enter Tryd.func77, Tryd.ntmps77
  go_wp2
  go_loop [7] (fun i => ∃ k : Nat, k ≤ n ∧ i = .int .i64 k ∧ fstE l = fstE (l.drop k)) (fun i => n - (intOf i).toNat)
  case atStart => exact ⟨0, Nat.zero_le _, rfl, rfl⟩
  case round =>
    obtain ⟨k, hk, rfl, hi⟩ := hrel
    replace hi := Lib.hid hi
    by_cases hlt : k < n
    · have hx : l[k]? = some (l[k]'(by rw [Hn.out]; exact hlt)) := List.getElem?_eq_getElem _
      generalize l[k]'(by rw [Hn.out]; exact hlt) = x at hx
      replace hx := Lib.hid hx
      obtain ⟨b, off, rfl, hc⟩ := Hr.out k x hx.out
      have c0 : w.cell? ⟨b, off + k, none⟩ = some (.int .i64 x) := by simpa using hc 0 _ rfl
      have hd := Lib.hid (fstE_drop l k x hx.out)
      clear hc
      by_cases h0 : x = 0
      · have h0' : (x != 0) = false := by simp [h0]
        replace h0 := Lib.hid h0
        go_wp2
        go_round
        case rel => exact ⟨k + 1, by omega, by go_num, by rw [hi.out, hd.out, if_pos h0.out]⟩
        case measure => simp [intOf]; omega
      · have h0' : (x != 0) = true := by simp [h0]
        replace h0 := Lib.hid h0
        go_wp2
        go_ret
        exact ⟨by rw [hi.out, hd.out, if_neg h0.out] <;> rfl, rfl⟩
    · go_wp2
      go_ret
      have : k = l.length := by have := Hn.out; omega
      exact ⟨by rw [hi.out, this]; simp [fstE], rfl⟩

theorem c_first2 {w : World} {g t : Nat} {a b : Int} (h : Blk w g t #[.int .i64 a, .int .i64 b]) : Calls Tryd.prog 77 #[.slice (some ⟨g, 0, none⟩) 2 2] w (Same (.int .i64 (fstE [a, b])) w) :=
  c_firstL (some ⟨g, 0, none⟩) [a, b] 2 w (by simp) (Blk.ints (l := [a, b]) h)
theorem c_first3 {w : World} {g t : Nat} {a b c : Int} (h : Blk w g t #[.int .i64 a, .int .i64 b, .int .i64 c]) : Calls Tryd.prog 77 #[.slice (some ⟨g, 0, none⟩) 3 3] w (Same (.int .i64 (fstE [a, b, c])) w) :=
  c_firstL (some ⟨g, 0, none⟩) [a, b, c] 3 w (by simp) (Blk.ints (l := [a, b, c]) h)
theorem c_first4 {w : World} {g t : Nat} {a b c d : Int} (h : Blk w g t #[.int .i64 a, .int .i64 b, .int .i64 c, .int .i64 d]) : Calls Tryd.prog 77 #[.slice (some ⟨g, 0, none⟩) 4 4] w (Same (.int .i64 (fstE [a, b, c, d])) w) :=
  c_firstL (some ⟨g, 0, none⟩) [a, b, c, d] 4 w (by simp) (Blk.ints (l := [a, b, c, d]) h)

theorem c_first5 {w : World} {g t : Nat} {a b c d f : Int} (h : Blk w g t #[.int .i64 a, .int .i64 b, .int .i64 c, .int .i64 d, .int .i64 f]) : Calls Tryd.prog 77 #[.slice (some ⟨g, 0, none⟩) 5 5] w (Same (.int .i64 (fstE [a, b, c, d, f])) w) :=
  c_firstL (some ⟨g, 0, none⟩) [a, b, c, d, f] 5 w (by simp) (Blk.ints (l := [a, b, c, d, f]) h)
theorem c_isByte (n : Int) (w : World) : Calls Tryd.prog 81 #[.int .i64 n] w (Same (.bool (byteB n)) w) := by
  go_enter Tryd.func81, Tryd.ntmps81
  go_wp2_with (go_at_call 74; (with_reducible refine (c_within _ _ _ _).mono ?_); rintro e w3 ⟨rfl, rfl⟩)
  go_ret
  exact ⟨rfl, rfl⟩
end Go.Proofs.YtdlmkblmljhbfaaDoor
