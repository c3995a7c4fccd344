/-
  Walks of chapter 5's smallest functions: comparisons, errors, boxes taken apart and put together, and whether a box is sized and ordered.
-/
import Derived.Test.YtephimmamkafoaaIdx
namespace Go.Proofs.Ytephimmamkafoaa
set_option linter.unusedSimpArgs false
set_option linter.unusedVariables false
open Go.RowKit Go.Shelf
attribute [local go_sem] bl_al bl_drew bl_drewN bl_refl

theorem c_within (n lo hi : Int) (w : World) : Calls Try.prog 74 #[.int .i64 n, .int .i64 lo, .int .i64 hi] w (Same (.bool (inR n lo hi)) w) := by
  go_enter Try.func74, Try.ntmps74
  go_wp2
  all_goals (go_ret; exact ⟨by first | (simp [inR, *]; done) | (simp [inR]; intros; omega), rfl⟩)

theorem c_sized (n l : Int) (w : World) (h1 : -1000000 ≤ l) (h2 : l ≤ 1000000) : Calls Try.prog 71 #[.int .i64 n, .int .i64 l] w (Same (.bool (szd n l)) w) := by
  go_enter Try.func71, Try.ntmps71
  go_wp2_with (go_at_call 74; refine (c_within _ _ _ _).mono ?_; rintro e w3 ⟨rfl, rfl⟩)
  go_ret
  exact ⟨rfl, rfl⟩

theorem c_unless (b : Bool) (x : Int) (w : World) : Calls Try.prog 61 #[.bool b, .int .i64 x] w (Same (.int .i64 (unl b x)) w) := by
  cases b
  all_goals
    go_enter Try.func61, Try.ntmps61
    go_wp2
    go_ret
    exact ⟨rfl, rfl⟩

theorem fstE_drop (l : List Int) (k : Nat) (x : Int) (hx : l[k]? = some x) : fstE (l.drop k) = if x = 0 then fstE (l.drop (k + 1)) else x := by
  have hk : k < l.length := (List.getElem?_eq_some_iff.1 hx).1
  have e : l[k] = x := (List.getElem?_eq_some_iff.1 hx).2
  rw [List.drop_eq_getElem_cons hk, e]
  rfl
set_option maxRecDepth 20000 in
theorem c_firstL (A : Option Addr) (l : List Int) (c : Nat) (w : World) (hl : l.length ≤ 1000000) (hr : Sl cI 1 w A l) :
    Calls Try.prog 60 #[.slice A l.length c] w (Same (.int .i64 (fstE l)) w) := by
  have Hr := Lib.hid hr
  clear hr
  obtain ⟨n, Hn⟩ : ∃ n, Hid (l.length = n) := ⟨_, rfl⟩
  rw [Hn.out] at hl ⊢
  go_enter Try.func60, Try.ntmps60
  go_wp2
  go_loop [7] (fun i => ∃ k : Nat, k ≤ n ∧ i = .int .i64 k ∧ fstE l = fstE (l.drop k)) (fun i => n - (intOf i).toNat)
  case atStart => exact ⟨0, Nat.zero_le _, rfl, rfl⟩
  case round =>
    obtain ⟨k, hk, rfl, hi⟩ := hrel
    replace hi := Lib.hid hi
    by_cases hlt : k < n
    · have hx : l[k]? = some (l[k]'(by rw [Hn.out]; exact hlt)) := List.getElem?_eq_getElem _
      generalize l[k]'(by rw [Hn.out]; exact hlt) = x at hx
      replace hx := Lib.hid hx
      obtain ⟨b, off, rfl, hc⟩ := Hr.out k x hx.out
      have c0 : w.cell? ⟨b, off + k, none⟩ = some (.int .i64 x) := by simpa using hc 0 _ rfl
      have hd := Lib.hid (fstE_drop l k x hx.out)
      clear hc
      by_cases h0 : x = 0
      · have h0' : (x != 0) = false := by simp [h0]
        replace h0 := Lib.hid h0
        go_wp2
        go_round
        case rel => exact ⟨k + 1, by omega, by go_num, by rw [hi.out, hd.out, if_pos h0.out]⟩
        case measure => simp [intOf]; omega
      · have h0' : (x != 0) = true := by simp [h0]
        replace h0 := Lib.hid h0
        go_wp2
        go_ret
        exact ⟨by rw [hi.out, hd.out, if_neg h0.out] <;> rfl, rfl⟩
    · go_wp2
      go_ret
      have : k = l.length := by have := Hn.out; omega
      exact ⟨by rw [hi.out, this]; simp [fstE], rfl⟩

/-- A block of integers is a slice's list. -/
theorem Blk.ints {w : World} {g : Nat} {t : TypeId} {l : List Int} (h : Blk w g t (l.map (Value.int .i64)).toArray) : Sl cI 1 w (some ⟨g, 0, none⟩) l := fun k x hx =>
  ⟨g, 0, rfl, fun j v hv => by
    have hj : j = 0 := by
      have := (List.getElem?_eq_some_iff.1 hv).1
      simp [cI] at this; omega
    subst hj
    have hv' : v = .int .i64 x := by simpa [cI] using hv.symm
    subst hv'
    have := h.cell k
    simp only [Nat.zero_add, Nat.mul_one, Nat.add_zero]
    rw [this]
    simp [hx]⟩
theorem c_first2 {w : World} {g t : Nat} {a b : Int} (h : Blk w g t #[.int .i64 a, .int .i64 b]) : Calls Try.prog 60 #[.slice (some ⟨g, 0, none⟩) 2 2] w (Same (.int .i64 (fstE [a, b])) w) :=
  c_firstL (some ⟨g, 0, none⟩) [a, b] 2 w (by simp) (Blk.ints (l := [a, b]) h)
theorem c_first3 {w : World} {g t : Nat} {a b c : Int} (h : Blk w g t #[.int .i64 a, .int .i64 b, .int .i64 c]) : Calls Try.prog 60 #[.slice (some ⟨g, 0, none⟩) 3 3] w (Same (.int .i64 (fstE [a, b, c])) w) :=
  c_firstL (some ⟨g, 0, none⟩) [a, b, c] 3 w (by simp) (Blk.ints (l := [a, b, c]) h)
theorem c_first4 {w : World} {g t : Nat} {a b c d : Int} (h : Blk w g t #[.int .i64 a, .int .i64 b, .int .i64 c, .int .i64 d]) : Calls Try.prog 60 #[.slice (some ⟨g, 0, none⟩) 4 4] w (Same (.int .i64 (fstE [a, b, c, d])) w) :=
  c_firstL (some ⟨g, 0, none⟩) [a, b, c, d] 4 w (by simp) (Blk.ints (l := [a, b, c, d]) h)

theorem c_of (b : Bx) (w : World) : Calls Try.prog 59 #[vBx b] w (Ret (vBx b) w) := by
  go_enter Try.func59, Try.ntmps59
  go_wp2
  exact bodyPost_ret (v := vBx b) (by simp [results, Try.results59, go_sem]) rfl ⟨rfl, by solve_by_elim (maxDepth := 40) only [bl_al, bl_drew, bl_refl, *]⟩
theorem c_at (p : Pl) (w : World) : Calls Try.prog 68 #[vPl p] w (Ret (vPl p) w) := by
  go_enter Try.func68, Try.ntmps68
  go_wp2
  exact bodyPost_ret (v := vPl p) (by simp [results, Try.results68, go_sem]) rfl ⟨rfl, by solve_by_elim (maxDepth := 40) only [bl_al, bl_drew, bl_refl, *]⟩
theorem c_box (b : Bx) (w : World) : Calls Try.prog 85 #[vBx b] w (Ret (vBx b) w) := by
  go_enter Try.func85, Try.ntmps85
  go_wp2
  exact bodyPost_ret (v := vBx b) (by simp [results, Try.results85, go_sem]) rfl ⟨rfl, by solve_by_elim (maxDepth := 40) only [bl_al, bl_drew, bl_refl, *]⟩
theorem c_point (p : Pl) (w : World) : Calls Try.prog 101 #[vPl p] w (Ret (vPl p) w) := by
  go_enter Try.func101, Try.ntmps101
  go_wp2
  exact bodyPost_ret (v := vPl p) (by simp [results, Try.results101, go_sem]) rfl ⟨rfl, by solve_by_elim (maxDepth := 40) only [bl_al, bl_drew, bl_refl, *]⟩

/-- The three ranges of a box that lie in a block. -/
theorem Blk.ranges {w : World} {g : Nat} {t : TypeId} {b : Bx} (h : Blk w g t #[.int .i64 b.x.lo, .int .i64 b.x.hi, .int .i64 b.y.lo, .int .i64 b.y.hi, .int .i64 b.z.lo, .int .i64 b.z.hi]) :
    Sl cRg 2 w (some ⟨g, 0, none⟩) b.sides := fun k x hx =>
  ⟨g, 0, rfl, fun j v hv => by
    have hj : j < 2 := by have := (List.getElem?_eq_some_iff.1 hv).1; simpa [cRg] using this
    have hk : k < 3 := by have := (List.getElem?_eq_some_iff.1 hx).1; simpa [Bx.sides] using this
    rw [h.cell]
    match k, j, hk, hj with
    | 0, 0, _, _ | 0, 1, _, _ | 1, 0, _, _ | 1, 1, _, _ | 2, 0, _, _ | 2, 1, _, _ =>
      simp [Bx.sides] at hx
      subst hx
      simpa [cRg] using hv⟩
theorem Blk.coords {w : World} {g : Nat} {t : TypeId} {p : Pl} (h : Blk w g t #[.int .i64 p.x, .int .i64 p.y, .int .i64 p.z]) : Sl cI 1 w (some ⟨g, 0, none⟩) p.co :=
  Blk.ints (l := p.co) h

theorem c_ord1 (x : Rg) (w : World) : Calls Try.prog 112 #[vRg x] w (Ret (.bool (decide (x.hi < x.lo))) w) := by
  go_enter Try.func112, Try.ntmps112
  go_wp2
  go_ret
  exact ⟨rfl, by solve_by_elim (maxDepth := 40) only [bl_al, bl_drew, bl_refl, *]⟩
theorem c_ordered (b : Bx) (w : World) : Calls Try.prog 63 #[vBx b] w (Ret (.bool b.ordered) w) := by
  have hcall := Lib.hid fun (W : World) (hr : Sl cRg 2 W (some ⟨w.heap.size, 0, none⟩) b.sides) => c_ContainsFuncR 112 #[] (fun r => decide (r.hi < r.lo)) (some ⟨w.heap.size, 0, none⟩) b.sides 3 W (by simp [Bx.sides])
    (enters_of Try.func112 (by kernel_rfl) rfl) (fun x _ W _ => c_ord1 x W) hr
  go_enter Try.func63, Try.ntmps63
  go_wp2_with fail
  refine (hcall.out _ (Blk.ranges (Blk.new w _ _))).mono ?_
  rintro e w3 ⟨rfl, hb3⟩
  go_wp2
  go_ret
  exact ⟨rfl, bl_tr (bl_al _ (bl_refl _)) hb3⟩
end Go.Proofs.Ytephimmamkafoaa
