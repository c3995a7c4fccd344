/-
  Walk: whether two lists of numbers are equal.
  Walk: whether two lists of ranges are equal.
  Walks: the laws' own examples.
  Walks: the laws are awake.
  How the laws' arguments read: numbers, ranges, pairs; what the laid tables hold.
  How the laws' arguments read, continued: messages, frames, pairs, streams.
  Walks: the reference's remainder of a division, and whether a list has a number.
-/
import Derived.Test.YtbdgblnccjpahaaGreatDoorU4
import Derived.Test.YtbdgblnccjpahaaGreatDoorU3
import Derived.Test.YtbdgblnccjpahaaGreatDoorVStrings1
import Derived.Test.YtbdgblnccjpahaaGreatDoorU14
import Derived.Test.YtbdgblnccjpahaaGreatDoorU10
import Derived.Test.YtbdgblnccjpahaaGreatDoorCards
import Derived.Test.YtbdgblnccjpahaaGreatDoorTie
import Derived.ProofKit
import Derived.Deep.Slices
import Derived.OpenShut
import Derived.ChangeOld
import Derived.Deep.DeepHandedRow
import Derived.Lib.LaidTab
import Derived.Lay
import Derived.LaidMore
import Derived.SevenTiedAt
import Derived.Test.YtbdgblnccjpahaaGreatDoorU12
set_option linter.unusedSimpArgs false
set_option linter.unusedVariables false
namespace Go.Proofs.YtbdgblnccjpahaaGreatDoor
open Go.RowKit
attribute [local go_sem] bl_al bl_drew bl_drewN bl_refl bx_al bx_drew bx_drewN bx_refl
set_option maxRecDepth 20000
/-- Whether two lists of numbers are equal. -/
def intsB (a b : List Int) : Bool := decide (a = b)
theorem take_step {a b : List Int} {k : Nat} {x : Int} (ha : a[k]? = some x) (hb : b[k]? = some x) (h : a.take k = b.take k) : a.take (k + 1) = b.take (k + 1) := by
  rw [List.take_add_one, List.take_add_one, ha, hb, h]
set_option maxHeartbeats 4000000 in
theorem r_IntsL (a b : List Int) (A B : Option Addr) (c d : Nat) (w : World) (ha : Sl cI 1 w A a) (hb : Sl cI 1 w B b) (h1 : a.length ≤ 1000000) (h2 : b.length ≤ 1000000) :
    Calls Tryz.prog 45 #[.slice A a.length c, .slice B b.length d] w (Ret (.bool (intsB a b)) w) := by
  have Ha := Lib.hid ha
  have Hb := Lib.hid hb
  clear ha hb
  by_cases hl : a.length = b.length
  · obtain ⟨n, Hn⟩ : ∃ n, Hid (a.length = n) := ⟨_, rfl⟩
    have Hm : Hid (b.length = n) := Lib.hid (by rw [← hl]; exact Hn.out)
    rw [Hn.out] at h1 ⊢
    rw [Hm.out]
    clear hl h2
    go_enter Tryz.func45, Tryz.ntmps45
    go_wp2
    go_loopw [5] (fun i wr => ∃ k : Nat, k ≤ n ∧ i = .int .i64 k ∧ Below w.heap.size w wr ∧ a.take k = b.take k) (fun i _ => n - (intOf i).toNat)
    case atStart => exact ⟨0, Nat.zero_le _, rfl, Below.refl _ _, rfl⟩
    case round =>
      obtain ⟨k, hk, rfl, hbw, hi⟩ := hrel
      replace hi := Lib.hid hi
      by_cases hlt : k < n
      · have hx : a[k]? = some (a[k]'(by rw [Hn.out]; exact hlt)) := List.getElem?_eq_getElem _
        generalize a[k]'(by rw [Hn.out]; exact hlt) = x at hx
        have hy : b[k]? = some (b[k]'(by rw [Hm.out]; exact hlt)) := List.getElem?_eq_getElem _
        generalize b[k]'(by rw [Hm.out]; exact hlt) = y at hy
        obtain ⟨ba, oa, hA, hca⟩ := Ha.out k x hx
        obtain ⟨bb, ob, hB, hcb⟩ := Hb.out k y hy
        have c0 : ∀ W, Below wr.heap.size wr W → W.cell? ⟨ba, oa + k, none⟩ = some (.int .i64 x) := later (by have := kcell hbw (hca 0 _ rfl); simpa using this)
        have c1 : ∀ W, Below wr.heap.size wr W → W.cell? ⟨bb, ob + k, none⟩ = some (.int .i64 y) := later (by have := kcell hbw (hcb 0 _ rfl); simpa using this)
        clear hca hcb
        have hnx : Hid (x = y → a.take (k + 1) = b.take (k + 1)) := fun h => take_step hx (h ▸ hy) hi.out
        have hno : Hid (x ≠ y → intsB a b = false) := fun h => by
          unfold intsB
          rw [decide_eq_false_iff_not]
          intro e
          rw [e, hy] at hx
          exact h (by injection hx with hx; exact hx.symm)
        clear hx hy
        subst hA hB
        go_wp2
        refine wp_any (w0 := wr) ⟨[], [], [some 17, some 18, some 19, some 20, some 21, some 22, some 23, some 24, some 25], [[], [], [0, 1], [0, 1, 2], [], [], [4, 5], [4, 5, 6], [0, 1, 2, 3, 4, 5, 6, 7]], [[], [], [0, 1], [2], [], [], [4, 5], [6], [3, 7]]⟩ (fun _ => []) (by kernel_rfl) (by kernel_rfl) (by (exact zE)) (fun u => by simp only [putD, Act.put, List.setIfInBounds_toArray, List.set_cons_zero, List.set_cons_succ, Nat.zero_add, Nat.reduceAdd]; rfl) ?_
        apply RGW.on (i := 0) rfl
        · exact zG
        · intro γ u W hcur hd
          clear hd
          (try dsimp only)
          exact ⟨rfl, zS⟩
        · exact zC
        · rfl
        dsimp only [nA, cA]
        apply RGW.on (i := 1) rfl
        · exact zG
        · intro γ u W hcur hd
          clear hd
          (try dsimp only)
          exact ⟨rfl, zS⟩
        · exact zC
        · rfl
        dsimp only [nA, cA]
        apply RGW.on (i := 2) rfl
        · exact zG
        · intro γ u W hcur hd
          obtain ⟨⟨h0, -, -⟩, ⟨h1, -, -⟩, -⟩ := hd
          dsimp only at h0 h1
          (try simp only [h0, h1])
          exact ⟨rfl, zS⟩
        · exact zC
        · rfl
        dsimp only [nA, cA]
        apply RGW.on (i := 3) rfl
        · exact zG
        · intro γ u W hcur hd
          obtain ⟨⟨h2, -, -⟩, -⟩ := hd
          dsimp only at h2
          (try simp only [h2])
          exact ⟨rfl, zS⟩
        · exact zC
        · rfl
        dsimp only [nA, cA]
        apply RGW.on (i := 4) rfl
        · exact zG
        · intro γ u W hcur hd
          clear hd
          (try dsimp only)
          exact ⟨rfl, zS⟩
        · exact zC
        · rfl
        dsimp only [nA, cA]
        apply RGW.on (i := 5) rfl
        · exact zG
        · intro γ u W hcur hd
          clear hd
          (try dsimp only)
          exact ⟨rfl, zS⟩
        · exact zC
        · rfl
        dsimp only [nA, cA]
        apply RGW.on (i := 6) rfl
        · exact zG
        · intro γ u W hcur hd
          obtain ⟨⟨h4, -, -⟩, ⟨h5, -, -⟩, -⟩ := hd
          dsimp only at h4 h5
          (try simp only [h4, h5])
          exact ⟨rfl, zS⟩
        · exact zC
        · rfl
        dsimp only [nA, cA]
        apply RGW.on (i := 7) rfl
        · exact zG
        · intro γ u W hcur hd
          obtain ⟨⟨h6, -, -⟩, -⟩ := hd
          dsimp only at h6
          (try simp only [h6])
          exact ⟨rfl, zS⟩
        · exact zC
        · rfl
        dsimp only [nA, cA]
        apply RGW.on (i := 8) rfl
        · exact zG
        · intro γ u W hcur hd
          obtain ⟨⟨h3, -, -⟩, ⟨h7, -, -⟩, -⟩ := hd
          dsimp only at h3 h7
          (try simp only [h3, h7])
          exact ⟨rfl, zS⟩
        · exact zC
        · rfl
        dsimp only [nA, cA]
        refine RGW.fin (fun γ u wj hwj hd hdis => ?_)
        obtain ⟨⟨h0, -, -⟩, ⟨h1, -, -⟩, ⟨h2, -, -⟩, ⟨h3, -, -⟩, ⟨h4, -, -⟩, ⟨h5, -, -⟩, ⟨h6, -, -⟩, ⟨h7, -, -⟩, ⟨h8, -, -⟩, -⟩ := hd
        dsimp only at h0 h1 h2 h3 h4 h5 h6 h7 h8
        clear hdis
        simp only [h0, h1, h2, h3, h4, h5, h6, h7, h8]
        clear h8 h7 h6 h5 h4 h3 h2 h1 h0
        clear u
        simp only [List.map_nil]
        refine PlanW.done ?_
        have hb3 := bl_tt hwj
        have hbj := bl_tr hbw hwj
        by_cases hxy : x = y
        · have e : (x != y) = false := by simp [hxy]
          have h' := Lib.hid (hnx.out hxy)
          clear hxy hnx hno
          go_wp2
          go_roundw
          case rel => exact ⟨k + 1, by omega, by go_num, hbj, h'.out⟩
          case measure => simp [intOf]; omega
        · have e : (x != y) = true := by simp [hxy]
          have h' := Lib.hid (hno.out hxy)
          clear hxy hnx hno
          go_wp2
          go_ret
          exact ⟨by rw [h'.out] <;> rfl, hbj⟩
      · go_wp2
        go_ret
        have hkn : k = n := by omega
        have e : intsB a b = true := by
          unfold intsB
          rw [decide_eq_true_eq]
          have := hi.out
          rw [hkn, List.take_of_length_le (by rw [Hn.out]; exact Nat.le_refl _), List.take_of_length_le (by rw [Hm.out]; exact Nat.le_refl _)] at this
          exact this
        exact ⟨by rw [e] <;> rfl, hbw⟩
  · have e : Hid (intsB a b = false) := by
      refine Lib.hid ?_
      unfold intsB
      rw [decide_eq_false_iff_not]
      intro h
      exact hl (by rw [h])
    have e' : ((a.length : Int) != (b.length : Int)) = true := by simp; omega
    clear hl
    generalize a.length = n at *
    generalize b.length = m at *
    go_enter Tryz.func45, Tryz.ntmps45
    go_wp2
    go_ret
    exact ⟨by rw [e.out] <;> rfl, bl_refl _⟩
theorem r_Ints (a b : List Int) (A B : Option Addr) (c d : Nat) (w : World) (ha : Sl cI 1 w A a) (hb : Sl cI 1 w B b) (h1 : a.length ≤ 1000) (h2 : b.length ≤ 1000) :
    Calls Tryz.prog 45 #[.slice A a.length c, .slice B b.length d] w (Ret (.bool (intsB a b)) w) := r_IntsL a b A B c d w ha hb (by omega) (by omega)
end Go.Proofs.YtbdgblnccjpahaaGreatDoor
namespace Go.Proofs.YtbdgblnccjpahaaGreatDoor
open Go.RowKit
attribute [local go_sem] bl_al bl_drew bl_drewN bl_refl bx_al bx_drew bx_drewN bx_refl
set_option maxRecDepth 20000
/-- Whether two lists of ranges are equal. -/
def rgsB (a b : List Rg) : Bool := decide (a = b)
theorem take_stepR {a b : List Rg} {k : Nat} {x : Rg} (ha : a[k]? = some x) (hb : b[k]? = some x) (h : a.take k = b.take k) : a.take (k + 1) = b.take (k + 1) := by
  rw [List.take_add_one, List.take_add_one, ha, hb, h]
set_option maxHeartbeats 4000000 in
theorem r_Ranges (a b : List Rg) (A B : Option Addr) (c d : Nat) (w : World) (ha : Sl cRg 2 w A a) (hb : Sl cRg 2 w B b) (h1 : a.length ≤ 1000) (h2 : b.length ≤ 1000) :
    Calls Tryz.prog 95 #[.slice A a.length c, .slice B b.length d] w (Ret (.bool (rgsB a b)) w) := by
  have Ha := Lib.hid ha
  have Hb := Lib.hid hb
  clear ha hb
  by_cases hl : a.length = b.length
  · obtain ⟨n, Hn⟩ : ∃ n, Hid (a.length = n) := ⟨_, rfl⟩
    have Hm : Hid (b.length = n) := Lib.hid (by rw [← hl]; exact Hn.out)
    rw [Hn.out] at h1 ⊢
    rw [Hm.out]
    clear hl h2
    go_enter Tryz.func95, Tryz.ntmps95
    go_wp2
    go_loopw [5] (fun i wr => ∃ k : Nat, k ≤ n ∧ i = .int .i64 k ∧ Below w.heap.size w wr ∧ a.take k = b.take k) (fun i _ => n - (intOf i).toNat)
    case atStart => exact ⟨0, Nat.zero_le _, rfl, Below.refl _ _, rfl⟩
    case round =>
      obtain ⟨k, hk, rfl, hbw, hi⟩ := hrel
      replace hi := Lib.hid hi
      by_cases hlt : k < n
      · have hx : a[k]? = some (a[k]'(by rw [Hn.out]; exact hlt)) := List.getElem?_eq_getElem _
        generalize a[k]'(by rw [Hn.out]; exact hlt) = x at hx
        have hy : b[k]? = some (b[k]'(by rw [Hm.out]; exact hlt)) := List.getElem?_eq_getElem _
        generalize b[k]'(by rw [Hm.out]; exact hlt) = y at hy
        obtain ⟨ba, oa, hA, hca⟩ := Ha.out k x hx
        obtain ⟨bb, ob, hB, hcb⟩ := Hb.out k y hy
        have c0 : ∀ W, Below wr.heap.size wr W → W.cell? ⟨ba, oa + k * 2, none⟩ = some (.int .i64 x.lo) := later (kcell hbw (hca 0 _ rfl))
        have c2 : ∀ W, Below wr.heap.size wr W → W.cell? ⟨ba, oa + k * 2 + 1, none⟩ = some (.int .i64 x.hi) := later (kcell hbw (hca 1 _ rfl))
        have c1 : ∀ W, Below wr.heap.size wr W → W.cell? ⟨bb, ob + k * 2, none⟩ = some (.int .i64 y.lo) := later (kcell hbw (hcb 0 _ rfl))
        have c3 : ∀ W, Below wr.heap.size wr W → W.cell? ⟨bb, ob + k * 2 + 1, none⟩ = some (.int .i64 y.hi) := later (kcell hbw (hcb 1 _ rfl))
        clear hca hcb
        have hnx : Hid (x = y → a.take (k + 1) = b.take (k + 1)) := fun h => take_stepR hx (h ▸ hy) hi.out
        have hno : Hid (x ≠ y → rgsB a b = false) := fun h => by
          unfold rgsB
          rw [decide_eq_false_iff_not]
          intro e
          rw [e, hy] at hx
          exact h (by injection hx with hx; exact hx.symm)
        clear hx hy
        subst hA hB
        have hxe : x.lo = y.lo → x.hi = y.hi → x = y := fun h h' => by cases x; cases y; simp_all
        have hxn : ¬ x.lo = y.lo → x ≠ y := fun h e => h (by rw [e])
        have hxm : ¬ x.hi = y.hi → x ≠ y := fun h e => h (by rw [e])
        by_cases e1 : x.lo = y.lo
        · by_cases e2 : x.hi = y.hi
          · have h' := Lib.hid (hnx.out (hxe e1 e2))
            clear hxe hxn hxm hnx hno
            go_wp2
            refine wp_any (w0 := wr) ⟨[], [], [some 17, some 18, some 19, some 20, some 21, some 22, some 23, some 24, some 25], [[], [], [0, 1], [0, 1, 2], [], [], [4, 5], [4, 5, 6], [0, 1, 2, 3, 4, 5, 6, 7]], [[], [], [0, 1], [2], [], [], [4, 5], [6], [3, 7]]⟩ (fun _ => []) (by kernel_rfl) (by kernel_rfl) (by (exact zE)) (fun u => by simp only [putD, Act.put, List.setIfInBounds_toArray, List.set_cons_zero, List.set_cons_succ, Nat.zero_add, Nat.reduceAdd]; rfl) ?_
            apply RGW.on (i := 0) rfl
            · exact zG
            · intro γ u W hcur hd
              clear hd
              (try dsimp only)
              exact ⟨rfl, zS⟩
            · exact zC
            · rfl
            dsimp only [nA, cA]
            apply RGW.on (i := 1) rfl
            · exact zG
            · intro γ u W hcur hd
              clear hd
              (try dsimp only)
              exact ⟨rfl, zS⟩
            · exact zC
            · rfl
            dsimp only [nA, cA]
            apply RGW.on (i := 2) rfl
            · exact zG
            · intro γ u W hcur hd
              obtain ⟨⟨h0, -, -⟩, ⟨h1, -, -⟩, -⟩ := hd
              dsimp only at h0 h1
              (try simp only [h0, h1])
              exact ⟨rfl, zS⟩
            · exact zC
            · rfl
            dsimp only [nA, cA]
            apply RGW.on (i := 3) rfl
            · exact zG
            · intro γ u W hcur hd
              obtain ⟨⟨h2, -, -⟩, -⟩ := hd
              dsimp only at h2
              (try simp only [h2])
              exact ⟨rfl, zS⟩
            · exact zC
            · rfl
            dsimp only [nA, cA]
            apply RGW.on (i := 4) rfl
            · exact zG
            · intro γ u W hcur hd
              clear hd
              (try dsimp only)
              exact ⟨rfl, zS⟩
            · exact zC
            · rfl
            dsimp only [nA, cA]
            apply RGW.on (i := 5) rfl
            · exact zG
            · intro γ u W hcur hd
              clear hd
              (try dsimp only)
              exact ⟨rfl, zS⟩
            · exact zC
            · rfl
            dsimp only [nA, cA]
            apply RGW.on (i := 6) rfl
            · exact zG
            · intro γ u W hcur hd
              obtain ⟨⟨h4, -, -⟩, ⟨h5, -, -⟩, -⟩ := hd
              dsimp only at h4 h5
              (try simp only [h4, h5])
              exact ⟨rfl, zS⟩
            · exact zC
            · rfl
            dsimp only [nA, cA]
            apply RGW.on (i := 7) rfl
            · exact zG
            · intro γ u W hcur hd
              obtain ⟨⟨h6, -, -⟩, -⟩ := hd
              dsimp only at h6
              (try simp only [h6])
              exact ⟨rfl, zS⟩
            · exact zC
            · rfl
            dsimp only [nA, cA]
            apply RGW.on (i := 8) rfl
            · exact zG
            · intro γ u W hcur hd
              obtain ⟨⟨h3, -, -⟩, ⟨h7, -, -⟩, -⟩ := hd
              dsimp only at h3 h7
              (try simp only [h3, h7])
              exact ⟨rfl, zS⟩
            · exact zC
            · rfl
            dsimp only [nA, cA]
            refine RGW.fin (fun γ u wj hwj hd hdis => ?_)
            obtain ⟨⟨h0, -, -⟩, ⟨h1, -, -⟩, ⟨h2, -, -⟩, ⟨h3, -, -⟩, ⟨h4, -, -⟩, ⟨h5, -, -⟩, ⟨h6, -, -⟩, ⟨h7, -, -⟩, ⟨h8, -, -⟩, -⟩ := hd
            dsimp only at h0 h1 h2 h3 h4 h5 h6 h7 h8
            clear hdis
            simp only [h0, h1, h2, h3, h4, h5, h6, h7, h8]
            clear h8 h7 h6 h5 h4 h3 h2 h1 h0
            clear u
            simp only [List.map_nil]
            refine PlanW.done ?_
            have hb3 := bl_tt hwj
            have hbj := bl_tr hbw hwj
            go_wp2
            go_roundw
            case rel => exact ⟨k + 1, by omega, by go_num, hbj, h'.out⟩
            case measure => simp [intOf]; omega
          · have h' := Lib.hid (hno.out (hxm e2))
            clear hxe hxn hxm hnx hno
            go_wp2
            refine wp_any (w0 := wr) ⟨[], [], [some 17, some 18, some 19, some 20, some 21, some 22, some 23, some 24, some 25], [[], [], [0, 1], [0, 1, 2], [], [], [4, 5], [4, 5, 6], [0, 1, 2, 3, 4, 5, 6, 7]], [[], [], [0, 1], [2], [], [], [4, 5], [6], [3, 7]]⟩ (fun _ => []) (by kernel_rfl) (by kernel_rfl) (by (exact zE)) (fun u => by simp only [putD, Act.put, List.setIfInBounds_toArray, List.set_cons_zero, List.set_cons_succ, Nat.zero_add, Nat.reduceAdd]; rfl) ?_
            apply RGW.on (i := 0) rfl
            · exact zG
            · intro γ u W hcur hd
              clear hd
              (try dsimp only)
              exact ⟨rfl, zS⟩
            · exact zC
            · rfl
            dsimp only [nA, cA]
            apply RGW.on (i := 1) rfl
            · exact zG
            · intro γ u W hcur hd
              clear hd
              (try dsimp only)
              exact ⟨rfl, zS⟩
            · exact zC
            · rfl
            dsimp only [nA, cA]
            apply RGW.on (i := 2) rfl
            · exact zG
            · intro γ u W hcur hd
              obtain ⟨⟨h0, -, -⟩, ⟨h1, -, -⟩, -⟩ := hd
              dsimp only at h0 h1
              (try simp only [h0, h1])
              exact ⟨rfl, zS⟩
            · exact zC
            · rfl
            dsimp only [nA, cA]
            apply RGW.on (i := 3) rfl
            · exact zG
            · intro γ u W hcur hd
              obtain ⟨⟨h2, -, -⟩, -⟩ := hd
              dsimp only at h2
              (try simp only [h2])
              exact ⟨rfl, zS⟩
            · exact zC
            · rfl
            dsimp only [nA, cA]
            apply RGW.on (i := 4) rfl
            · exact zG
            · intro γ u W hcur hd
              clear hd
              (try dsimp only)
              exact ⟨rfl, zS⟩
            · exact zC
            · rfl
            dsimp only [nA, cA]
            apply RGW.on (i := 5) rfl
            · exact zG
            · intro γ u W hcur hd
              clear hd
              (try dsimp only)
              exact ⟨rfl, zS⟩
            · exact zC
            · rfl
            dsimp only [nA, cA]
            apply RGW.on (i := 6) rfl
            · exact zG
            · intro γ u W hcur hd
              obtain ⟨⟨h4, -, -⟩, ⟨h5, -, -⟩, -⟩ := hd
              dsimp only at h4 h5
              (try simp only [h4, h5])
              exact ⟨rfl, zS⟩
            · exact zC
            · rfl
            dsimp only [nA, cA]
            apply RGW.on (i := 7) rfl
            · exact zG
            · intro γ u W hcur hd
              obtain ⟨⟨h6, -, -⟩, -⟩ := hd
              dsimp only at h6
              (try simp only [h6])
              exact ⟨rfl, zS⟩
            · exact zC
            · rfl
            dsimp only [nA, cA]
            apply RGW.on (i := 8) rfl
            · exact zG
            · intro γ u W hcur hd
              obtain ⟨⟨h3, -, -⟩, ⟨h7, -, -⟩, -⟩ := hd
              dsimp only at h3 h7
              (try simp only [h3, h7])
              exact ⟨rfl, zS⟩
            · exact zC
            · rfl
            dsimp only [nA, cA]
            refine RGW.fin (fun γ u wj hwj hd hdis => ?_)
            obtain ⟨⟨h0, -, -⟩, ⟨h1, -, -⟩, ⟨h2, -, -⟩, ⟨h3, -, -⟩, ⟨h4, -, -⟩, ⟨h5, -, -⟩, ⟨h6, -, -⟩, ⟨h7, -, -⟩, ⟨h8, -, -⟩, -⟩ := hd
            dsimp only at h0 h1 h2 h3 h4 h5 h6 h7 h8
            clear hdis
            simp only [h0, h1, h2, h3, h4, h5, h6, h7, h8]
            clear h8 h7 h6 h5 h4 h3 h2 h1 h0
            clear u
            simp only [List.map_nil]
            refine PlanW.done ?_
            have hb3 := bl_tt hwj
            have hbj := bl_tr hbw hwj
            go_wp2
            go_ret
            exact ⟨by rw [h'.out] <;> rfl, hbj⟩
        · have h' := Lib.hid (hno.out (hxn e1))
          clear hxe hxn hxm hnx hno
          go_wp2
          refine wp_any (w0 := wr) ⟨[], [], [some 17, some 18, some 19, some 20, some 21, some 22, some 23, some 24, some 25], [[], [], [0, 1], [0, 1, 2], [], [], [4, 5], [4, 5, 6], [0, 1, 2, 3, 4, 5, 6, 7]], [[], [], [0, 1], [2], [], [], [4, 5], [6], [3, 7]]⟩ (fun _ => []) (by kernel_rfl) (by kernel_rfl) (by (exact zE)) (fun u => by simp only [putD, Act.put, List.setIfInBounds_toArray, List.set_cons_zero, List.set_cons_succ, Nat.zero_add, Nat.reduceAdd]; rfl) ?_
          apply RGW.on (i := 0) rfl
          · exact zG
          · intro γ u W hcur hd
            clear hd
            (try dsimp only)
            exact ⟨rfl, zS⟩
          · exact zC
          · rfl
          dsimp only [nA, cA]
          apply RGW.on (i := 1) rfl
          · exact zG
          · intro γ u W hcur hd
            clear hd
            (try dsimp only)
            exact ⟨rfl, zS⟩
          · exact zC
          · rfl
          dsimp only [nA, cA]
          apply RGW.on (i := 2) rfl
          · exact zG
          · intro γ u W hcur hd
            obtain ⟨⟨h0, -, -⟩, ⟨h1, -, -⟩, -⟩ := hd
            dsimp only at h0 h1
            (try simp only [h0, h1])
            exact ⟨rfl, zS⟩
          · exact zC
          · rfl
          dsimp only [nA, cA]
          apply RGW.on (i := 3) rfl
          · exact zG
          · intro γ u W hcur hd
            obtain ⟨⟨h2, -, -⟩, -⟩ := hd
            dsimp only at h2
            (try simp only [h2])
            exact ⟨rfl, zS⟩
          · exact zC
          · rfl
          dsimp only [nA, cA]
          apply RGW.on (i := 4) rfl
          · exact zG
          · intro γ u W hcur hd
            clear hd
            (try dsimp only)
            exact ⟨rfl, zS⟩
          · exact zC
          · rfl
          dsimp only [nA, cA]
          apply RGW.on (i := 5) rfl
          · exact zG
          · intro γ u W hcur hd
            clear hd
            (try dsimp only)
            exact ⟨rfl, zS⟩
          · exact zC
          · rfl
          dsimp only [nA, cA]
          apply RGW.on (i := 6) rfl
          · exact zG
          · intro γ u W hcur hd
            obtain ⟨⟨h4, -, -⟩, ⟨h5, -, -⟩, -⟩ := hd
            dsimp only at h4 h5
            (try simp only [h4, h5])
            exact ⟨rfl, zS⟩
          · exact zC
          · rfl
          dsimp only [nA, cA]
          apply RGW.on (i := 7) rfl
          · exact zG
          · intro γ u W hcur hd
            obtain ⟨⟨h6, -, -⟩, -⟩ := hd
            dsimp only at h6
            (try simp only [h6])
            exact ⟨rfl, zS⟩
          · exact zC
          · rfl
          dsimp only [nA, cA]
          apply RGW.on (i := 8) rfl
          · exact zG
          · intro γ u W hcur hd
            obtain ⟨⟨h3, -, -⟩, ⟨h7, -, -⟩, -⟩ := hd
            dsimp only at h3 h7
            (try simp only [h3, h7])
            exact ⟨rfl, zS⟩
          · exact zC
          · rfl
          dsimp only [nA, cA]
          refine RGW.fin (fun γ u wj hwj hd hdis => ?_)
          obtain ⟨⟨h0, -, -⟩, ⟨h1, -, -⟩, ⟨h2, -, -⟩, ⟨h3, -, -⟩, ⟨h4, -, -⟩, ⟨h5, -, -⟩, ⟨h6, -, -⟩, ⟨h7, -, -⟩, ⟨h8, -, -⟩, -⟩ := hd
          dsimp only at h0 h1 h2 h3 h4 h5 h6 h7 h8
          clear hdis
          simp only [h0, h1, h2, h3, h4, h5, h6, h7, h8]
          clear h8 h7 h6 h5 h4 h3 h2 h1 h0
          clear u
          simp only [List.map_nil]
          refine PlanW.done ?_
          have hb3 := bl_tt hwj
          have hbj := bl_tr hbw hwj
          go_wp2
          go_ret
          exact ⟨by rw [h'.out] <;> rfl, hbj⟩
      · go_wp2
        go_ret
        have hkn : k = n := by omega
        have e : rgsB a b = true := by
          unfold rgsB
          rw [decide_eq_true_eq]
          have := hi.out
          rw [hkn, List.take_of_length_le (by rw [Hn.out]; exact Nat.le_refl _), List.take_of_length_le (by rw [Hm.out]; exact Nat.le_refl _)] at this
          exact this
        exact ⟨by rw [e] <;> rfl, hbw⟩
  · have e : Hid (rgsB a b = false) := by
      refine Lib.hid ?_
      unfold rgsB
      rw [decide_eq_false_iff_not]
      intro h
      exact hl (by rw [h])
    have e' : ((a.length : Int) != (b.length : Int)) = true := by simp; omega
    clear hl
    generalize a.length = n at *
    generalize b.length = m at *
    go_enter Tryz.func95, Tryz.ntmps95
    go_wp2
    go_ret
    exact ⟨by rw [e.out] <;> rfl, bl_refl _⟩
end Go.Proofs.YtbdgblnccjpahaaGreatDoor
namespace Go.Proofs.YtbdgblnccjpahaaGreatDoor
open Go.RowKit Go.Shelf
attribute [local go_sem] bl_al bl_drew bl_drewN bl_refl bx_al bx_drew bx_drewN bx_refl
set_option maxRecDepth 20000
def sms0 : List Sm := [⟨⟨#[97]⟩, 4, 4, 1⟩, ⟨⟨#[98]⟩, 6, 6, 2⟩, ⟨⟨#[99]⟩, 12, 12, 3⟩]
def net0 (b : Nat) : Nt := ⟨[⟨#[109, 97, 105, 110]⟩, ⟨#[115, 112, 97, 114, 101]⟩, ⟨#[103, 121, 114, 111]⟩, ⟨#[100, 118, 108]⟩],
  [⟨⟨#[112, 111, 119, 101, 114]⟩, some ⟨b + 4, 0, none⟩, 2, [⟨some ⟨b + 2, 0, none⟩, 1, [0]⟩, ⟨some ⟨b + 3, 0, none⟩, 1, [1]⟩]⟩,
   ⟨⟨#[104, 101, 97, 100, 105, 110, 103]⟩, some ⟨b + 7, 0, none⟩, 2, [⟨some ⟨b + 5, 0, none⟩, 2, [0, 2]⟩, ⟨some ⟨b + 6, 0, none⟩, 2, [1, 2]⟩]⟩,
   ⟨⟨#[115, 112, 101, 101, 100]⟩, some ⟨b + 9, 0, none⟩, 1, [⟨some ⟨b + 8, 0, none⟩, 1, [3]⟩]⟩],
  [⟨⟨#[102, 117, 108, 108]⟩, ⟨some ⟨b + 11, 0, none⟩, 3, [0, 1, 2]⟩⟩, ⟨⟨#[115, 108, 111, 119]⟩, ⟨some ⟨b + 12, 0, none⟩, 2, [0, 1]⟩⟩, ⟨⟨#[100, 114, 105, 102, 116]⟩, ⟨some ⟨b + 13, 0, none⟩, 1, [0]⟩⟩]⟩
theorem ev_enc : encS ⟨0, 0, 0, 0, 0, 1, 0⟩ = (⟨0, 0, 0, 0, 0, 1, 0, 21⟩, 0) := by kernel_rfl
theorem ev_resp : respOf sms0 2 = (10, 0) := by kernel_rfl
theorem ev_stE : stE sms0 [0, 0, 0] 12 = 0 := by kernel_rfl
theorem ev_run : (runS prioS sms0 [0, 0, 0] 12).2 = [0, 1, 1, 2, 0, 2, 1, 1, 0, 2, -1, -1] := by kernel_rfl
theorem ev_cutE (b : Nat) : cutErr (net0 b) 0 = 0 := by kernel_rfl
theorem ev_cut0 (b : Nat) : listS (cutS ⟨⟨#[112, 111, 119, 101, 114]⟩, some ⟨b + 4, 0, none⟩, 2, [⟨some ⟨b + 2, 0, none⟩, 1, [0]⟩, ⟨some ⟨b + 3, 0, none⟩, 1, [1]⟩]⟩ 4) = [0, 1] := by kernel_rfl
theorem ev_cut (b : Nat) (f : Fu) (hf : (net0 b).fs[(0 : Int).toNat]? = some f) : listS (cutS f (net0 b).ps.length) = [0, 1] := by
  have : f = ⟨⟨#[112, 111, 119, 101, 114]⟩, some ⟨b + 4, 0, none⟩, 2, [⟨some ⟨b + 2, 0, none⟩, 1, [0]⟩, ⟨some ⟨b + 3, 0, none⟩, 1, [1]⟩]⟩ := by
    have e : (net0 b).fs[(0 : Int).toNat]? = some ⟨⟨#[112, 111, 119, 101, 114]⟩, some ⟨b + 4, 0, none⟩, 2, [⟨some ⟨b + 2, 0, none⟩, 1, [0]⟩, ⟨some ⟨b + 3, 0, none⟩, 1, [1]⟩]⟩ := rfl
    rw [e] at hf
    injection hf with hf
    exact hf.symm
  rw [this]
  exact ev_cut0 b
theorem ev_silE : silE [3, 10, 12] ⟨0, 20⟩ 4 = 0 := by kernel_rfl
theorem ev_silR : silR [3, 10, 12] ⟨0, 20⟩ 4 = [⟨0, 2⟩, ⟨8, 9⟩, ⟨17, 20⟩] := by kernel_rfl
theorem r_Streams (w : World) : Calls Tryz.prog 55 #[] w (fun e w' => e = .returned (.slice (some ⟨w.heap.size, 0, none⟩) 3 3) ∧ Below w.heap.size w w' ∧ SmIn sms0 (some ⟨w.heap.size, 0, none⟩) 3 w') := by
  go_enter Tryz.func55, Tryz.ntmps55
  go_wp2
  go_ret
  refine ⟨rfl, bl_al _ (bl_refl w), by decide, by decide, fun s hs => ?_, Blk.slC (cs := cSm) (l := sms0) (fun _ => rfl) (Blk.new w _ _)⟩
  have : s.name.size = 1 := by
    simp [sms0] at hs
    rcases hs with rfl | rfl | rfl <;> rfl
  rw [this]
  unfold maxLen
  omega
theorem absPC {P : Program} {fn : Func} {R : Ending → World → Prop} {x : Exit} {a : Act} {w : World} (C : World → Prop) (hC : C w) (h : ∀ W, C W → bodyPost P fn R x a W) : bodyPost P fn R x a w := h w hC
set_option maxHeartbeats 4000000 in
theorem r_Net (w : World) : Calls Tryz.prog 94 #[] w (fun e w' => e = .returned (vNt (some ⟨w.heap.size + 1, 0, none⟩) (some ⟨w.heap.size + 10, 0, none⟩) (some ⟨w.heap.size + 14, 0, none⟩) 4 3 3 4 3 3) ∧ Below w.heap.size w w' ∧
    NtIn (net0 w.heap.size) (some ⟨w.heap.size + 1, 0, none⟩) (some ⟨w.heap.size + 10, 0, none⟩) (some ⟨w.heap.size + 14, 0, none⟩) 4 3 3 w') := by
  go_enter Tryz.func94, Tryz.ntmps94
  go_wp2
  refine absPC (fun W => Below w.heap.size w W ∧
    Blk W (w.heap.size) 58 #[.slice (some ⟨w.heap.size + 1, 0, none⟩) 4 4, .slice (some ⟨w.heap.size + 10, 0, none⟩) 3 3, .slice (some ⟨w.heap.size + 14, 0, none⟩) 3 3] ∧
    Blk W (w.heap.size + 1) 9 #[.string ⟨#[109, 97, 105, 110]⟩, .string ⟨#[115, 112, 97, 114, 101]⟩, .string ⟨#[103, 121, 114, 111]⟩, .string ⟨#[100, 118, 108]⟩] ∧
    Blk W (w.heap.size + 2) 3 #[.int .i64 0] ∧
    Blk W (w.heap.size + 3) 3 #[.int .i64 1] ∧
    Blk W (w.heap.size + 4) 23 #[.slice (some ⟨w.heap.size + 2, 0, none⟩) 1 1, .slice (some ⟨w.heap.size + 3, 0, none⟩) 1 1] ∧
    Blk W (w.heap.size + 5) 3 #[.int .i64 0, .int .i64 2] ∧
    Blk W (w.heap.size + 6) 3 #[.int .i64 1, .int .i64 2] ∧
    Blk W (w.heap.size + 7) 23 #[.slice (some ⟨w.heap.size + 5, 0, none⟩) 2 2, .slice (some ⟨w.heap.size + 6, 0, none⟩) 2 2] ∧
    Blk W (w.heap.size + 8) 3 #[.int .i64 3] ∧
    Blk W (w.heap.size + 9) 23 #[.slice (some ⟨w.heap.size + 8, 0, none⟩) 1 1] ∧
    Blk W (w.heap.size + 10) 144 #[.string ⟨#[112, 111, 119, 101, 114]⟩, .slice (some ⟨w.heap.size + 4, 0, none⟩) 2 2, .string ⟨#[104, 101, 97, 100, 105, 110, 103]⟩, .slice (some ⟨w.heap.size + 7, 0, none⟩) 2 2, .string ⟨#[115, 112, 101, 101, 100]⟩, .slice (some ⟨w.heap.size + 9, 0, none⟩) 1 1] ∧
    Blk W (w.heap.size + 11) 3 #[.int .i64 0, .int .i64 1, .int .i64 2] ∧
    Blk W (w.heap.size + 12) 3 #[.int .i64 0, .int .i64 1] ∧
    Blk W (w.heap.size + 13) 3 #[.int .i64 0] ∧
    Blk W (w.heap.size + 14) 146 #[.string ⟨#[102, 117, 108, 108]⟩, .slice (some ⟨w.heap.size + 11, 0, none⟩) 3 3, .string ⟨#[115, 108, 111, 119]⟩, .slice (some ⟨w.heap.size + 12, 0, none⟩) 2 2, .string ⟨#[100, 114, 105, 102, 116]⟩, .slice (some ⟨w.heap.size + 13, 0, none⟩) 1 1]) ⟨by (exact zE), by (exact zK), by (exact zK), by (exact zK), by (exact zK), by (exact zK), by (exact zK), by (exact zK), by (exact zK), by (exact zK), by (exact zK), by (exact zK), by (exact zK), by (exact zK), by (exact zK), by (exact zK)⟩ ?_
  rintro W ⟨hb, k0, k1, k2, k3, k4, k5, k6, k7, k8, k9, k10, k11, k12, k13, k14⟩
  have hr := k0.cell
  refine bodyPost_ret (v := vNt (some ⟨w.heap.size + 1, 0, none⟩) (some ⟨w.heap.size + 10, 0, none⟩) (some ⟨w.heap.size + 14, 0, none⟩) 4 3 3 4 3 3) (by simp [results, Tryz.results94, go_sem, hr]) rfl ⟨rfl, hb, ?_⟩
  have hml : ∀ n : Nat, n ≤ 10 → n ≤ maxLen := fun n hn => by unfold maxLen; omega
  have q2 : RwIn ⟨some ⟨w.heap.size + 2, 0, none⟩, 1, [0]⟩ W := ⟨by simp, by simp, Blk.ints (l := [0]) k2⟩
  have q3 : RwIn ⟨some ⟨w.heap.size + 3, 0, none⟩, 1, [1]⟩ W := ⟨by simp, by simp, Blk.ints (l := [1]) k3⟩
  have q5 : RwIn ⟨some ⟨w.heap.size + 5, 0, none⟩, 2, [0, 2]⟩ W := ⟨by simp, by simp, Blk.ints (l := [0, 2]) k5⟩
  have q6 : RwIn ⟨some ⟨w.heap.size + 6, 0, none⟩, 2, [1, 2]⟩ W := ⟨by simp, by simp, Blk.ints (l := [1, 2]) k6⟩
  have q8 : RwIn ⟨some ⟨w.heap.size + 8, 0, none⟩, 1, [3]⟩ W := ⟨by simp, by simp, Blk.ints (l := [3]) k8⟩
  have q11 : RwIn ⟨some ⟨w.heap.size + 11, 0, none⟩, 3, [0, 1, 2]⟩ W := ⟨by simp, by simp, Blk.ints (l := [0, 1, 2]) k11⟩
  have q12 : RwIn ⟨some ⟨w.heap.size + 12, 0, none⟩, 2, [0, 1]⟩ W := ⟨by simp, by simp, Blk.ints (l := [0, 1]) k12⟩
  have q13 : RwIn ⟨some ⟨w.heap.size + 13, 0, none⟩, 1, [0]⟩ W := ⟨by simp, by simp, Blk.ints (l := [0]) k13⟩
  refine ⟨by simp [net0], by simp [net0], by simp [net0], by simp [net0], by simp [net0], by simp [net0], Blk.slC (cs := cS) (l := (net0 w.heap.size).ps) (fun _ => rfl) k1, Blk.slC (cs := cFu) (l := (net0 w.heap.size).fs) (fun _ => rfl) k10, Blk.slC (cs := cMd) (l := (net0 w.heap.size).ms) (fun _ => rfl) k14, fun s hs => ?_, fun f hf => ?_, fun d hd => ?_⟩
  · simp only [net0, List.mem_cons, List.not_mem_nil, or_false] at hs
    rcases hs with rfl | rfl | rfl | rfl <;> exact hml _ (by simp [ByteArray.size])
  · simp only [net0, List.mem_cons, List.not_mem_nil, or_false] at hf
    rcases hf with rfl | rfl | rfl
    · refine ⟨hml _ (by simp [ByteArray.size]), by simp, by simp, Blk.slC (cs := cRw) (l := [⟨some ⟨w.heap.size + 2, 0, none⟩, 1, [0]⟩, ⟨some ⟨w.heap.size + 3, 0, none⟩, 1, [1]⟩]) (fun _ => rfl) k4, fun r hr => ?_⟩
      simp only [List.mem_cons, List.not_mem_nil, or_false] at hr
      rcases hr with rfl | rfl
      · exact q2
      · exact q3
    · refine ⟨hml _ (by simp [ByteArray.size]), by simp, by simp, Blk.slC (cs := cRw) (l := [⟨some ⟨w.heap.size + 5, 0, none⟩, 2, [0, 2]⟩, ⟨some ⟨w.heap.size + 6, 0, none⟩, 2, [1, 2]⟩]) (fun _ => rfl) k7, fun r hr => ?_⟩
      simp only [List.mem_cons, List.not_mem_nil, or_false] at hr
      rcases hr with rfl | rfl
      · exact q5
      · exact q6
    · refine ⟨hml _ (by simp [ByteArray.size]), by simp, by simp, Blk.slC (cs := cRw) (l := [⟨some ⟨w.heap.size + 8, 0, none⟩, 1, [3]⟩]) (fun _ => rfl) k9, fun r hr => ?_⟩
      simp only [List.mem_cons, List.not_mem_nil, or_false] at hr
      rcases hr with rfl
      exact q8
  · simp only [net0, List.mem_cons, List.not_mem_nil, or_false] at hd
    rcases hd with rfl | rfl | rfl
    · exact ⟨hml _ (by simp [ByteArray.size]), q11⟩
    · exact ⟨hml _ (by simp [ByteArray.size]), q12⟩
    · exact ⟨hml _ (by simp [ByteArray.size]), q13⟩
end Go.Proofs.YtbdgblnccjpahaaGreatDoor
namespace Go.Proofs.YtbdgblnccjpahaaGreatDoor
open Go.RowKit Go.Shelf
attribute [local go_sem] bl_al bl_drew bl_drewN bl_refl bx_al bx_drew bx_drewN bx_refl
set_option maxRecDepth 20000
set_option maxHeartbeats 8000000 in
theorem r_awake (w : World) (hT : Tab w) : Calls Tryz.prog 39 #[] w (Ret (.bool true) w) := by
  have HT := Lib.hid fun W (hb : Below w.heap.size w W) => hT.below hb
  have h1 : Hid (∀ W : World, Calls Tryz.prog 25 #[.agg #[.int .i64 0, .int .i64 0, .int .i64 0, .int .i64 0, .int .i64 0, .int .i64 1, .int .i64 0]] W (Ret (.tuple #[.agg #[.int .i64 0, .int .i64 0, .int .i64 0, .int .i64 0, .int .i64 0, .int .i64 1, .int .i64 0, .int .i64 21], .int .i64 0]) W)) := fun W => by
    have := c_Encoded ⟨0, 0, 0, 0, 0, 1, 0⟩ W
    rw [ev_enc] at this
    exact this
  have h2 : Hid (∀ (W : World) (A : Option Addr), SmIn sms0 A 3 W → Calls Tryz.prog 43 #[.slice A 3 3, .int .i64 2] W (Ret (.tuple #[.int .i64 10, .int .i64 0]) W)) := fun W A h => by
    have := c_ResponseOf sms0 2 A 3 W h
    rw [ev_resp] at this
    exact this
  have h3 : Hid (∀ (W : World) (A : Option Addr) (g : Nat), SmIn sms0 A 3 W → Blk W g 3 #[.int .i64 0, .int .i64 0, .int .i64 0] → Calls Tryz.prog 22 #[.slice A 3 3, .slice (some ⟨g, 0, none⟩) 3 3, .int .i64 12] W
      (fun e w' => Below W.heap.size W w' ∧ ∃ A5 c5, e = .returned (.tuple #[.slice A5 12 c5, .int .i64 0]) ∧ Sl cI 1 w' A5 [0, 1, 1, 2, 0, 2, 1, 1, 0, 2, -1, -1])) := fun W A g h hg =>
    (c_CarriedBy sms0 [0, 0, 0] 12 A (some ⟨g, 0, none⟩) 3 3 W h (Blk.ints (l := [0, 0, 0]) hg) (by decide)).mono fun e w' ⟨hb, hh⟩ => by
      rcases hh with ⟨h0, _⟩ | ⟨_, A5, c5, rfl, ho⟩
      · exact absurd ev_stE h0
      · have e : (12 : Int).toNat = 12 := rfl
        rw [e] at ho
        rw [ev_run] at ho
        exact ⟨hb, A5, c5, rfl, own_sl (L := [0, 1, 1, 2, 0, 2, 1, 1, 0, 2, -1, -1]) ho⟩
  have h4 : Hid (∀ (W : World) (b : Nat) (Ap Af Am : Option Addr), Tab W → NtIn (net0 b) Ap Af Am 4 3 3 W → Calls Tryz.prog 37 #[vNt Ap Af Am 4 3 3 4 3 3, .int .i64 0] W
      (fun e w' => Below W.heap.size W w' ∧ ∃ A7 c7, e = .returned (.tuple #[.slice A7 2 c7, .int .i64 0]) ∧ Sl cI 1 w' A7 [0, 1])) := fun W b Ap Af Am ht hn =>
    (c_CutOf (net0 b) 0 Ap Af Am 4 3 3 W hn ht).mono fun e w' ⟨hb, hh⟩ => by
      rcases hh with ⟨h0, _⟩ | ⟨_, f, hf, A7, c7, rfl, ho⟩
      · exact absurd (ev_cutE b) h0
      · rw [ev_cut b f hf] at ho ⊢
        exact ⟨hb, A7, c7, rfl, own_sl (L := [0, 1]) ho⟩
  have h5 : Hid (∀ (W : World) (g : Nat), Blk W g 3 #[.int .i64 3, .int .i64 10, .int .i64 12] → Calls Tryz.prog 23 #[.slice (some ⟨g, 0, none⟩) 3 3, .agg #[.int .i64 0, .int .i64 20], .int .i64 4] W
      (fun e w' => Below W.heap.size W w' ∧ ∃ A9 c9, e = .returned (.tuple #[.slice A9 3 c9, .int .i64 0]) ∧ Sl cRg 2 w' A9 [⟨0, 2⟩, ⟨8, 9⟩, ⟨17, 20⟩])) := fun W g hg =>
    (c_SilentIn [3, 10, 12] ⟨0, 20⟩ 4 (some ⟨g, 0, none⟩) 3 W (Blk.ints (l := [3, 10, 12]) hg) (by decide)).mono fun e w' hh => by
      rw [ev_silE, ev_silR] at hh
      obtain ⟨A9, c9, rfl, hb, ho⟩ := hh
      exact ⟨hb, A9, c9, rfl, own_slC (cs := cRg) (fun _ => rfl) (by decide) ho⟩
  clear hT
  go_enter Tryz.func39, Tryz.ntmps39
  go_wp2_with fail
  refine (h1.out w).mono ?_
  rintro e v1 ⟨rfl, hb1⟩
  go_upto_region 2 with fail
  first
  | apply absB1 (w0 := v1) (g0 := v1.heap.size)
  | apply absTB1 (w0 := v1) (g0 := v1.heap.size)
  | apply absIB1 (w0 := v1) (g0 := v1.heap.size)
  iterate 2 (focus exact zL)
  try clear hb3
  try clear hb0
  try clear k1
  intro wa hb0 k1
  (try simp only [List.setIfInBounds_toArray, List.set_cons_zero, List.set_cons_succ] at k1)
  replace hb0 := bl_tr hb1 hb0
  clear hb1 h1
  go_wp2_with fail
  refine (r_Streams wa).mono ?_
  rintro e v2 ⟨rfl, hb1, hsm⟩
  replace hb0 := bl_tr hb0 hb1
  replace k1 := k1.below hb1
  go_wp2_with fail
  refine (h2.out v2 _ hsm).mono ?_
  rintro e v3 ⟨rfl, hb2⟩
  replace hb0 := bl_tr hb0 hb2
  replace k1 := k1.below hb2
  clear hsm hb1 hb2 h2
  go_wp2_with fail
  refine (r_Streams v3).mono ?_
  rintro e v4 ⟨rfl, hb1, hsm⟩
  replace hb0 := bl_tr hb0 hb1
  replace k1 := k1.below hb1
  go_wp2_with fail
  refine (h3.out _ _ v4.heap.size (hsm.below (bl_al _ (bl_refl _))) (Blk.new v4 _ _)).mono ?_
  rintro e v5 ⟨hb2, A5, c5, rfl, hs5⟩
  replace hb0 := bl_tr (bl_al _ hb0) hb2
  replace k1 := (k1.alloc _).below hb2
  clear hsm hb1 hb2 h3
  go_wp2_with fail
  refine (r_Net v5).mono ?_
  rintro e v6 ⟨rfl, hb1, hnt⟩
  replace hb0 := bl_tr hb0 hb1
  replace k1 := k1.below hb1
  replace hs5 := hs5.below hb1
  go_wp2_with fail
  refine (h4.out v6 _ _ _ _ (HT.out v6 hb0) hnt).mono ?_
  rintro e v7 ⟨hb2, A7, c7, rfl, hs7⟩
  replace hb0 := bl_tr hb0 hb2
  replace k1 := k1.below hb2
  replace hs5 := hs5.below hb2
  clear hnt hb1 hb2 h4
  go_wp2_with fail
  refine (h5.out _ v7.heap.size (Blk.new v7 _ _)).mono ?_
  rintro e v8 ⟨hb2, A9, c9, rfl, hs9⟩
  have hb1 := bl_al (.cells #[.int .i64 3, .int .i64 10, .int .i64 12] 3) (bl_refl v7)
  replace hb1 := bl_tr hb1 hb2
  replace hb0 := bl_tr hb0 hb1
  replace k1 := k1.below hb1
  replace hs5 := hs5.below hb1
  replace hs7 := hs7.below hb1
  clear hb1 hb2 h5 HT
  have L1 := k1.cell
  have heq : ∀ W : World, (Op.equalIn 10000 62 (.agg #[.int .i64 0, .int .i64 0, .int .i64 0, .int .i64 0, .int .i64 0, .int .i64 1, .int .i64 0, .int .i64 21]) (.agg #[.int .i64 0, .int .i64 0, .int .i64 0, .int .i64 0, .int .i64 0, .int .i64 1, .int .i64 0, .int .i64 21])).run Tryz.prog W = .ok true W := fun W => by kernel_rfl
  go_wp2_with fail
  refine (r_Ints [0, 1, 1, 2, 0, 2, 1, 1, 0, 2, -1, -1] [0, 1, 1, 2, 0, 2, 1, 1, 0, 2, -1, -1] A5 (some ⟨v8.heap.size, 0, none⟩) c5 12 _ (hs5.below (bl_al _ (bl_refl _))) (Blk.ints (l := [0, 1, 1, 2, 0, 2, 1, 1, 0, 2, -1, -1]) (Blk.new v8 _ _)) (by decide) (by decide)).mono ?_
  rintro e v9 ⟨rfl, hb2⟩
  rw [show intsB [0, 1, 1, 2, 0, 2, 1, 1, 0, 2, -1, -1] [0, 1, 1, 2, 0, 2, 1, 1, 0, 2, -1, -1] = true by decide]
  have hb1 := bl_tr (bl_al (.cells #[.int .i64 0, .int .i64 1, .int .i64 1, .int .i64 2, .int .i64 0, .int .i64 2, .int .i64 1, .int .i64 1, .int .i64 0, .int .i64 2, .int .i64 (-1), .int .i64 (-1)] 3) (bl_refl v8)) hb2
  replace hb0 := bl_tr hb0 hb1
  replace hs7 := hs7.below hb1
  replace hs9 := hs9.below hb1
  clear hb1 hb2 hs5 L1 k1 heq
  go_wp2_with fail
  refine (r_Ints [0, 1] [0, 1] A7 (some ⟨v9.heap.size, 0, none⟩) c7 2 _ (hs7.below (bl_al _ (bl_refl _))) (Blk.ints (l := [0, 1]) (Blk.new v9 _ _)) (by decide) (by decide)).mono ?_
  rintro e v10 ⟨rfl, hb2⟩
  rw [show intsB [0, 1] [0, 1] = true by decide]
  have hb1 := bl_tr (bl_al (.cells #[.int .i64 0, .int .i64 1] 3) (bl_refl v9)) hb2
  replace hb0 := bl_tr hb0 hb1
  replace hs9 := hs9.below hb1
  clear hb1 hb2 hs7
  go_wp2_with fail
  refine (r_Ranges [⟨0, 2⟩, ⟨8, 9⟩, ⟨17, 20⟩] [⟨0, 2⟩, ⟨8, 9⟩, ⟨17, 20⟩] A9 (some ⟨v10.heap.size, 0, none⟩) c9 3 _ (hs9.below (bl_al _ (bl_refl _))) (Blk.slC (cs := cRg) (l := [⟨0, 2⟩, ⟨8, 9⟩, ⟨17, 20⟩]) (fun _ => rfl) (Blk.new v10 _ _)) (by decide) (by decide)).mono ?_
  rintro e v11 ⟨rfl, hb2⟩
  rw [show rgsB [⟨0, 2⟩, ⟨8, 9⟩, ⟨17, 20⟩] [⟨0, 2⟩, ⟨8, 9⟩, ⟨17, 20⟩] = true by simp [rgsB]]
  replace hb0 := bl_tr (bl_al _ hb0) hb2
  clear hb2 hs9
  go_wp2
  go_ret
  exact ⟨rfl, hb0⟩
end Go.Proofs.YtbdgblnccjpahaaGreatDoor
namespace Go.Proofs.YtbdgblnccjpahaaGreatDoor
open Go.ChangeShapes Go.WideShapes Go.ChangeAt Go.RowKit Go.Deep
set_option maxRecDepth 20000
theorem own : ownKnob Tryz.prog.godebug = none := by kernel_rfl
theorem laidOut : laidOutB Tryz.prog = true := by kernel_rfl
theorem len2 {α : Type} {l : List α} (h : l.length = 2) : ∃ a b, l = [a, b] := by
  match l, h with
  | [a, b], _ => exact ⟨a, b, rfl⟩
theorem len3 {α : Type} {l : List α} (h : l.length = 3) : ∃ a b c, l = [a, b, c] := by
  match l, h with
  | [a, b, c], _ => exact ⟨a, b, c, rfl⟩
theorem len4 {α : Type} {l : List α} (h : l.length = 4) : ∃ a b c d, l = [a, b, c, d] := by
  match l, h with
  | [a, b, c, d], _ => exact ⟨a, b, c, d, rfl⟩
section
variable {H : Type} {enc : TypeId × Value → H} {w : World} {base : Nat} {spare : Nat → Bool} {held : Bool} {fuel : Nat} {cs : List Value} {y : DataW H × List MemPlace}
theorem ci : Tryz.prog.cellsOf 3 = 1 := by kernel_rfl
theorem cS1 : Tryz.prog.cellsOf 9 = 1 := by kernel_rfl
theorem choose_list {α : Type} {p : Nat → α → Prop} : ∀ n, (∀ i, i < n → ∃ x, p i x) → ∃ l : List α, l.length = n ∧ ∀ (i : Nat) (x : α), l[i]? = some x → p i x
  | 0, _ => ⟨[], rfl, fun i x h => by simp at h⟩
  | n + 1, h => by
    obtain ⟨l, h1, h2⟩ := choose_list n fun i hi => h i (by omega)
    obtain ⟨x, hx⟩ := h n (by omega)
    refine ⟨l ++ [x], by simp [h1], fun i y hy => ?_⟩
    rw [List.getElem?_append] at hy
    split at hy
    · exact h2 i y hy
    · rename_i hi
      have : i = n := by
        have := (List.getElem?_eq_some_iff.1 hy).1
        simp at this
        omega
      subst this
      simp [h1] at hy
      exact hy ▸ hx
/-- A slice that came in, of elements that are so many cells each. -/
theorem rd_slice {α : Type} {c : α → List Value} {ok : α → Prop} {t e sz : Nat} (hu : Tryz.prog.underlying t = some (.slice e)) (hsz : Tryz.prog.cellsOf e = sz) (h0 : 0 < sz) (hcl : ∀ x, (c x).length = sz)
    (hr : ∀ (n : Nat) (cs' : List Value) (z : DataW H × List MemPlace), DataW.trod enc Tryz.prog w base spare held n e cs' = some z → ∃ x, cs' = c x ∧ ok x)
    (h : DataW.trod enc Tryz.prog w base spare held fuel t cs = some y) : ∃ A cap, ∃ l : List α, cs = [.slice A l.length cap] ∧ l.length ≤ cap ∧ cap ≤ maxLen ∧ Sl c sz w A l ∧ ∀ x ∈ l, ok x := by
  rcases open_slice hu h with ⟨rfl, -⟩ | ⟨a, len, cap, m, n, D, Pl, rfl, -, hlc, hcm, hm, -, hel⟩
  · exact ⟨none, 0, [], rfl, Nat.le_refl _, Nat.zero_le _, Sl.nil, fun x hx => by cases hx⟩
  · have hlm : len ≤ m := by rw [hm]; split <;> omega
    obtain ⟨l, hl, hx⟩ := choose_list (p := fun i x => w.cells? base (a.add (i * sz)) sz = some (c x) ∧ ok x) len fun i hi => by
      obtain ⟨cs', h1, h2⟩ := hel i (by omega)
      obtain ⟨x, rfl, hk⟩ := hr _ _ _ h2
      rw [hsz] at h1
      exact ⟨x, h1, hk⟩
    refine ⟨some a, cap, l, by rw [hl], by omega, hcm, fun k x hk => ?_, fun x hm => ?_⟩
    · obtain ⟨h1, -⟩ := hx k x hk
      obtain ⟨-, -, h2⟩ := World.cells?_some h1
      have hcell : ∀ j v, (c x)[j]? = some v → w.cell? ((a.add (k * sz)).add j) = some v := fun j v hv => by
        have hj := (List.getElem?_eq_some_iff.1 hv).1
        have := h2 j (by rw [hcl] at hj; exact hj)
        rw [this]
        exact hv
      obtain ⟨b, off, spot⟩ := a
      have hs : spot = none := by
        have hlt : 0 < l.length := by have := (List.getElem?_eq_some_iff.1 hk).1; omega
        obtain ⟨x0, hx0⟩ : ∃ x0, l[0]? = some x0 := ⟨l[0], by simp⟩
        obtain ⟨h1', -⟩ := hx 0 x0 hx0
        obtain ⟨-, -, h2'⟩ := World.cells?_some h1'
        have hv : ∃ v, (c x0)[0]? = some v := ⟨(c x0)[0]'(by rw [hcl]; exact h0), by simp⟩
        obtain ⟨v, hv⟩ := hv
        have := h2' 0 h0
        rw [hv] at this
        simp only [Nat.zero_mul, Addr.add, if_true] at this
        exact World.cell?_spot this
      subst hs
      refine ⟨b, off, rfl, fun j v hv => ?_⟩
      have := hcell j v hv
      rw [Go.WideShapes.add_plain, Go.WideShapes.add_plain] at this
      exact this
    · obtain ⟨i, hi, rfl⟩ := List.getElem_of_mem hm
      exact (hx i _ (List.getElem?_eq_getElem hi)).2
end
theorem agg_of {P : Program} {W : World} {base : Nat} {t : TypeId} {v : Value} {fs : Array Field} (hu : P.underlying t = some (.struct fs)) (h : Value.okWide P W .any base t v) : ∃ cs, v = .agg cs := by
  unfold Value.okWide at h
  rw [hu] at h
  exact ⟨_, h.choose_spec.1⟩
theorem agg_cells {cs : Array Value} {l : List Value} (h : (Value.agg cs).cells.toList = l) : Value.agg cs = .agg l.toArray := by
  rw [← h]
  simp [Value.cells]
theorem slice_of {P : Program} {W : World} {base : Nat} {t e : TypeId} {v : Value} (hu : P.underlying t = some (.slice e)) (h : Value.okWide P W .any base t v) : ∃ a m k, v = .slice a m k := by
  unfold Value.okWide at h
  simp only [hu] at h
  cases v with
  | slice a m k => exact ⟨a, m, k, rfl⟩
  | _ => simp [Cell.okWide, Cell.ok, hu] at h
theorem one_cell {v u : Value} (g : v.cells.toList = [u]) (hv : v.cells = #[v] := by rfl) : v = u := by
  rw [hv] at g
  simpa using g
end Go.Proofs.YtbdgblnccjpahaaGreatDoor
namespace Go.Proofs.YtbdgblnccjpahaaGreatDoor
open Go.ChangeShapes Go.WideShapes Go.ChangeAt Go.RowKit Go.Deep
set_option maxRecDepth 20000
theorem cSm4 : Tryz.prog.cellsOf 43 = 4 := by kernel_rfl
section
variable {H : Type} {enc : TypeId × Value → H} {w : World} {base : Nat} {spare : Nat → Bool} {held : Bool} {fuel : Nat} {cs : List Value} {y : DataW H × List MemPlace}
end
end Go.Proofs.YtbdgblnccjpahaaGreatDoor
namespace Go.Proofs.YtbdgblnccjpahaaGreatDoor
open Go.RowKit Go.Shelf
attribute [local go_sem] bl_al bl_drew bl_drewN bl_refl bx_al bx_drew bx_drewN bx_refl
set_option maxRecDepth 20000
end Go.Proofs.YtbdgblnccjpahaaGreatDoor
