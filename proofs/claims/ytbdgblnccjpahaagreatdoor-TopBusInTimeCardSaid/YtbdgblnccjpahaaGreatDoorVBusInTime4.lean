/-
  Walks: the reference's remainder of a division, and whether a list has a number.
  Walks: the demand of streams.
  Walks: common multiples of periods, overloads.
  Plain laws: the earliest deadline carries in time what can be carried in time.
  Walks: the demand and the overload of streams.
  Plain laws: demands, and what is carried in time.
  Plain laws: demands beyond a cycle, and of streams in another order.
  Plain laws: an order of the streams that grows by one at a time.
  Walks: the library's Index, Contains and Clip of numbers.
-/
import Derived.Test.YtbdgblnccjpahaaGreatDoorVBusInTime3
import Derived.Test.YtbdgblnccjpahaaGreatDoorVBusInTime2
import Derived.Test.YtbdgblnccjpahaaGreatDoorUT3
set_option linter.unusedSimpArgs false
set_option linter.unusedVariables false
namespace Go.Proofs.YtbdgblnccjpahaaGreatDoor
open Go.RowKit Go.Shelf
attribute [local go_sem] bl_al bl_drew bl_drewN bl_refl bx_al bx_drew bx_drewN bx_refl
set_option maxRecDepth 20000
set_option maxHeartbeats 2000000 in
theorem r_Has (l : List Int) (x : Int) (A : Option Addr) (c : Nat) (w : World) (hl : Sl cI 1 w A l) (hll : l.length ≤ 1000) :
    Calls Tryz.prog 13 #[.slice A l.length c, .int .i64 x] w (Ret (.bool (l.contains x)) w) := by
  have Hl := Lib.hid hl
  obtain ⟨n, Hn⟩ : ∃ n, Hid (l.length = n) := ⟨_, rfl⟩
  rw [Hn.out] at hll ⊢
  clear hl
  go_enter Tryz.func13, Tryz.ntmps13
  go_wp2
  go_loopw [5] (fun i wr => ∃ k : Nat, k ≤ n ∧ i = .int .i64 k ∧ Below w.heap.size w wr ∧ l.contains x = (l.drop k).contains x) (fun i _ => n - (intOf i).toNat)
  case atStart => exact ⟨0, Nat.zero_le _, rfl, Below.refl _ _, rfl⟩
  case round =>
    obtain ⟨k, hk, rfl, hb, hi⟩ := hrel
    replace hi := Lib.hid hi
    by_cases hlt : k < n
    · have hx : l[k]? = some (l[k]'(by rw [Hn.out]; exact hlt)) := List.getElem?_eq_getElem _
      generalize l[k]'(by rw [Hn.out]; exact hlt) = y at hx
      obtain ⟨b, off, hA, hc⟩ := Hl.out k y hx
      have c0 : wr.cell? ⟨b, off + k, none⟩ = some (.int .i64 y) := by have := kcell hb (hc 0 _ rfl); simpa using this
      have hd : Hid (l.drop k = y :: l.drop (k + 1)) := by
        have hk' := (List.getElem?_eq_some_iff.1 hx).1
        refine Lib.hid ?_
        rw [List.drop_eq_getElem_cons hk', (List.getElem?_eq_some_iff.1 hx).2]
      clear hc hx
      subst hA
      cases hyx : y == x
      · have hyx' : (x == y) = false := by rw [Bool.eq_false_iff] at hyx ⊢; intro h; exact hyx (by rw [beq_iff_eq] at h ⊢; exact h.symm)
        go_wp2
        go_roundw
        case rel => exact ⟨k + 1, by omega, by go_num, hb, by rw [hi.out, hd.out, List.contains_cons, hyx', Bool.false_or]⟩
        case measure => simp [intOf]; omega
      · have hyx' : (x == y) = true := by rw [beq_iff_eq] at hyx ⊢; exact hyx.symm
        go_wp2
        go_ret
        exact ⟨by rw [hi.out, hd.out, List.contains_cons, hyx', Bool.true_or] <;> rfl, hb⟩
    · go_wp2
      go_ret
      have : k = l.length := by have := Hn.out; omega
      exact ⟨by rw [hi.out, this]; simp, hb⟩
end Go.Proofs.YtbdgblnccjpahaaGreatDoor
namespace Go.Proofs.YtbdgblnccjpahaaGreatDoor
open Go.RowKit Go.Shelf
attribute [local go_sem] bl_al bl_drew bl_drewN bl_refl bx_al bx_drew bx_drewN bx_refl
set_option maxRecDepth 20000
/-- The demand of a stream, of streams. -/
def dmd1 (s : Sm) (t : Int) : Int := if s.dl ≤ t then s.len * (1 + (t - s.dl) / s.per) else 0
def dmK (l : List Sm) (t : Int) (k : Nat) : Int := ((l.take k).map fun s => dmd1 s t).foldl (· + ·) 0
def dmdS (l : List Sm) (t : Int) : Int := dmK l t l.length
theorem dmK_next {l : List Sm} {t : Int} {k : Nat} {x : Sm} (hx : l[k]? = some x) : dmK l t (k + 1) = dmK l t k + dmd1 x t := by
  unfold dmK
  rw [List.take_add_one, hx]
  simp [List.foldl_append]
theorem dmd1_bd {x : Sm} (hx : OkSm x) {t : Int} (h0 : 0 ≤ t) (h1 : t ≤ 10000) : 0 ≤ dmd1 x t ∧ dmd1 x t ≤ 300000 := by
  obtain ⟨h2, h3, h4, h5, h6, h7⟩ := hx
  unfold dmd1
  split
  · have ha : 0 ≤ (t - x.dl) / x.per := Int.ediv_nonneg (by omega) (by omega)
    have hb : (t - x.dl) / x.per ≤ t - x.dl := Int.ediv_le_self _ (by omega)
    have hc := Int.mul_le_mul_of_nonneg_right h7 (show 0 ≤ 1 + (t - x.dl) / x.per by omega)
    have hd := Int.mul_nonneg (show 0 ≤ x.len by omega) (show 0 ≤ 1 + (t - x.dl) / x.per by omega)
    omega
  · omega
theorem dmK_bd {l : List Sm} (hl : ∀ o ∈ l, OkSm o) {t : Int} (h0 : 0 ≤ t) (h1 : t ≤ 10000) : ∀ k : Nat, k ≤ l.length → 0 ≤ dmK l t k ∧ dmK l t k ≤ k * 300000
  | 0, _ => by simp [dmK]
  | k + 1, h => by
    have ih := dmK_bd hl h0 h1 k (by omega)
    have hx := List.getElem?_eq_getElem (show k < l.length by omega)
    have := dmd1_bd (hl _ (List.getElem_mem (show k < l.length by omega))) h0 h1
    rw [dmK_next hx]
    omega
theorem dmd1_yes {x : Sm} {t : Int} (h : x.dl ≤ t) : dmd1 x t = x.len * (1 + (t - x.dl) / x.per) := by rw [dmd1, if_pos h]
theorem dmd1_no {x : Sm} {t : Int} (h : ¬ x.dl ≤ t) : dmd1 x t = 0 := by rw [dmd1, if_neg h]
set_option maxHeartbeats 2000000 in
theorem c_demand (l : List Sm) (t : Int) (A : Option Addr) (c : Nat) (w : World) (hs : Sl cSm 4 w A l) (hl : l.length ≤ 6) (hok : ∀ o ∈ l, OkSm o) (h0 : 0 ≤ t) (h1 : t ≤ 10000) :
    Calls Tryz.prog 66 #[.slice A l.length c, .int .i64 t] w (Ret (.int .i64 (dmdS l t)) w) := by
  have Hs := Lib.hid hs
  have hbd := Lib.hid fun k hk => dmK_bd hok h0 h1 k hk
  have hnx := Lib.hid fun k x (hx : l[k]? = some x) => dmK_next (t := t) hx
  have hok' := Lib.hid fun k x (hx : l[k]? = some x) => hok x (List.mem_of_getElem? hx)
  have hz : Hid (dmK l t 0 = 0) := rfl
  have hend : Hid (dmK l t l.length = dmdS l t) := rfl
  clear hs hok
  obtain ⟨g, hg⟩ : ∃ g : Nat → Int, ∀ k, dmK l t k = g k := ⟨_, fun _ => rfl⟩
  simp only [hg] at hbd hnx hz hend
  clear hg
  obtain ⟨n, Hn⟩ : ∃ n, Hid (l.length = n) := ⟨_, rfl⟩
  rw [Hn.out] at hl hbd hend ⊢
  go_enter Tryz.func66, Tryz.ntmps66
  go_wp2
  go_loopw [5, 10] (fun s i wr => ∃ k : Nat, k ≤ n ∧ i = .int .i64 k ∧ s = .int .i64 (g k) ∧ Below w.heap.size w wr) (fun _ i _ => n - (intOf i).toNat)
  case atStart => exact ⟨0, Nat.zero_le _, rfl, by rw [hz.out], Below.refl _ _⟩
  case round =>
    obtain ⟨k, hk, rfl, rfl, hb0⟩ := hrel
    by_cases hkn : k < n
    · have hx : l[k]? = some (l[k]'(by rw [Hn.out]; exact hkn)) := List.getElem?_eq_getElem _
      generalize l[k]'(by rw [Hn.out]; exact hkn) = x at hx
      have ho := hok'.out k x hx
      have hst := hnx.out k x hx
      have hb1 := hbd.out k (by omega)
      have hb2 := hbd.out (k + 1) (by omega)
      have htm := dmd1_bd ho h0 h1
      obtain ⟨hp1, hp2, hp3, hp4, hp5, hp6⟩ := ho
      obtain ⟨b, off, rfl, hc⟩ := (Hs.out.below hb0) k x hx
      have c0 := hc 0 _ rfl
      have c1 := hc 1 _ rfl
      have c2 := hc 2 _ rfl
      have c3 := hc 3 _ rfl
      simp only [Nat.add_zero] at c0
      clear hc hx
      have hqw := hb0.size
      by_cases hdl : x.dl ≤ t
      · rw [dmd1_yes hdl] at htm hst
        have hst' := Lib.hid hst
        have hq1 : 0 ≤ (t - x.dl) / x.per := Int.ediv_nonneg (by omega) (by omega)
        have hq2 : (t - x.dl) / x.per ≤ t - x.dl := Int.ediv_le_self _ (by omega)
        have hp0 : ¬ x.per = 0 := by omega
        rw [hst] at hb2
        clear hst
        go_upto_region 6 with fail
        first
        | apply absB1 (w0 := w) (g0 := wr.heap.size)
        | apply absTB1 (w0 := w) (g0 := wr.heap.size)
        | apply absIB1 (w0 := w) (g0 := wr.heap.size)
        iterate 2 (focus exact zL)
        try clear hb3
        try clear hb0
        try clear k1
        intro wb hb0 k1
        (try simp only [List.setIfInBounds_toArray, List.set_cons_zero, List.set_cons_succ] at k1)
        clear c0 c1 c2 c3
        have Lk1 := k1.later
        have Fk1 := k1.laterF
        have Qk1 := k1.lt
        refine wp_any (w0 := wb) ⟨[13], [], [some 18, some 19, some 20, some 21, some 22, some 23, some 24, some 25, some 26, some 27, some 28, some 29, some 30, none], [[], [], [1], [], [], [4], [3, 4, 5], [], [7], [3, 4, 5, 6, 7, 8], [3, 4, 5, 6, 7, 8, 9], [1, 2, 3, 4, 5, 6, 7, 8, 9, 10], [0, 1, 2, 3, 4, 5, 6, 7, 8, 9, 10, 11], [0, 1, 2, 3, 4, 5, 6, 7, 8, 9, 10, 11, 12]], [[], [], [1], [], [], [4], [3, 5], [], [7], [6, 8], [9], [2, 10], [0, 11], []]⟩ (fun _ => []) (by kernel_rfl) (by kernel_rfl) (by (exact zE)) (fun u => by simp only [putD, Act.put, List.setIfInBounds_toArray, List.set_cons_zero, List.set_cons_succ, Nat.zero_add, Nat.reduceAdd]; rfl) ?_
        apply RGW.on (i := 0) rfl
        · exact zG
        · intro γ u W hcur hd
          clear hd
          (try dsimp only)
          exact ⟨rfl, zS⟩
        · exact zC
        · rfl
        dsimp only [nA, cA]
        apply RGW.on (i := 1) rfl
        · exact zG
        · intro γ u W hcur hd
          clear hd
          (try dsimp only)
          exact ⟨rfl, zS⟩
        · exact zC
        · rfl
        dsimp only [nA, cA]
        apply RGW.on (i := 2) rfl
        · exact zG
        · intro γ u W hcur hd
          obtain ⟨⟨h1, -, -⟩, -⟩ := hd
          dsimp only at h1
          (try simp only [h1])
          exact ⟨rfl, zS⟩
        · exact zC
        · rfl
        dsimp only [nA, cA]
        apply RGW.on (i := 3) rfl
        · exact zG
        · intro γ u W hcur hd
          clear hd
          (try dsimp only)
          exact ⟨rfl, zS⟩
        · exact zC
        · rfl
        dsimp only [nA, cA]
        apply RGW.on (i := 4) rfl
        · exact zG
        · intro γ u W hcur hd
          clear hd
          (try dsimp only)
          exact ⟨rfl, zS⟩
        · exact zC
        · rfl
        dsimp only [nA, cA]
        apply RGW.on (i := 5) rfl
        · exact zG
        · intro γ u W hcur hd
          obtain ⟨⟨h4, -, -⟩, -⟩ := hd
          dsimp only at h4
          (try simp only [h4])
          exact ⟨rfl, zS⟩
        · exact zC
        · rfl
        dsimp only [nA, cA]
        apply RGW.on (i := 6) rfl
        · exact zG
        · intro γ u W hcur hd
          obtain ⟨⟨h3, -, -⟩, ⟨h5, -, -⟩, -⟩ := hd
          dsimp only at h3 h5
          (try simp only [h3, h5])
          exact ⟨rfl, zS⟩
        · exact zC
        · rfl
        dsimp only [nA, cA]
        apply RGW.on (i := 7) rfl
        · exact zG
        · intro γ u W hcur hd
          clear hd
          (try dsimp only)
          exact ⟨rfl, zS⟩
        · exact zC
        · rfl
        dsimp only [nA, cA]
        apply RGW.on (i := 8) rfl
        · exact zG
        · intro γ u W hcur hd
          obtain ⟨⟨h7, -, -⟩, -⟩ := hd
          dsimp only at h7
          (try simp only [h7])
          exact ⟨rfl, zS⟩
        · exact zC
        · rfl
        dsimp only [nA, cA]
        apply RGW.on (i := 9) rfl
        · exact zG
        · intro γ u W hcur hd
          obtain ⟨⟨h6, -, -⟩, ⟨h8, -, -⟩, -⟩ := hd
          dsimp only at h6 h8
          (try simp only [h6, h8])
          exact ⟨rfl, zS⟩
        · exact zC
        · rfl
        dsimp only [nA, cA]
        apply RGW.on (i := 10) rfl
        · exact zG
        · intro γ u W hcur hd
          obtain ⟨⟨h9, -, -⟩, -⟩ := hd
          dsimp only at h9
          (try simp only [h9])
          exact ⟨rfl, zS⟩
        · exact zC
        · rfl
        dsimp only [nA, cA]
        apply RGW.on (i := 11) rfl
        · exact zG
        · intro γ u W hcur hd
          obtain ⟨⟨h2, -, -⟩, ⟨h10, -, -⟩, -⟩ := hd
          dsimp only at h2 h10
          (try simp only [h2, h10])
          exact ⟨rfl, zS⟩
        · exact zC
        · rfl
        dsimp only [nA, cA]
        apply RGW.on (i := 12) rfl
        · exact zG
        · intro γ u W hcur hd
          obtain ⟨⟨h0, -, -⟩, ⟨h11, -, -⟩, -⟩ := hd
          dsimp only at h0 h11
          (try simp only [h0, h11])
          exact ⟨rfl, zS⟩
        · exact zC
        · rfl
        dsimp only [nA, cA]
        refine RGW.skip (i := 13) rfl rfl ?_
        dsimp only [nA, cA]
        refine RGW.fin (fun γ u wc hwc hd hdis => ?_)
        obtain ⟨⟨h0, -, -⟩, ⟨h1, -, -⟩, ⟨h2, -, -⟩, ⟨h3, -, -⟩, ⟨h4, -, -⟩, ⟨h5, -, -⟩, ⟨h6, -, -⟩, ⟨h7, -, -⟩, ⟨h8, -, -⟩, ⟨h9, -, -⟩, ⟨h10, -, -⟩, ⟨h11, -, -⟩, ⟨h12, -, -⟩, -⟩ := hd
        dsimp only at h0 h1 h2 h3 h4 h5 h6 h7 h8 h9 h10 h11 h12
        clear hdis
        simp only [h0, h1, h2, h3, h4, h5, h6, h7, h8, h9, h10, h11, h12]
        clear h12 h11 h10 h9 h8 h7 h6 h5 h4 h3 h2 h1 h0
        clear u
        simp only [List.map_cons, List.map_nil]
        apply PlanW.step
        · exact zG
        · rfl
        intro K hK
        go_simp
        refine hK.out _ _ (by with_reducible first | assumption | exact bx_refl _ _) (fun hcur => ?_)
        clear hK K
        try simp only [Act.put, List.setIfInBounds_toArray, List.set_cons_zero, List.set_cons_succ]
        refine PlanW.done ?_
        have hb3 := bl_tt hwc
        have hbw := hb3 _ hb0
        clear Lk1 Fk1
        go_wp2
        go_roundw
        case rel => exact ⟨k + 1, by omega, by go_num, by rw [hst'.out], hbw⟩
        case measure => simp [intOf]; omega
      · rw [dmd1_no hdl] at hst
        have hst' := Lib.hid hst
        clear hst
        go_upto_region 5 with fail
        first
        | apply absB1 (w0 := w) (g0 := wr.heap.size)
        | apply absTB1 (w0 := w) (g0 := wr.heap.size)
        | apply absIB1 (w0 := w) (g0 := wr.heap.size)
        iterate 2 (focus exact zL)
        try clear hb3
        try clear hb0
        try clear k1
        intro wb hb0 k1
        (try simp only [List.setIfInBounds_toArray, List.set_cons_zero, List.set_cons_succ] at k1)
        clear c0 c1 c2 c3
        have L1 := k1.cell
        go_wp2
        go_roundw
        case rel => exact ⟨k + 1, by omega, by go_num, by rw [hst'.out]; simp, hb0⟩
        case measure => simp [intOf]; omega
    · have e : k = n := by omega
      go_wp2
      go_ret
      exact ⟨by rw [e, hend.out] <;> rfl, hb0⟩
end Go.Proofs.YtbdgblnccjpahaaGreatDoor
namespace Go.Proofs.YtbdgblnccjpahaaGreatDoor
open Go.RowKit Go.Shelf
attribute [local go_sem] bl_al bl_drew bl_drewN bl_refl bx_al bx_drew bx_drewN bx_refl
set_option maxRecDepth 20000
theorem gcd_step {x y : Nat} (h : y ≠ 0) : Nat.gcd x y = Nat.gcd y (x % y) := by
  rw [Nat.gcd_comm x y, Nat.gcd_rec y x, Nat.gcd_comm]
set_option maxHeartbeats 1000000 in
theorem c_divisor (a b : Nat) (w : World) (ha : a ≤ 1000000000) (hb : b ≤ 1000000000) : Calls Tryz.prog 65 #[.int .i64 (a : Nat), .int .i64 (b : Nat)] w (Ret (.int .i64 (Nat.gcd a b : Nat)) w) := by
  obtain ⟨g, hg⟩ : ∃ g, Hid (Nat.gcd a b = g) := ⟨_, rfl⟩
  rw [hg.out]
  go_enter Tryz.func65, Tryz.ntmps65
  go_wp2
  go_loopw [0, 1] (fun u v wr => ∃ x y : Nat, u = .int .i64 x ∧ v = .int .i64 y ∧ x ≤ 1000000000 ∧ y ≤ 1000000000 ∧ Nat.gcd x y = g ∧ Below w.heap.size w wr) (fun _ v _ => (intOf v).toNat)
  case atStart => exact ⟨a, b, rfl, rfl, ha, hb, hg.out, Below.refl _ _⟩
  case round =>
    obtain ⟨x, y, rfl, rfl, hx, hy, hgc, hb0⟩ := hrel
    by_cases h0 : y = 0
    · subst h0
      have e : Hid (x = g) := Lib.hid (by rw [← hgc, Nat.gcd_zero_right])
      clear hgc
      go_wp2
      go_ret
      exact ⟨by rw [e.out] <;> rfl, hb0⟩
    · have h0' : ((y : Int) != 0) = true := by simp; omega
      have h1 : ¬ (y : Int) = 0 := by omega
      have hst := Lib.hid ((gcd_step (x := x) h0).symm.trans hgc)
      have hm : (x : Int) % y = ((x % y : Nat) : Int) := by simp
      have hlt := Nat.mod_lt x (Nat.pos_of_ne_zero h0)
      generalize x % y = z at *
      clear hgc
      go_upto_region 2 with fail
      refine wp_any (w0 := wr) ⟨[4, 5], [2, 3], [some 7, some 8, some 9, some 10, none, none], [[], [], [], [1, 2], [0, 1], [0, 1, 2, 3, 4]], [[], [], [], [1, 2], [], []]⟩ (fun _ => []) (by kernel_rfl) (by kernel_rfl) (by (exact zE)) (fun u => by simp only [putD, Act.put, List.setIfInBounds_toArray, List.set_cons_zero, List.set_cons_succ, Nat.zero_add, Nat.reduceAdd]; rfl) ?_
      apply RGW.on (i := 0) rfl
      · exact zG
      · intro γ u W hcur hd
        clear hd
        (try dsimp only)
        exact ⟨rfl, zS⟩
      · exact zC
      · rfl
      dsimp only [nA, cA]
      apply RGW.on (i := 1) rfl
      · exact zG
      · intro γ u W hcur hd
        clear hd
        (try dsimp only)
        exact ⟨rfl, zS⟩
      · exact zC
      · rfl
      dsimp only [nA, cA]
      apply RGW.onL (i := 2) rfl
      · exact zG
      · intro γ u Wm W hcur hd hX
        clear hd
        (try dsimp only)
        exact ⟨rfl, zS⟩
      · exact zC
      dsimp only [nA, cA]
      apply RGW.onL (i := 3) rfl
      · exact zG
      · intro γ u Wm W hcur hd hX
        obtain ⟨⟨h1, -, -⟩, ⟨h2, -, -⟩, -⟩ := hd
        dsimp only at h1 h2
        (try simp only [h1, h2])
        exact ⟨rfl, zS⟩
      · exact zC
      dsimp only [nA, cA]
      refine RGW.skip (i := 4) rfl rfl ?_
      dsimp only [nA, cA]
      refine RGW.skip (i := 5) rfl rfl ?_
      dsimp only [nA, cA]
      refine RGW.fin (fun γ u wj hwj hd hdis => ?_)
      obtain ⟨⟨h0, -, -⟩, ⟨h1, -, -⟩, ⟨h2, -, -⟩, ⟨h3, -, -⟩, -⟩ := hd
      dsimp only at h0 h1 h2 h3
      clear hdis
      simp only [h0, h1, h2, h3]
      clear h3 h2 h1 h0
      clear u
      simp only [List.map_cons, List.map_nil]
      apply PlanW.step
      · exact zG
      · rfl
      intro K hK
      go_simp
      refine hK.out _ _ (by with_reducible first | assumption | exact bx_refl _ _) (fun hcur => ?_)
      clear hK K
      try simp only [Act.put, List.setIfInBounds_toArray, List.set_cons_zero, List.set_cons_succ]
      apply PlanW.step
      · exact zG
      · rfl
      intro K hK
      go_simp
      refine hK.out _ _ (by with_reducible first | assumption | exact bx_refl _ _) (fun hcur => ?_)
      clear hK K
      try simp only [Act.put, List.setIfInBounds_toArray, List.set_cons_zero, List.set_cons_succ]
      refine PlanW.done ?_
      have hb3 := bl_tt hwj
      have hbj := bl_tr hb0 hwj
      go_wp2
      go_roundw
      case rel => exact ⟨y, z, by go_num, by simp [hm], hy, by omega, hst.out, hbj⟩
      case measure => simp [intOf, hm]; omega
/-- The smallest common multiple of periods, as long as it is small. -/
def cyS : List Sm → Nat → Option Nat
  | [], n => some n
  | s :: l, n => if 5000 < n / Nat.gcd n s.per.toNat * s.per.toNat then none else cyS l (n / Nat.gcd n s.per.toNat * s.per.toNat)
theorem cyS_drop {l : List Sm} {k : Nat} {x : Sm} (hx : l[k]? = some x) (n : Nat) : cyS (l.drop k) n = if 5000 < n / Nat.gcd n x.per.toNat * x.per.toNat then none else cyS (l.drop (k + 1)) (n / Nat.gcd n x.per.toNat * x.per.toNat) := by
  have hk := (List.getElem?_eq_some_iff.1 hx).1
  rw [List.drop_eq_getElem_cons hk, (List.getElem?_eq_some_iff.1 hx).2]
  rfl
/-- The first number at which a demand is too great. -/
def ovF (f : Int → Int) : Nat → Nat → Option Nat
  | 0, _ => none
  | d + 1, t => if (t : Int) < f t then some t else ovF f d (t + 1)
def ovS (l : List Sm) (c : Nat) : Option Nat := ovF (dmdS l) c 1
theorem cy_step {n p : Nat} (hn : 1 ≤ n) (hn2 : n ≤ 5000) (hp : 1 ≤ p) (hp2 : p ≤ 60) : 1 ≤ n / Nat.gcd n p * p ∧ n / Nat.gcd n p * p ≤ 300000 ∧ 1 ≤ Nat.gcd n p ∧ n / Nat.gcd n p ≤ 5000 := by
  have hg : 0 < Nat.gcd n p := Nat.gcd_pos_of_pos_left _ (by omega)
  have h1 : Nat.gcd n p ≤ n := Nat.gcd_le_left _ (by omega)
  have h2 : 0 < n / Nat.gcd n p := Nat.div_pos h1 hg
  have h3 : n / Nat.gcd n p ≤ n := Nat.div_le_self _ _
  have h4 : n / Nat.gcd n p * p ≤ 5000 * 60 := Nat.mul_le_mul (by omega) hp2
  have h5 : 1 * 1 ≤ n / Nat.gcd n p * p := Nat.mul_le_mul (by omega) hp
  omega
end Go.Proofs.YtbdgblnccjpahaaGreatDoor
namespace Go.Proofs.YtbdgblnccjpahaaGreatDoor
/-- How much waits of a queue's messages that were sent at a tick at the latest. -/
def sumLD (c : Int) : List (Int × Int) → Int
  | [] => 0
  | x :: l => (if x.1 ≤ c then x.2 else 0) + sumLD c l
theorem sumLD_app (c : Int) : ∀ a b : List (Int × Int), sumLD c (a ++ b) = sumLD c a + sumLD c b
  | [], b => by simp [sumLD]
  | x :: a, b => by
    rw [List.cons_append, sumLD, sumLD, sumLD_app c a b]
    omega
theorem sumLD_none {c : Int} : ∀ {l : List (Int × Int)}, (∀ x ∈ l, c < x.1) → sumLD c l = 0
  | [], _ => rfl
  | y :: l, h => by
    have h1 := h y (by simp)
    rw [sumLD, if_neg (by omega), sumLD_none fun z hz => h z (by simp [hz])]
    rfl
theorem sumLD_all {c : Int} : ∀ {l : List (Int × Int)}, (∀ x ∈ l, x.1 ≤ c) → sumLD c l = sumL l
  | [], _ => rfl
  | y :: l, h => by
    rw [sumLD, if_pos (h y (by simp)), sumLD_all fun z hz => h z (by simp [hz]), sumL]
/-- What holds of the queues at each tick, whatever is chosen. -/
structure QOk (n : Nat) (t : Int) (q : Nat → List (Int × Int)) : Prop where
  good : GoodQ t q
  none : ∀ k, n ≤ k → q k = []
  srt : ∀ k, (q k).Pairwise fun x y => x.1 < y.1
theorem qok_send {l : List Sm} {st : List Int} {t : Int} {q : Nat → List (Int × Int)} (hl : ∀ s ∈ l, OkSm s) (ht : 0 ≤ t) (h : QOk l.length t q) : QOk l.length (t + 1) (sendS l st t q) := by
  refine ⟨good_send hl ht h.good, fun k hk => by rw [sendS_out hk]; exact h.none k hk, fun k => ?_⟩
  unfold sendS
  split
  · rw [List.pairwise_append]
    refine ⟨h.srt k, by simp, fun a ha b hb => ?_⟩
    have hb := List.mem_singleton.1 hb
    subst hb
    exact (h.good k a ha).2.2
  · exact h.srt k
theorem qok_tick {n : Nat} {t u : Int} {q : Nat → List (Int × Int)} {wo : Nat → Int} {s : Ss} {o : Int} (h : QOk n u q) (hk : Tick t q wo s o) : QOk n u s.q := by
  refine ⟨good_tick h.good hk, fun k hkn => ?_, fun k => ?_⟩
  · have h0 := h.none k hkn
    cases hk with
    | idle => exact h0
    | last i a r e =>
      show upF q i r k = []
      by_cases hki : k = i
      · subst hki; rw [h0] at e; cases e
      · rw [upF_other _ _ hki]; exact h0
    | more i a m r e h1 =>
      show upF q i ((a, m - 1) :: r) k = []
      by_cases hki : k = i
      · subst hki; rw [h0] at e; cases e
      · rw [upF_other _ _ hki]; exact h0
  · have h0 := h.srt k
    cases hk with
    | idle => exact h0
    | last i a r e =>
      show (upF q i r k).Pairwise _
      by_cases hki : k = i
      · subst hki
        rw [upF_same]
        rw [e] at h0
        exact (List.pairwise_cons.1 h0).2
      · rw [upF_other _ _ hki]; exact h0
    | more i a m r e h1 =>
      show (upF q i ((a, m - 1) :: r) k).Pairwise _
      by_cases hki : k = i
      · subst hki
        rw [upF_same]
        rw [e] at h0
        exact List.pairwise_cons.2 (List.pairwise_cons.1 h0)
      · rw [upF_other _ _ hki]; exact h0
/-- A chooser chooses none, or a stream of which a message waits. -/
def Cr (ch : (Nat → List (Int × Int)) → Int) : Prop := ∀ q, ch q = -1 ∨ ∃ j : Nat, ch q = j ∧ q j ≠ []
section
variable {ch : (Nat → List (Int × Int)) → Int} {l : List Sm} {st : List Int}
theorem ran_tick (hc : Cr ch) (t : Nat) : Tick t (sendS l st t (runS ch l st t).1.q) (runS ch l st t).1.wo (runS ch l st (t + 1)).1 (carS ch l st t (runS ch l st t).1).2 ∧ (carS ch l st t (runS ch l st t).1).2 = ch (sendS l st t (runS ch l st t).1.q) :=
  car_tick l st t (runS ch l st t).1 (hc _)
theorem qok_run (hc : Cr ch) (h : SOk l st) : ∀ t : Nat, QOk l.length t (runS ch l st t).1.q
  | 0 => ⟨fun i x hx => by simp [runS, ss0] at hx, fun _ _ => rfl, fun _ => by simp [runS, ss0]⟩
  | t + 1 => by
    have := qok_tick (qok_send (st := st) (t := t) h.sm (by omega) (qok_run hc h t)) (ran_tick hc t).1
    rw [show ((t + 1 : Nat) : Int) = (t : Int) + 1 by omega]
    exact this
/-- What waits and what was carried is what was sent. -/
theorem cons_run (hc : Cr ch) (k : Nat) : ∀ t : Nat, sumL ((runS ch l st t).1.q k) + ((runS ch l st t).2.count (k : Int) : Nat) = cum l st k t
  | 0 => rfl
  | t + 1 => by
    have ih := cons_run hc k t
    have h1 := sum1_tick (ran_tick (l := l) (st := st) hc t).1 k
    rw [send_sum] at h1
    have h2 : ((runS ch l st (t + 1)).2.count (k : Int) : Int) = ((runS ch l st t).2.count (k : Int) : Nat) + if (carS ch l st t (runS ch l st t).1).2 = k then 1 else 0 := by
      show (((runS ch l st t).2 ++ [(carS ch l st t (runS ch l st t).1).2]).count (k : Int) : Int) = _
      rw [List.count_append, List.count_singleton]
      by_cases e : (carS ch l st t (runS ch l st t).1).2 = k <;> simp [e]
    rw [h1, h2, cum]
    omega
theorem send_sumD (l : List Sm) (st : List Int) (t c : Int) (q : Nat → List (Int × Int)) (k : Nat) : sumLD c (sendS l st t q k) = sumLD c (q k) + if t ≤ c then arr l st t k else 0 := by
  unfold sendS arr
  by_cases h : relB l st t k = true
  · rw [if_pos h, if_pos h, sumLD_app]
    simp [sumLD]
  · rw [if_neg h, if_neg h]
    simp
theorem sumD_tick {t : Int} {q : Nat → List (Int × Int)} {wo : Nat → Int} {s : Ss} {o : Int} (hk : Tick t q wo s o) :
    (o = -1 ∧ s.q = q) ∨ ∃ (i : Nat) (a f : Int) (r : List (Int × Int)), o = i ∧ q i = (a, f) :: r ∧ ∀ (c : Int) (k : Nat), sumLD c (s.q k) = sumLD c (q k) - if k = i ∧ a ≤ c then 1 else 0 := by
  cases hk with
  | idle => exact .inl ⟨rfl, rfl⟩
  | last i a r e =>
    refine .inr ⟨i, a, 1, r, rfl, e, fun c k => ?_⟩
    show sumLD c (upF q i r k) = _
    by_cases h : k = i
    · subst h
      rw [upF_same, e, sumLD]
      by_cases h2 : a ≤ c <;> simp [h2] <;> omega
    · rw [upF_other _ _ h, if_neg (fun e => h e.1)]
      omega
  | more i a m r e h1 =>
    refine .inr ⟨i, a, m, r, rfl, e, fun c k => ?_⟩
    show sumLD c (upF q i ((a, m - 1) :: r) k) = _
    by_cases h : k = i
    · subst h
      rw [upF_same, e, sumLD, sumLD]
      by_cases h2 : a ≤ c <;> simp [h2] <;> omega
    · rw [upF_other _ _ h, if_neg (fun e => h e.1)]
      omega
/-- How much waits of what was sent from a tick on. -/
theorem late_run (hc : Cr ch) (h : SOk l st) (k c : Nat) : ∀ d : Nat, sumL ((runS ch l st (c + d)).1.q k) - sumLD (c - 1) ((runS ch l st (c + d)).1.q k) ≤ cum l st k (c + d) - cum l st k c
  | 0 => by
    have := (qok_run (l := l) (st := st) hc h c).good k
    rw [Nat.add_zero, sumLD_all fun x hx => by have := this x hx; omega]
    omega
  | d + 1 => by
    have ih := late_run hc h k c d
    have hcd : c ≤ c + d := by omega
    rw [show c + (d + 1) = (c + d) + 1 from rfl]
    generalize c + d = t at *
    have hk := (ran_tick (l := l) (st := st) hc t).1
    have h1 := sum1_tick hk k
    rw [send_sum] at h1
    have h2 := send_sumD l st t ((c : Int) - 1) (runS ch l st t).1.q k
    rw [if_neg (by omega)] at h2
    rw [cum]
    rcases sumD_tick hk with ⟨e1, e2⟩ | ⟨i, a, f, r, e1, -, e2⟩
    · rw [e1, if_neg (by omega)] at h1
      rw [h1, e2, h2]
      omega
    · have := e2 ((c : Int) - 1) k
      rw [h1, this, h2, e1]
      by_cases h3 : k = i
      · subst h3
        rw [if_pos rfl]
        split <;> omega
      · rw [if_neg (by omega), if_neg (fun e => h3 e.1)]
        omega
/-- Of a stream of which nothing old waits so much was carried. -/
theorem cnt_ge (hc : Cr ch) (h : SOk l st) (k c D : Nat) (hcD : c ≤ D) (hx : ∀ x ∈ (runS ch l st D).1.q k, (c : Int) ≤ x.1) : cum l st k c ≤ ((runS ch l st D).2.count (k : Int) : Nat) := by
  have h1 := cons_run (l := l) (st := st) hc k D
  have h2 := late_run (l := l) (st := st) hc h k c (D - c)
  rw [show c + (D - c) = D by omega, sumLD_none fun x hm => by have := hx x hm; omega] at h2
  omega
/-- How much of what is carried is of the first streams. -/
theorem cnt_sum (o : List Int) : ∀ n : Nat, wt (fun k => (o.count (k : Int) : Nat)) n ≤ o.length := by
  intro n
  have key : ∀ (n : Nat), wt (fun k => (o.count (k : Int) : Nat)) n = ((o.filter fun x : Int => decide (0 ≤ x ∧ x < (n : Int))).length : Nat) := by
    intro n
    induction o with
    | nil => simp [wt_zero]
    | cons x o ih =>
      have e : ∀ k : Nat, (((x :: o).count (k : Int) : Nat) : Int) = ((o.count (k : Int) : Nat) : Int) + if x = k then 1 else 0 := fun k => by
        rw [List.count_cons]
        by_cases e : x = k <;> simp [e]
      rw [wt_congr fun k _ => e k, wt_add, ih]
      have e2 : wt (fun k : Nat => if x = k then 1 else 0) n = if 0 ≤ x ∧ x < n then 1 else 0 := by
        clear ih e
        induction n with
        | zero => rw [wt, if_neg (by omega)]
        | succ n ih2 =>
          rw [wt, ih2]
          by_cases h1 : x = n
          · rw [if_pos h1, if_neg (by omega), if_pos (by omega)]
            rfl
          · rw [if_neg h1]
            by_cases h2 : 0 ≤ x ∧ x < n
            · rw [if_pos h2, if_pos (by omega)]
              rfl
            · rw [if_neg h2, if_neg (by omega)]
              rfl
      rw [e2]
      by_cases h1 : 0 ≤ x ∧ x < n
      · rw [if_pos h1, List.filter_cons_of_pos (by simpa using h1)]
        simp
      · rw [if_neg h1, List.filter_cons_of_neg (by simpa using h1)]
        simp
  rw [key]
  have := List.length_filter_le (fun x => decide (0 ≤ x ∧ x < (n : Int))) o
  omega
end
/-! ### By deadlines. -/
theorem cr_prio : Cr prioS := fun q => by
  rcases prio_spec q with ⟨h, _⟩ | ⟨j, h, _, h1, _⟩
  · exact .inl h
  · exact .inr ⟨j, h, h1⟩
end Go.Proofs.YtbdgblnccjpahaaGreatDoor
namespace Go.Proofs.YtbdgblnccjpahaaGreatDoor
open Go.RowKit Go.Shelf
attribute [local go_sem] bl_al bl_drew bl_drewN bl_refl bx_al bx_drew bx_drewN bx_refl
set_option maxRecDepth 20000
/-- The overload, and the error. -/
def ovR (l : List Sm) : Int × Int :=
  if smsErr l = 0 then (match cyS l 1 with
    | none => (0, 8)
    | some n => match ovS l n with
      | none => (0, 12)
      | some t => ((t : Int), 0)) else (0, smsErr l)
set_option maxHeartbeats 4000000 in
theorem c_OverloadIn (l : List Sm) (A : Option Addr) (c : Nat) (w : World) (hn : SmIn l A c w) :
    Calls Tryz.prog 19 #[.slice A l.length c] w (Ret (.tuple #[.int .i64 (ovR l).1, .int .i64 (ovR l).2]) w) := by
  have hse := Lib.hid (c_streamsErr l A c w hn)
  have h1 : Hid (smsErr l ≠ 0 → ovR l = (0, smsErr l)) := fun h => by rw [ovR, if_neg h]
  have h2 : Hid (smsErr l = 0 → cyS l 1 = none → ovR l = (0, 8)) := fun h h' => by rw [ovR, if_pos h, h']
  have h3 : Hid (∀ n, smsErr l = 0 → cyS l 1 = some n → ovS l n = none → ovR l = (0, 12)) := fun n h h' h'' => by rw [ovR, if_pos h, h']; simp [h'']
  have h4 : Hid (∀ n t, smsErr l = 0 → cyS l 1 = some n → ovS l n = some t → ovR l = ((t : Int), 0)) := fun n t h h' h'' => by rw [ovR, if_pos h, h']; simp [h'']
  have hok := Lib.hid fun h : smsErr l = 0 => sms_ok h
  have Hs := Lib.hid hn.sl
  have hdm := Lib.hid fun (h : smsErr l = 0) (t : Nat) (ht : t ≤ 5000) W (hb : Below w.heap.size w W) => c_demand l t A c W (hn.sl.below hb) (sms_ok h).2.1 (fun s hs => ((sms_ok h).2.2 s hs).1) (by omega) (by omega)
  have hst := Lib.hid fun k x (hx : l[k]? = some x) n => cyS_drop hx n
  have hend : Hid (∀ n, cyS (l.drop l.length) n = some n) := fun n => by rw [List.drop_length]; rfl
  clear hn
  obtain ⟨g, hg⟩ : ∃ g : Nat → Nat → Option Nat, ∀ k n, cyS (l.drop k) n = g k n := ⟨_, fun _ _ => rfl⟩
  have hg0 : cyS l 1 = g 0 1 := hg 0 1
  rw [hg0] at h2 h3 h4
  simp only [hg] at hst hend
  clear hg hg0
  have hdef : Hid (∀ cy, ovS l cy = ovF (dmdS l) (cy + 1 - 1) 1) := fun _ => rfl
  obtain ⟨ov, ho⟩ : ∃ ov : Nat → Option Nat, ∀ n, ovS l n = ov n := ⟨_, fun _ => rfl⟩
  simp only [ho] at h3 h4 hdef
  clear ho
  generalize dmdS l = f at *
  generalize ovR l = R at *
  generalize smsErr l = E at *
  obtain ⟨n, Hn⟩ : ∃ n, Hid (l.length = n) := ⟨_, rfl⟩
  rw [Hn.out] at hse hok hdm hend ⊢
  go_enter Tryz.func19, Tryz.ntmps19
  go_wp2_with fail
  refine hse.out.mono ?_
  rintro e wa ⟨rfl, hb0⟩
  by_cases h0 : E = 0
  rotate_left
  · have h0' : (E != 0) = true := by simp [h0]
    have hs := Lib.hid (h1.out h0)
    replace h0 := Lib.hid h0
    go_wp2
    go_ret2
    exact ⟨by rw [hs.out] <;> rfl, hb0⟩
  have h0' : (E != 0) = false := by simp [h0]
  obtain ⟨hn1, hn6, hok1⟩ := hok.out h0
  have hdm1 := Lib.hid (hdm.out h0)
  have h2' := Lib.hid (h2.out h0)
  have h3' := Lib.hid fun n => h3.out n h0
  have h4' := Lib.hid fun n t => h4.out n t h0
  have hok' := Lib.hid fun k x (hx : l[k]? = some x) => (hok1 x (List.mem_of_getElem? hx)).1
  clear hse h1 h2 h3 h4 hok hdm hok1
  subst h0
  go_wp2
  go_loopw [5, 16] (fun s i wr => ∃ k v : Nat, k ≤ n ∧ i = .int .i64 k ∧ s = .int .i64 v ∧ 1 ≤ v ∧ v ≤ 5000 ∧ g 0 1 = g k v ∧ Below w.heap.size w wr) (fun _ i _ => n - (intOf i).toNat)
  case atStart => exact ⟨0, 1, Nat.zero_le _, rfl, rfl, by omega, by omega, rfl, hb0⟩
  case round =>
    clear hb0
    obtain ⟨k, v, hk, rfl, rfl, hv1, hv2, hi, hb0⟩ := hrel
    replace hi := Lib.hid hi
    by_cases hkn : k < n
    · have hx : l[k]? = some (l[k]'(by rw [Hn.out]; exact hkn)) := List.getElem?_eq_getElem _
      generalize l[k]'(by rw [Hn.out]; exact hkn) = x at hx
      have ho := hok'.out k x hx
      have hs := hst.out k x hx v
      obtain ⟨hp1, hp2, -, -, -, -⟩ := ho
      obtain ⟨b, off, rfl, hc⟩ := (Hs.out.below hb0) k x hx
      have c0 := hc 0 _ rfl
      have c1 := hc 1 _ rfl
      have c2 := hc 2 _ rfl
      have c3 := hc 3 _ rfl
      simp only [Nat.add_zero] at c0
      obtain ⟨xn, xp, xd, xl⟩ := x
      dsimp only at *
      obtain ⟨p, rfl⟩ : ∃ p : Nat, xp = p := ⟨xp.toNat, by omega⟩
      rw [Int.toNat_natCast] at hs
      clear hc hx
      have hgc := Lib.hid fun W : World => c_divisor v p W (by omega) (by omega)
      obtain ⟨h5, h6, h7, h8⟩ := cy_step hv1 hv2 (show 1 ≤ p by omega) (show p ≤ 60 by omega)
      have hdv : ((v : Nat) : Int) / ((Nat.gcd v p : Nat) : Int) = ((v / Nat.gcd v p : Nat) : Int) := by simp
      generalize Nat.gcd v p = d at *
      generalize v / d = q at *
      have hmu : (q : Int) * p = ((q * p : Nat) : Int) := by simp
      generalize q * p = r at *
      have hd0 : ¬ d = 0 := by omega
      replace hs := Lib.hid hs
      have hqw := hb0.size
      go_upto_region 8 with fail
      first
      | apply absB1 (w0 := w) (g0 := wr.heap.size)
      | apply absTB1 (w0 := w) (g0 := wr.heap.size)
      | apply absIB1 (w0 := w) (g0 := wr.heap.size)
      iterate 2 (focus exact zL)
      try clear hb3
      try clear hb0
      try clear k1
      intro wb hb0 k1
      (try simp only [List.setIfInBounds_toArray, List.set_cons_zero, List.set_cons_succ] at k1)
      clear c0 c1 c2 c3
      have Lk1 := k1.later
      have Fk1 := k1.laterF
      have Qk1 := k1.lt
      refine wp_any (w0 := wb) ⟨[9], [], [some 20, some 21, some 22, some 23, some 24, some 25, some 26, some 27, some 28, none], [[], [], [], [2], [1, 2, 3], [0, 1, 2, 3, 4], [], [6], [0, 1, 2, 3, 4, 5, 6, 7], [0, 1, 2, 3, 4, 5, 6, 7, 8]], [[], [], [], [2], [1, 3], [0, 4], [], [6], [5, 7], []]⟩ (fun _ => []) (by kernel_rfl) (by kernel_rfl) (by (exact zE)) (fun u => by simp only [putD, Act.put, List.setIfInBounds_toArray, List.set_cons_zero, List.set_cons_succ, Nat.zero_add, Nat.reduceAdd]; rfl) ?_
      apply RGW.on (i := 0) rfl
      · exact zG
      · intro γ u W hcur hd
        clear hd
        (try dsimp only)
        exact ⟨rfl, zS⟩
      · exact zC
      · rfl
      dsimp only [nA, cA]
      apply RGW.on (i := 1) rfl
      · exact zG
      · intro γ u W hcur hd
        clear hd
        (try dsimp only)
        exact ⟨rfl, zS⟩
      · exact zC
      · rfl
      dsimp only [nA, cA]
      apply RGW.on (i := 2) rfl
      · exact zG
      · intro γ u W hcur hd
        clear hd
        (try dsimp only)
        exact ⟨rfl, zS⟩
      · exact zC
      · rfl
      dsimp only [nA, cA]
      apply RGW.on (i := 3) rfl
      · exact zG
      · intro γ u W hcur hd
        obtain ⟨⟨h2, -, -⟩, -⟩ := hd
        dsimp only at h2
        (try simp only [h2])
        exact ⟨rfl, zS⟩
      · exact zC
      · rfl
      dsimp only [nA, cA]
      apply RGW.call (i := 4) rfl
      · exact zG
      · intro γ u W hcur hd
        obtain ⟨⟨h1, -, -⟩, ⟨h3, -, -⟩, -⟩ := hd
        dsimp only at h1 h3
        (try simp only [h1, h3])
        refine ⟨rfl, fun K hK => ?_⟩
        go_simp
        (go_at_call 65; (with_reducible refine (hgc.out _).mono ?_); rintro e w3 ⟨rfl, hb3⟩; replace hb3 := bl_tt hb3)
        (try dsimp only)
        exact hK.out _ _ rfl (by (exact zE))
      · exact zC
      · rfl
      dsimp only [nA, cA]
      apply RGW.on (i := 5) rfl
      · exact zG
      · intro γ u W hcur hd
        obtain ⟨⟨h0, -, -⟩, ⟨h4, -, -⟩, -⟩ := hd
        dsimp only at h0 h4
        (try simp only [h0, h4])
        exact ⟨rfl, zS⟩
      · exact zC
      · rfl
      dsimp only [nA, cA]
      apply RGW.on (i := 6) rfl
      · exact zG
      · intro γ u W hcur hd
        clear hd
        (try dsimp only)
        exact ⟨rfl, zS⟩
      · exact zC
      · rfl
      dsimp only [nA, cA]
      apply RGW.on (i := 7) rfl
      · exact zG
      · intro γ u W hcur hd
        obtain ⟨⟨h6, -, -⟩, -⟩ := hd
        dsimp only at h6
        (try simp only [h6])
        exact ⟨rfl, zS⟩
      · exact zC
      · rfl
      dsimp only [nA, cA]
      apply RGW.on (i := 8) rfl
      · exact zG
      · intro γ u W hcur hd
        obtain ⟨⟨h5, -, -⟩, ⟨h7, -, -⟩, -⟩ := hd
        dsimp only at h5 h7
        (try simp only [h5, h7])
        exact ⟨rfl, zS⟩
      · exact zC
      · rfl
      dsimp only [nA, cA]
      refine RGW.skip (i := 9) rfl rfl ?_
      dsimp only [nA, cA]
      refine RGW.fin (fun γ u wj hwj hd hdis => ?_)
      obtain ⟨⟨h0, -, -⟩, ⟨h1, -, -⟩, ⟨h2, -, -⟩, ⟨h3, -, -⟩, ⟨h4, -, -⟩, ⟨h5, -, -⟩, ⟨h6, -, -⟩, ⟨h7, -, -⟩, ⟨h8, -, -⟩, -⟩ := hd
      dsimp only at h0 h1 h2 h3 h4 h5 h6 h7 h8
      clear hdis
      simp only [h0, h1, h2, h3, h4, h5, h6, h7, h8]
      clear h8 h7 h6 h5 h4 h3 h2 h1 h0
      clear u
      simp only [List.map_cons, List.map_nil]
      apply PlanW.step
      · exact zG
      · rfl
      intro K hK
      go_simp
      refine hK.out _ _ (by with_reducible first | assumption | exact bx_refl _ _) (fun hcur => ?_)
      clear hK K
      try simp only [Act.put, List.setIfInBounds_toArray, List.set_cons_zero, List.set_cons_succ]
      refine PlanW.done ?_
      have hb3 := bl_tt hwj
      have hbj := bl_tr hb0 hwj
      clear hmu hdv Lk1 Fk1
      by_cases h5000 : 5000 < r
      · have hr : (5000 : Int) < r := by omega
        have e := Lib.hid (h2'.out (show g 0 1 = none by rw [hi.out, hs.out, if_pos h5000]))
        go_wp2
        go_ret2
        exact ⟨by rw [e.out] <;> rfl, hbj⟩
      · have hr : ¬ (5000 : Int) < r := by omega
        have e := Lib.hid (show g 0 1 = g (k + 1) r by rw [hi.out, hs.out, if_neg h5000])
        go_wp2
        go_roundw
        case rel => exact ⟨k + 1, r, by omega, by go_num, rfl, by omega, by omega, e.out, hbj⟩
        case measure => simp [intOf]; omega
    · have e : k = n := by omega
      have e2 : g 0 1 = some v := by rw [hi.out, e, hend.out]
      have h3'' := Lib.hid (h3'.out v e2)
      have h4'' := Lib.hid fun t => h4'.out v t e2
      have hdef' := Lib.hid (hdef.out v)
      clear e e2 h2' h3' h4' hi hst hend hok' Hs hdef
      generalize ov v = O at *
      go_wp2
      go_loopw [8] (fun i wr => ∃ t : Nat, 1 ≤ t ∧ t ≤ v + 1 ∧ i = .int .i64 t ∧ O = ovF f (v + 1 - t) t ∧ Below w.heap.size w wr) (fun i _ => v + 1 - (intOf i).toNat)
      case atStart => exact ⟨1, by omega, by omega, rfl, hdef'.out, hb0⟩
      case round =>
        clear hb0
        obtain ⟨t, ht1, ht2, rfl, hi, hb0⟩ := hrel
        replace hi := Lib.hid hi
        by_cases htc : t ≤ v
        · have e1 : v + 1 - t = (v - t) + 1 := by omega
          have hst := Lib.hid (show O = if (t : Int) < f t then some t else ovF f (v - t) (t + 1) by rw [hi.out, e1]; rfl)
          have e2 : Hid (v + 1 - (t + 1) = v - t) := Lib.hid (by omega)
          clear e1
          have hd := Lib.hid (hdm1.out t (by omega) wr hb0)
          generalize f t = y at *
          go_wp2_with fail
          refine hd.out.mono ?_
          rintro e w3 ⟨rfl, hb3⟩
          replace hb0 := bl_tr hb0 hb3
          clear hb3 hd
          by_cases hy : (t : Int) < y
          · have e := Lib.hid (h4''.out t (show O = some t by rw [hst.out, if_pos hy]))
            go_wp2
            go_ret2
            exact ⟨by rw [e.out] <;> rfl, hb0⟩
          · have e := Lib.hid (show O = ovF f (v + 1 - (t + 1)) (t + 1) by rw [hst.out, if_neg hy, e2.out])
            go_wp2
            go_roundw
            case rel => exact ⟨t + 1, by omega, by omega, by go_num, e.out, hb0⟩
            case measure => simp [intOf]; omega
        · have e1 : v + 1 - t = 0 := by omega
          have e := Lib.hid (h3''.out (show O = none by rw [hi.out, e1]; rfl))
          clear e1
          go_wp2
          go_ret2
          exact ⟨by rw [e.out] <;> rfl, hb0⟩
end Go.Proofs.YtbdgblnccjpahaaGreatDoor
namespace Go.Proofs.YtbdgblnccjpahaaGreatDoor
def dmAt (l : List Sm) (t : Int) (k : Nat) : Int := match l[k]? with
  | some s => dmd1 s t
  | none => 0
theorem dmK_wt (l : List Sm) (t : Int) : ∀ k : Nat, k ≤ l.length → dmK l t k = wt (dmAt l t) k
  | 0, _ => rfl
  | k + 1, h => by
    have hx : l[k]? = some l[k] := List.getElem?_eq_getElem (by omega)
    rw [dmK_next hx, dmK_wt l t k (by omega), wt, dmAt, hx]
theorem dmdS_wt (l : List Sm) (t : Int) : dmdS l t = wt (dmAt l t) l.length := dmK_wt l t l.length (Nat.le_refl _)
/-- The first tick behind those at which a message with a deadline up to D is sent. -/
def endD (l : List Sm) (D : Int) (k : Nat) : Nat := (D - dlAt l k + 1).toNat
/-- How much of a stream has a deadline up to D. -/
theorem due_cum {l : List Sm} {st : List Int} (h : SOk l st) (D k : Nat) {s : Sm} {a : Int} (hs : l[k]? = some s) (ha : st[k]? = some a) : s.len * cntS s.per a ((D : Int) - s.dl + 1) = cum l st k (endD l D k) := by
  have ha0 := h.nn a (List.mem_of_getElem? ha)
  have ho := h.sm s (List.mem_of_getElem? hs)
  rw [cum_eq hs ha ha0 ho.1]
  have hdl : dlAt l k = s.dl := by simp [dlAt, hs]
  unfold endD
  rw [hdl]
  by_cases hn : 0 ≤ (D : Int) - s.dl + 1
  · rw [Int.toNat_of_nonneg hn]
  · have e : ((D : Int) - s.dl + 1).toNat = 0 := by omega
    rw [e]
    unfold cntS
    rw [if_pos (by omega), if_pos (by simpa using ha0)]
/-- What was carried is at least what had to be. -/
theorem cnt_due {ch : (Nat → List (Int × Int)) → Int} {l : List Sm} {st : List Int} (hc : Cr ch) (h : SOk l st) (D k : Nat) {s : Sm} {a : Int} (hs : l[k]? = some s) (ha : st[k]? = some a)
    (hx : ∀ x ∈ (runS ch l st D).1.q k, (D : Int) - s.dl < x.1) : s.len * cntS s.per a ((D : Int) - s.dl + 1) ≤ ((runS ch l st D).2.count (k : Int) : Nat) := by
  have hdl : dlAt l k = s.dl := by simp [dlAt, hs]
  have ho := h.sm s (List.mem_of_getElem? hs)
  obtain ⟨-, -, p3, -, -, -⟩ := ho
  have hg := (qok_run (ch := ch) (l := l) (st := st) hc h D).good k
  rw [due_cum h D k hs ha]
  refine cnt_ge hc h k _ D (by unfold endD; omega) fun x hm => ?_
  have := hx x hm
  have := hg x hm
  unfold endD
  omega
/-- The demand is what has to be carried if all start together. -/
theorem dm_cum {l : List Sm} {st : List Int} (h : SOk l st) (hz : ∀ a ∈ st, a = 0) (D k : Nat) {s : Sm} (hs : l[k]? = some s) : dmAt l D k = s.len * cntS s.per 0 ((D : Int) - s.dl + 1) := by
  rw [dmAt, hs]
  unfold dmd1 cntS
  dsimp only
  by_cases hd : s.dl ≤ (D : Int)
  · rw [if_pos hd, if_neg (by omega), show (D : Int) - s.dl + 1 - 0 - 1 = (D : Int) - s.dl by omega, Int.add_comm 1]
  · rw [if_neg hd, if_pos (by omega), Int.mul_zero]
/-- Without a late stream there is no overload. -/
theorem order_dm {l : List Sm} {st : List Int} (h : SOk l st) (hz : ∀ a ∈ st, a = 0) (hl : ∀ k, k < l.length → lateAt l k = false) (D : Nat) : dmdS l D ≤ D := by
  rw [dmdS_wt]
  have h2 : wt (dmAt l D) l.length ≤ wt (fun k => ((runS prioS l st D).2.count (k : Int) : Nat)) l.length := wt_le fun k hk => by
    have hs : l[k]? = some l[k] := List.getElem?_eq_getElem hk
    have hk2 : k < st.length := by rw [h.len]; exact hk
    have ha : st[k]? = some st[k] := List.getElem?_eq_getElem hk2
    have e0 := hz st[k] (List.getElem_mem hk2)
    rw [e0] at ha
    rw [dm_cum h hz D k hs]
    have hok := h.sm l[k] (List.getElem_mem hk)
    obtain ⟨-, -, p3, p4, -, -⟩ := hok
    obtain ⟨r, hr⟩ := notlate h.sm hs (hl k hk)
    have r1 := hr.one
    have r2 := hr.dl
    obtain ⟨t0, w1, w2, -, w3⟩ := (win_run h hs (r := r) (by omega) (by omega) hr.fix D).ex
    exact cnt_due cr_prio h D k hs ha fun x hx => by
      have := w3 k (Nat.le_refl _) x hx
      omega
  have h3 := cnt_sum (runS prioS l st D).2 l.length
  rw [runS_len] at h3
  omega
end Go.Proofs.YtbdgblnccjpahaaGreatDoor
namespace Go.Proofs.YtbdgblnccjpahaaGreatDoor
theorem ovF_some {f : Int → Int} : ∀ (d t x : Nat), ovF f d t = some x → t ≤ x ∧ (x : Int) < f x
  | 0, _, _, h => by cases h
  | d + 1, t, x, h => by
    rw [ovF] at h
    split at h
    · injection h with h
      subst h
      exact ⟨Nat.le_refl _, by assumption⟩
    · have := ovF_some d (t + 1) x h
      exact ⟨by omega, this.2⟩
def dsum (t : Int) : List Sm → Int
  | [] => 0
  | s :: l => dmd1 s t + dsum t l
theorem dsum_foldl (t : Int) : ∀ (l : List Sm) (b : Int), (l.map fun s => dmd1 s t).foldl (· + ·) b = b + dsum t l
  | [], b => by simp [dsum]
  | s :: l, b => by
    rw [List.map_cons, List.foldl_cons, dsum_foldl t l, dsum]
    omega
theorem dmdS_dsum (l : List Sm) (t : Int) : dmdS l t = dsum t l := by
  unfold dmdS dmK
  rw [List.take_length, dsum_foldl]
  omega
theorem dsum_perm {t : Int} {a b : List Sm} (h : a.Perm b) : dsum t a = dsum t b := by
  induction h with
  | nil => rfl
  | cons x _ ih => rw [dsum, dsum, ih]
  | swap x y l => rw [dsum, dsum, dsum, dsum]; omega
  | trans _ _ h1 h2 => rw [h1, h2]
/-- Some order of the streams in which none is late. -/
def Ordr (l : List Sm) : Prop := ∃ l' : List Sm, l'.Perm l ∧ ∀ k, k < l'.length → lateAt l' k = false
theorem ordr_dm {l : List Sm} (hl : ∀ s ∈ l, OkSm s) (h6 : l.length ≤ 6) (h : Ordr l) (D : Nat) : dmdS l D ≤ D := by
  obtain ⟨l', hp, h1⟩ := h
  have := order_dm (l := l') (st := List.replicate l'.length 0) ⟨fun s hs => hl s (hp.mem_iff.1 hs), by rw [hp.length_eq]; exact h6, by simp, fun a ha => by rw [List.eq_of_mem_replicate ha]; exact Int.le_refl _⟩ (fun a ha => List.eq_of_mem_replicate ha) h1 D
  rw [dmdS_dsum, dsum_perm hp, ← dmdS_dsum] at this
  exact this
end Go.Proofs.YtbdgblnccjpahaaGreatDoor
namespace Go.Proofs.YtbdgblnccjpahaaGreatDoor
theorem nod_len : ∀ (n : Nat) (a : List Nat), a.Nodup → (∀ x ∈ a, x < n) → a.length ≤ n
  | 0, a, _, h => by
    cases a with
    | nil => simp
    | cons x r => exact absurd (h x (by simp)) (by omega)
  | n + 1, a, hn, h => by
    by_cases hm : n ∈ a
    · have hp := List.perm_cons_erase hm
      have h1 := nod_len n (a.erase n) (hn.erase n) fun x hx => by
        have h2 := (hn.mem_erase_iff).1 hx
        have := h x h2.2
        have := h2.1
        omega
      have := hp.length_eq
      simp only [List.length_cons] at this
      omega
    · have := nod_len n a hn fun x hx => by
        have := h x hx
        have : x ≠ n := fun e => hm (e ▸ hx)
        omega
      omega
/-- The streams of an order that has begun. -/
def ordL (l : List Sm) (b : List Nat) : List Sm := b.map fun i => l[i]?.getD ⟨.empty, 1, 1, 1⟩
/-- An order that has begun, in which no stream is late. -/
structure Begun (l : List Sm) (b : List Nat) : Prop where
  nod : b.Nodup
  lt : ∀ x ∈ b, x < l.length
  ok : ∀ k, k < b.length → lateAt (ordL l b) k = false
theorem Begun.nil (l : List Sm) : Begun l [] := ⟨List.nodup_nil, fun x hx => by simp at hx, fun k hk => by simp at hk⟩
theorem ordL_app (l : List Sm) (b : List Nat) (i : Nat) (s : Sm) (hs : l[i]? = some s) : ordL l (b ++ [i]) = ordL l b ++ [s] := by simp [ordL, hs]
theorem lateAt_app {a : List Sm} {s : Sm} {k : Nat} (hk : k < a.length) : lateAt (a ++ [s]) k = lateAt a k := by
  unfold lateAt
  rw [List.getElem?_append_left hk, List.take_append_of_le_length (by omega)]
theorem lateAt_last (a : List Sm) (s : Sm) : lateAt (a ++ [s]) a.length = lateB a s := by
  unfold lateAt
  rw [List.getElem?_append_right (Nat.le_refl _)]
  simp
theorem Begun.next {l : List Sm} {b : List Nat} (h : Begun l b) {i : Nat} {s : Sm} (hs : l[i]? = some s) (hn : i ∉ b) (hl : lateB (ordL l b) s = false) : Begun l (b ++ [i]) := by
  have hlen : (ordL l b).length = b.length := by simp [ordL]
  refine ⟨List.nodup_append.2 ⟨h.nod, by simp, fun x hx y hy => ?_⟩, fun x hx => ?_, fun k hk => ?_⟩
  · have hy := List.mem_singleton.1 hy
    subst hy
    exact fun e => hn (e ▸ hx)
  · rcases List.mem_append.1 hx with hx | hx
    · exact h.lt x hx
    · have hx := List.mem_singleton.1 hx
      subst hx
      exact (List.getElem?_eq_some_iff.1 hs).1
  · rw [ordL_app l b i s hs]
    by_cases e : k < b.length
    · rw [lateAt_app (by omega)]
      exact h.ok k e
    · have : k = (ordL l b).length := by simp at hk; omega
      subst this
      rw [lateAt_last]
      exact hl
theorem Begun.len {l : List Sm} {b : List Nat} (h : Begun l b) : b.length ≤ l.length := nod_len _ _ h.nod h.lt
end Go.Proofs.YtbdgblnccjpahaaGreatDoor
namespace Go.Proofs.YtbdgblnccjpahaaGreatDoor
open Go.RowKit
attribute [local go_sem] bl_al bl_drew bl_drewN bl_refl bx_al bx_drew bx_drewN bx_refl
set_option maxRecDepth 20000
set_option maxHeartbeats 2000000 in
theorem c_IndexI (l : List Int) (x : Int) (A : Option Addr) (c : Nat) (w : World) (hs : Sl cI 1 w A l) (hl : l.length ≤ 1000) :
    Calls Tryz.prog 154 #[.slice A l.length c, .int .i64 x] w (Same (.int .i64 (idxF (fun y => decide (x = y)) l 0)) w) := by
  have Hs := Lib.hid hs
  clear hs
  obtain ⟨n, Hn⟩ : ∃ n, Hid (l.length = n) := ⟨_, rfl⟩
  rw [Hn.out] at hl ⊢
  go_enter Tryz.func154, Tryz.ntmps154
  go_wp2
  go_loopw [8] (fun i wr => ∃ k : Nat, k ≤ n ∧ i = .int .i64 k ∧ w = wr ∧ idxF (fun y => decide (x = y)) l 0 = idxF (fun y => decide (x = y)) (l.drop k) k) (fun i _ => n - (intOf i).toNat)
  case atStart => exact ⟨0, Nat.zero_le _, rfl, rfl, rfl⟩
  case round =>
    obtain ⟨k, hk, rfl, rfl, hi⟩ := hrel
    replace hi := Lib.hid hi
    by_cases hlt : k < n
    · have hx : l[k]? = some (l[k]'(by rw [Hn.out]; exact hlt)) := List.getElem?_eq_getElem _
      generalize l[k]'(by rw [Hn.out]; exact hlt) = y at hx
      obtain ⟨b, off, rfl, hc⟩ := Hs.out k y hx
      have c0 := hc 0 _ rfl
      simp only [Nat.add_zero, Nat.mul_one] at c0
      have hd := idxF_drop (fun y => decide (x = y)) l k y hx
      have hlt2 : (k : Int) < n := by omega
      clear hc hx
      by_cases hxy : x = y
      · rw [if_pos (by simpa using hxy)] at hd
        subst hxy
        replace hd := Lib.hid hd
        go_wp2
        go_ret
        exact ⟨by rw [hi.out, hd.out] <;> rfl, rfl⟩
      · rw [if_neg (by simpa using hxy)] at hd
        replace hd := Lib.hid hd
        go_wp2
        go_roundw
        case rel => exact ⟨k + 1, by omega, by go_num, by trivial, by rw [hi.out, hd.out]; simp⟩
        case measure => simp [intOf]; omega
    · have e : idxF (fun y => decide (x = y)) l 0 = -1 := by
        rw [hi.out, List.drop_eq_nil_of_le (by have := Hn.out; omega)]
        rfl
      replace e := Lib.hid e
      go_wp2
      go_ret
      exact ⟨by rw [e.out] <;> rfl, rfl⟩
theorem c_ContainsI (l : List Int) (x : Int) (A : Option Addr) (c : Nat) (w : World) (hs : Sl cI 1 w A l) (hl : l.length ≤ 1000) :
    Calls Tryz.prog 116 #[.slice A l.length c, .int .i64 x] w (Same (.bool (l.any fun y => decide (x = y))) w) := by
  have hi := Lib.hid (c_IndexI l x A c w hs hl)
  have hg := Lib.hid (idxF_ge (fun y => decide (x = y)) l 0 (Int.le_refl _))
  clear hs
  generalize idxF (fun y => decide (x = y)) l 0 = I at *
  generalize (l.any fun y => decide (x = y)) = B at *
  generalize l.length = n at *
  go_enter Tryz.func116, Tryz.ntmps116
  go_wp2_with fail
  refine hi.out.mono ?_
  rintro e w1 ⟨rfl, rfl⟩
  go_wp2
  go_ret
  exact ⟨by rw [← hg.out] <;> rfl, rfl⟩
theorem c_ClipI (l : List Int) (A : Option Addr) (c : Nat) (w : World) (hl : l.length ≤ c) (hc : c ≤ maxLen) :
    Calls Tryz.prog 117 #[.slice A l.length c] w (Same (.slice A l.length l.length) w) := by
  generalize l.length = n at *
  go_enter Tryz.func117, Tryz.ntmps117
  go_wp2
  go_ret
  exact ⟨rfl, rfl⟩
end Go.Proofs.YtbdgblnccjpahaaGreatDoor
