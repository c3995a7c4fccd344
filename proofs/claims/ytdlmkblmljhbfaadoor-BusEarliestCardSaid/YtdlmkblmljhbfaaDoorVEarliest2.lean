/-
  Walks: the demand of streams.
  Walks: common multiples of periods, overloads.
  Plain laws: the earliest deadline carries in time what can be carried in time.
  Walks: the demand and the overload of streams.
  Plain laws: demands, and what is carried in time.
  Plain laws: demands beyond a cycle, and of streams in another order.
  Walk: whether all messages are carried in time.
  Plain laws: an order of the streams that grows by one at a time.
  Walks: the library's Index, Contains and Clip of numbers.
  'append' onto a slice of the call's own: its block is the one it had, or a new one.
-/
import Derived.Test.YtdlmkblmljhbfaaDoorVEarliest1
import Derived.Test.YtdlmkblmljhbfaaDoorU5
import Derived.Test.YtdlmkblmljhbfaaDoorU2
namespace Go.Proofs.YtdlmkblmljhbfaaDoor
set_option linter.unusedSimpArgs false
set_option linter.unusedVariables false
open Go.RowKit Go.Shelf
attribute [local go_sem] bl_al bl_drew bl_drewN bl_refl bx_al bx_drew bx_drewN bx_refl
set_option maxRecDepth 20000
/-- The demand of a stream, of streams. -/
def dmd1 (s : Sm) (t : Int) : Int := if s.dl ≤ t then s.len * (1 + (t - s.dl) / s.per) else 0
def dmK (l : List Sm) (t : Int) (k : Nat) : Int := ((l.take k).map fun s => dmd1 s t).foldl (· + ·) 0
def dmdS (l : List Sm) (t : Int) : Int := dmK l t l.length
theorem dmK_next {l : List Sm} {t : Int} {k : Nat} {x : Sm} (hx : l[k]? = some x) : dmK l t (k + 1) = dmK l t k + dmd1 x t := by
  unfold dmK
  rw [List.take_add_one, hx]
  simp [List.foldl_append]
theorem dmd1_bd {x : Sm} (hx : OkSm x) {t : Int} (h0 : 0 ≤ t) (h1 : t ≤ 10000) : 0 ≤ dmd1 x t ∧ dmd1 x t ≤ 300000 := by
  obtain ⟨h2, h3, h4, h5, h6, h7⟩ := hx
  unfold dmd1
  split
  · have ha : 0 ≤ (t - x.dl) / x.per := Int.ediv_nonneg (by omega) (by omega)
    have hb : (t - x.dl) / x.per ≤ t - x.dl := Int.ediv_le_self _ (by omega)
    have hc := Int.mul_le_mul_of_nonneg_right h7 (show 0 ≤ 1 + (t - x.dl) / x.per by omega)
    have hd := Int.mul_nonneg (show 0 ≤ x.len by omega) (show 0 ≤ 1 + (t - x.dl) / x.per by omega)
    omega
  · omega
theorem dmK_bd {l : List Sm} (hl : ∀ o ∈ l, OkSm o) {t : Int} (h0 : 0 ≤ t) (h1 : t ≤ 10000) : ∀ k : Nat, k ≤ l.length → 0 ≤ dmK l t k ∧ dmK l t k ≤ k * 300000
  | 0, _ => by simp [dmK]
  | k + 1, h => by
    have ih := dmK_bd hl h0 h1 k (by omega)
    have hx := List.getElem?_eq_getElem (show k < l.length by omega)
    have := dmd1_bd (hl _ (List.getElem_mem (show k < l.length by omega))) h0 h1
    rw [dmK_next hx]
    omega
theorem dmd1_yes {x : Sm} {t : Int} (h : x.dl ≤ t) : dmd1 x t = x.len * (1 + (t - x.dl) / x.per) := by rw [dmd1, if_pos h]
theorem dmd1_no {x : Sm} {t : Int} (h : ¬ x.dl ≤ t) : dmd1 x t = 0 := by rw [dmd1, if_neg h]
set_option maxHeartbeats 2000000 in
theorem c_demand (l : List Sm) (t : Int) (A : Option Addr) (c : Nat) (w : World) (hs : Sl cSm 4 w A l) (hl : l.length ≤ 6) (hok : ∀ o ∈ l, OkSm o) (h0 : 0 ≤ t) (h1 : t ≤ 10000) :
    Calls Tryd.prog 119 #[.slice A l.length c, .int .i64 t] w (Ret (.int .i64 (dmdS l t)) w) := by
  have Hs := Lib.hid hs
  have hbd := Lib.hid fun k hk => dmK_bd hok h0 h1 k hk
  have hnx := Lib.hid fun k x (hx : l[k]? = some x) => dmK_next (t := t) hx
  have hok' := Lib.hid fun k x (hx : l[k]? = some x) => hok x (List.mem_of_getElem? hx)
  have hz : Hid (dmK l t 0 = 0) := rfl
  have hend : Hid (dmK l t l.length = dmdS l t) := rfl
  clear hs hok
  obtain ⟨g, hg⟩ : ∃ g : Nat → Int, ∀ k, dmK l t k = g k := ⟨_, fun _ => rfl⟩
  simp only [hg] at hbd hnx hz hend
  clear hg
  obtain ⟨n, Hn⟩ : ∃ n, Hid (l.length = n) := ⟨_, rfl⟩
  rw [Hn.out] at hl hbd hend ⊢
  go_enter Tryd.func119, Tryd.ntmps119
  go_wp2
  go_loopw [5, 10] (fun s i wr => ∃ k : Nat, k ≤ n ∧ i = .int .i64 k ∧ s = .int .i64 (g k) ∧ Below w.heap.size w wr) (fun _ i _ => n - (intOf i).toNat)
  case atStart => exact ⟨0, Nat.zero_le _, rfl, by rw [hz.out], Below.refl _ _⟩
  case round =>
    obtain ⟨k, hk, rfl, rfl, hb0⟩ := hrel
    by_cases hkn : k < n
    · have hx : l[k]? = some (l[k]'(by rw [Hn.out]; exact hkn)) := List.getElem?_eq_getElem _
      generalize l[k]'(by rw [Hn.out]; exact hkn) = x at hx
      have ho := hok'.out k x hx
      have hst := hnx.out k x hx
      have hb1 := hbd.out k (by omega)
      have hb2 := hbd.out (k + 1) (by omega)
      have htm := dmd1_bd ho h0 h1
      obtain ⟨hp1, hp2, hp3, hp4, hp5, hp6⟩ := ho
      obtain ⟨b, off, rfl, hc⟩ := (Hs.out.below hb0) k x hx
      have c0 := hc 0 _ rfl
      have c1 := hc 1 _ rfl
      have c2 := hc 2 _ rfl
      have c3 := hc 3 _ rfl
      simp only [Nat.add_zero] at c0
      clear hc hx
      have hqw := hb0.size
      by_cases hdl : x.dl ≤ t
      · rw [dmd1_yes hdl] at htm hst
        have hst' := Lib.hid hst
        have hq1 : 0 ≤ (t - x.dl) / x.per := Int.ediv_nonneg (by omega) (by omega)
        have hq2 : (t - x.dl) / x.per ≤ t - x.dl := Int.ediv_le_self _ (by omega)
        have hp0 : ¬ x.per = 0 := by omega
        rw [hst] at hb2
        clear hst
        go_upto_region 6 with fail
        first
        | apply absB1 (w0 := w) (g0 := wr.heap.size)
        | apply absTB1 (w0 := w) (g0 := wr.heap.size)
        | apply absIB1 (w0 := w) (g0 := wr.heap.size)
        iterate 2 (focus ((with_reducible (repeat' (first | assumption | apply jA | apply jB | apply jC | apply jD | apply jE | apply jF | apply hb3 | apply jG | apply jH | apply jI | apply jJ | apply jK | apply hb3x | (apply jL; first | (simp; done) | rfl) | apply jM | apply jN | apply jO | apply jP | apply jQ | apply jR | apply jS | apply jT (hb := hb3 _ (jA _)) | omega | (simp; done) | (simp; omega) | (dsimp only; omega)))); done))
        intro wb hb0' k1'
        (try simp only [List.setIfInBounds_toArray, List.set_cons_zero, List.set_cons_succ] at k1')
        try clear hb3
        try clear hb0
        try clear k1
        have hb0 := hb0'; clear hb0'
        have k1 := k1'; clear k1'
        clear c0 c1 c2 c3
        have Lk1 := k1.later
        have Fk1 := k1.laterF
        have Qk1 := k1.lt
        refine wp_any (w0 := wb) ⟨[13], [], [some 18, some 19, some 20, some 21, some 22, some 23, some 24, some 25, some 26, some 27, some 28, some 29, some 30, none], [[], [], [1], [], [], [4], [3, 4, 5], [], [7], [3, 4, 5, 6, 7, 8], [3, 4, 5, 6, 7, 8, 9], [1, 2, 3, 4, 5, 6, 7, 8, 9, 10], [0, 1, 2, 3, 4, 5, 6, 7, 8, 9, 10, 11], [0, 1, 2, 3, 4, 5, 6, 7, 8, 9, 10, 11, 12]], [[], [], [1], [], [], [4], [3, 5], [], [7], [6, 8], [9], [2, 10], [0, 11], []]⟩ (fun _ => []) (by kernel_rfl) (by kernel_rfl) (by (with_reducible (repeat' (first | assumption | apply jA | apply jB | apply jC | apply jD | apply jE | apply jF | apply hb3 | omega | (simp; done) | (simp; omega) | (dsimp only; omega))))) (fun u => by simp only [putD, Act.put, List.setIfInBounds_toArray, List.set_cons_zero, List.set_cons_succ, Nat.zero_add, Nat.reduceAdd]; rfl) ?_
        apply RGW.on (i := 0) rfl
        · (simp only [gA, gB, gC] <;> rfl)
        · intro γ u W hcur hd
          clear hd
          (try dsimp only)
          refine ⟨rfl, ?_⟩
          go_simp <;> (try go_bits) <;> with_reducible rfl
        · exact fun _ _ _ => rfl
        · rfl
        dsimp only [nA, cA]
        apply RGW.on (i := 1) rfl
        · (simp only [gA, gB, gC] <;> rfl)
        · intro γ u W hcur hd
          clear hd
          (try dsimp only)
          refine ⟨rfl, ?_⟩
          go_simp <;> (try go_bits) <;> with_reducible rfl
        · exact fun _ _ _ => rfl
        · rfl
        dsimp only [nA, cA]
        apply RGW.on (i := 2) rfl
        · (simp only [gA, gB, gC] <;> rfl)
        · intro γ u W hcur hd
          obtain ⟨⟨h1, -, -⟩, -⟩ := hd
          dsimp only at h1
          (try simp only [h1])
          refine ⟨rfl, ?_⟩
          go_simp <;> (try go_bits) <;> with_reducible rfl
        · exact fun _ _ _ => rfl
        · rfl
        dsimp only [nA, cA]
        apply RGW.on (i := 3) rfl
        · (simp only [gA, gB, gC] <;> rfl)
        · intro γ u W hcur hd
          clear hd
          (try dsimp only)
          refine ⟨rfl, ?_⟩
          go_simp <;> (try go_bits) <;> with_reducible rfl
        · exact fun _ _ _ => rfl
        · rfl
        dsimp only [nA, cA]
        apply RGW.on (i := 4) rfl
        · (simp only [gA, gB, gC] <;> rfl)
        · intro γ u W hcur hd
          clear hd
          (try dsimp only)
          refine ⟨rfl, ?_⟩
          go_simp <;> (try go_bits) <;> with_reducible rfl
        · exact fun _ _ _ => rfl
        · rfl
        dsimp only [nA, cA]
        apply RGW.on (i := 5) rfl
        · (simp only [gA, gB, gC] <;> rfl)
        · intro γ u W hcur hd
          obtain ⟨⟨h4, -, -⟩, -⟩ := hd
          dsimp only at h4
          (try simp only [h4])
          refine ⟨rfl, ?_⟩
          go_simp <;> (try go_bits) <;> with_reducible rfl
        · exact fun _ _ _ => rfl
        · rfl
        dsimp only [nA, cA]
        apply RGW.on (i := 6) rfl
        · (simp only [gA, gB, gC] <;> rfl)
        · intro γ u W hcur hd
          obtain ⟨⟨h3, -, -⟩, ⟨h5, -, -⟩, -⟩ := hd
          dsimp only at h3 h5
          (try simp only [h3, h5])
          refine ⟨rfl, ?_⟩
          go_simp <;> (try go_bits) <;> with_reducible rfl
        · exact fun _ _ _ => rfl
        · rfl
        dsimp only [nA, cA]
        apply RGW.on (i := 7) rfl
        · (simp only [gA, gB, gC] <;> rfl)
        · intro γ u W hcur hd
          clear hd
          (try dsimp only)
          refine ⟨rfl, ?_⟩
          go_simp <;> (try go_bits) <;> with_reducible rfl
        · exact fun _ _ _ => rfl
        · rfl
        dsimp only [nA, cA]
        apply RGW.on (i := 8) rfl
        · (simp only [gA, gB, gC] <;> rfl)
        · intro γ u W hcur hd
          obtain ⟨⟨h7, -, -⟩, -⟩ := hd
          dsimp only at h7
          (try simp only [h7])
          refine ⟨rfl, ?_⟩
          go_simp <;> (try go_bits) <;> with_reducible rfl
        · exact fun _ _ _ => rfl
        · rfl
        dsimp only [nA, cA]
        apply RGW.on (i := 9) rfl
        · (simp only [gA, gB, gC] <;> rfl)
        · intro γ u W hcur hd
          obtain ⟨⟨h6, -, -⟩, ⟨h8, -, -⟩, -⟩ := hd
          dsimp only at h6 h8
          (try simp only [h6, h8])
          refine ⟨rfl, ?_⟩
          go_simp <;> (try go_bits) <;> with_reducible rfl
        · exact fun _ _ _ => rfl
        · rfl
        dsimp only [nA, cA]
        apply RGW.on (i := 10) rfl
        · (simp only [gA, gB, gC] <;> rfl)
        · intro γ u W hcur hd
          obtain ⟨⟨h9, -, -⟩, -⟩ := hd
          dsimp only at h9
          (try simp only [h9])
          refine ⟨rfl, ?_⟩
          go_simp <;> (try go_bits) <;> with_reducible rfl
        · exact fun _ _ _ => rfl
        · rfl
        dsimp only [nA, cA]
        apply RGW.on (i := 11) rfl
        · (simp only [gA, gB, gC] <;> rfl)
        · intro γ u W hcur hd
          obtain ⟨⟨h2, -, -⟩, ⟨h10, -, -⟩, -⟩ := hd
          dsimp only at h2 h10
          (try simp only [h2, h10])
          refine ⟨rfl, ?_⟩
          go_simp <;> (try go_bits) <;> with_reducible rfl
        · exact fun _ _ _ => rfl
        · rfl
        dsimp only [nA, cA]
        apply RGW.on (i := 12) rfl
        · (simp only [gA, gB, gC] <;> rfl)
        · intro γ u W hcur hd
          obtain ⟨⟨h0, -, -⟩, ⟨h11, -, -⟩, -⟩ := hd
          dsimp only at h0 h11
          (try simp only [h0, h11])
          refine ⟨rfl, ?_⟩
          go_simp <;> (try go_bits) <;> with_reducible rfl
        · exact fun _ _ _ => rfl
        · rfl
        dsimp only [nA, cA]
        refine RGW.skip (i := 13) rfl rfl ?_
        dsimp only [nA, cA]
        refine RGW.fin (fun γ u wc hwc hd hdis => ?_)
        obtain ⟨⟨h0, -, -⟩, ⟨h1, -, -⟩, ⟨h2, -, -⟩, ⟨h3, -, -⟩, ⟨h4, -, -⟩, ⟨h5, -, -⟩, ⟨h6, -, -⟩, ⟨h7, -, -⟩, ⟨h8, -, -⟩, ⟨h9, -, -⟩, ⟨h10, -, -⟩, ⟨h11, -, -⟩, ⟨h12, -, -⟩, -⟩ := hd
        dsimp only at h0 h1 h2 h3 h4 h5 h6 h7 h8 h9 h10 h11 h12
        clear hdis
        simp only [h0, h1, h2, h3, h4, h5, h6, h7, h8, h9, h10, h11, h12]
        clear h12 h11 h10 h9 h8 h7 h6 h5 h4 h3 h2 h1 h0
        clear u
        simp only [List.map_cons, List.map_nil]
        apply PlanW.step
        · (simp only [gA, gB, gC] <;> rfl)
        · rfl
        intro K hK
        go_simp
        refine hK.out _ _ (by with_reducible first | assumption | exact bx_refl _ _) (fun hcur => ?_)
        clear hK K
        try simp only [Act.put, List.setIfInBounds_toArray, List.set_cons_zero, List.set_cons_succ]
        refine PlanW.done ?_
        have hb3 := bl_tt hwc
        have hbw := hb3 _ hb0
        clear Lk1 Fk1
        go_wp2
        go_roundw
        case rel => exact ⟨k + 1, by omega, by go_num, by rw [hst'.out], hbw⟩
        case measure => simp [intOf]; omega
      · rw [dmd1_no hdl] at hst
        have hst' := Lib.hid hst
        clear hst
        go_upto_region 5 with fail
        first
        | apply absB1 (w0 := w) (g0 := wr.heap.size)
        | apply absTB1 (w0 := w) (g0 := wr.heap.size)
        | apply absIB1 (w0 := w) (g0 := wr.heap.size)
        iterate 2 (focus ((with_reducible (repeat' (first | assumption | apply jA | apply jB | apply jC | apply jD | apply jE | apply jF | apply hb3 | apply jG | apply jH | apply jI | apply jJ | apply jK | apply hb3x | (apply jL; first | (simp; done) | rfl) | apply jM | apply jN | apply jO | apply jP | apply jQ | apply jR | apply jS | apply jT (hb := hb3 _ (jA _)) | omega | (simp; done) | (simp; omega) | (dsimp only; omega)))); done))
        intro wb hb0' k1'
        (try simp only [List.setIfInBounds_toArray, List.set_cons_zero, List.set_cons_succ] at k1')
        try clear hb3
        try clear hb0
        try clear k1
        have hb0 := hb0'; clear hb0'
        have k1 := k1'; clear k1'
        clear c0 c1 c2 c3
        have L1 := k1.cell
        go_wp2
        go_roundw
        case rel => exact ⟨k + 1, by omega, by go_num, by rw [hst'.out]; simp, hb0⟩
        case measure => simp [intOf]; omega
    · have e : k = n := by omega
      go_wp2
      go_ret
      exact ⟨by rw [e, hend.out] <;> rfl, hb0⟩
theorem r_Floor (n d : Int) (w : World) (h0 : 0 ≤ n) (h1 : n ≤ 1000000000000) (h3 : 0 < d) (h4 : d ≤ 1000000000000) : Calls Tryd.prog 121 #[.int .i64 n, .int .i64 d] w (Same (.int .i64 (n / d)) w) := by
  have hd : d ≠ 0 := by omega
  have hq1 : 0 ≤ n / d := Int.ediv_nonneg (by omega) (by omega)
  have hq2 : n / d ≤ n := Int.ediv_le_self _ (by omega)
  have hr : 0 ≤ n % d := Int.emod_nonneg _ hd
  go_enter Tryd.func121, Tryd.ntmps121
  go_wp2
  go_ret
  exact ⟨rfl, rfl⟩
set_option maxHeartbeats 2000000 in
theorem r_Demand (l : List Sm) (t : Int) (A : Option Addr) (c : Nat) (w : World) (hs : Sl cSm 4 w A l) (hl : l.length ≤ 6) (hok : ∀ o ∈ l, OkSm o) (h0 : 0 ≤ t) (h1 : t ≤ 10000) :
    Calls Tryd.prog 61 #[.slice A l.length c, .int .i64 t] w (Ret (.int .i64 (dmdS l t)) w) := by
  have Hs := Lib.hid hs
  have hbd := Lib.hid fun k hk => dmK_bd hok h0 h1 k hk
  have hnx := Lib.hid fun k x (hx : l[k]? = some x) => dmK_next (t := t) hx
  have hok' := Lib.hid fun k x (hx : l[k]? = some x) => hok x (List.mem_of_getElem? hx)
  have hz : Hid (dmK l t 0 = 0) := rfl
  have hend : Hid (dmK l t l.length = dmdS l t) := rfl
  clear hs hok
  obtain ⟨g, hg⟩ : ∃ g : Nat → Int, ∀ k, dmK l t k = g k := ⟨_, fun _ => rfl⟩
  simp only [hg] at hbd hnx hz hend
  clear hg
  obtain ⟨n, Hn⟩ : ∃ n, Hid (l.length = n) := ⟨_, rfl⟩
  rw [Hn.out] at hl hbd hend ⊢
  go_enter Tryd.func61, Tryd.ntmps61
  go_wp2
  go_loopw [5, 6] (fun s i wr => ∃ k : Nat, k ≤ n ∧ i = .int .i64 k ∧ s = .int .i64 (g k) ∧ Below w.heap.size w wr) (fun _ i _ => n - (intOf i).toNat)
  case atStart => exact ⟨0, Nat.zero_le _, rfl, by rw [hz.out], Below.refl _ _⟩
  case round =>
    obtain ⟨k, hk, rfl, rfl, hb0⟩ := hrel
    by_cases hkn : k < n
    · have hx : l[k]? = some (l[k]'(by rw [Hn.out]; exact hkn)) := List.getElem?_eq_getElem _
      generalize l[k]'(by rw [Hn.out]; exact hkn) = x at hx
      have ho := hok'.out k x hx
      have hst := hnx.out k x hx
      have hb1 := hbd.out k (by omega)
      have hb2 := hbd.out (k + 1) (by omega)
      have htm := dmd1_bd ho h0 h1
      obtain ⟨hp1, hp2, hp3, hp4, hp5, hp6⟩ := ho
      obtain ⟨b, off, rfl, hc⟩ := (Hs.out.below hb0) k x hx
      have c1 : ∀ W, Below wr.heap.size wr W → W.cell? ⟨b, off + k * 4 + 1, none⟩ = some (.int .i64 x.per) := later (hc 1 _ rfl)
      have c2 : ∀ W, Below wr.heap.size wr W → W.cell? ⟨b, off + k * 4 + 2, none⟩ = some (.int .i64 x.dl) := later (hc 2 _ rfl)
      have c3 : ∀ W, Below wr.heap.size wr W → W.cell? ⟨b, off + k * 4 + 3, none⟩ = some (.int .i64 x.len) := later (hc 3 _ rfl)
      clear hc hx
      have c2' := c2 wr (bl_refl _)
      by_cases hdl : x.dl ≤ t
      · rw [dmd1_yes hdl] at htm hst
        have hst' := Lib.hid hst
        have hq1 : 0 ≤ (t - x.dl) / x.per := Int.ediv_nonneg (by omega) (by omega)
        have hq2 : (t - x.dl) / x.per ≤ t - x.dl := Int.ediv_le_self _ (by omega)
        have hfl := Lib.hid fun W : World => r_Floor (t - x.dl) x.per W (by omega) (by omega) (by omega) (by omega)
        rw [hst] at hb2
        clear hst
        have hkn2 : (k : Int) < n := by omega
        go_upto_region 6 with fail
        clear c2'
        refine wp_any (w0 := wr) ⟨[22], [], [some 20, some 21, some 22, some 23, some 24, some 25, some 26, some 27, some 28, some 29, some 30, some 31, some 32, some 33, some 34, some 35, some 36, some 37, some 38, some 39, some 40, some 41, none], [[], [], [], [1, 2], [1, 2, 3], [1, 2, 3, 4], [], [], [], [7, 8], [7, 8, 9], [7, 8, 9, 10], [6, 7, 8, 9, 10, 11], [], [], [13, 14], [13, 14, 15], [13, 14, 15, 16], [6, 7, 8, 9, 10, 11, 12, 13, 14, 15, 16, 17], [6, 7, 8, 9, 10, 11, 12, 13, 14, 15, 16, 17, 18], [1, 2, 3, 4, 5, 6, 7, 8, 9, 10, 11, 12, 13, 14, 15, 16, 17, 18, 19], [0, 1, 2, 3, 4, 5, 6, 7, 8, 9, 10, 11, 12, 13, 14, 15, 16, 17, 18, 19, 20], [0, 1, 2, 3, 4, 5, 6, 7, 8, 9, 10, 11, 12, 13, 14, 15, 16, 17, 18, 19, 20, 21]], [[], [], [], [1, 2], [3], [4], [], [], [], [7, 8], [9], [10], [6, 11], [], [], [13, 14], [15], [16], [12, 17], [18], [5, 19], [0, 20], []]⟩ (fun _ => []) (by kernel_rfl) (by kernel_rfl) (by (with_reducible (repeat' (first | assumption | apply jA | apply jB | apply jC | apply jD | apply jE | apply jF | apply hb3 | omega | (simp; done) | (simp; omega) | (dsimp only; omega))))) (fun u => by simp only [putD, Act.put, List.setIfInBounds_toArray, List.set_cons_zero, List.set_cons_succ, Nat.zero_add, Nat.reduceAdd]; rfl) ?_
        apply RGW.on (i := 0) rfl
        · (simp only [gA, gB, gC] <;> rfl)
        · intro γ u W hcur hd
          clear hd
          (try dsimp only)
          refine ⟨rfl, ?_⟩
          go_simp <;> (try go_bits) <;> with_reducible rfl
        · exact fun _ _ _ => rfl
        · rfl
        dsimp only [nA, cA]
        apply RGW.on (i := 1) rfl
        · (simp only [gA, gB, gC] <;> rfl)
        · intro γ u W hcur hd
          clear hd
          (try dsimp only)
          refine ⟨rfl, ?_⟩
          go_simp <;> (try go_bits) <;> with_reducible rfl
        · exact fun _ _ _ => rfl
        · rfl
        dsimp only [nA, cA]
        apply RGW.on (i := 2) rfl
        · (simp only [gA, gB, gC] <;> rfl)
        · intro γ u W hcur hd
          clear hd
          (try dsimp only)
          refine ⟨rfl, ?_⟩
          go_simp <;> (try go_bits) <;> with_reducible rfl
        · exact fun _ _ _ => rfl
        · rfl
        dsimp only [nA, cA]
        apply RGW.on (i := 3) rfl
        · (simp only [gA, gB, gC] <;> rfl)
        · intro γ u W hcur hd
          obtain ⟨⟨h1, -, -⟩, ⟨h2, -, -⟩, -⟩ := hd
          dsimp only at h1 h2
          (try simp only [h1, h2])
          refine ⟨rfl, ?_⟩
          go_simp <;> (try go_bits) <;> with_reducible rfl
        · exact fun _ _ _ => rfl
        · rfl
        dsimp only [nA, cA]
        apply RGW.on (i := 4) rfl
        · (simp only [gA, gB, gC] <;> rfl)
        · intro γ u W hcur hd
          obtain ⟨⟨h3, -, -⟩, -⟩ := hd
          dsimp only at h3
          (try simp only [h3])
          refine ⟨rfl, ?_⟩
          go_simp <;> (try go_bits) <;> with_reducible rfl
        · exact fun _ _ _ => rfl
        · rfl
        dsimp only [nA, cA]
        apply RGW.on (i := 5) rfl
        · (simp only [gA, gB, gC] <;> rfl)
        · intro γ u W hcur hd
          obtain ⟨⟨h4, -, -⟩, -⟩ := hd
          dsimp only at h4
          (try simp only [h4])
          refine ⟨rfl, ?_⟩
          go_simp <;> (try go_bits) <;> with_reducible rfl
        · exact fun _ _ _ => rfl
        · rfl
        dsimp only [nA, cA]
        apply RGW.on (i := 6) rfl
        · (simp only [gA, gB, gC] <;> rfl)
        · intro γ u W hcur hd
          clear hd
          (try dsimp only)
          refine ⟨rfl, ?_⟩
          go_simp <;> (try go_bits) <;> with_reducible rfl
        · exact fun _ _ _ => rfl
        · rfl
        dsimp only [nA, cA]
        apply RGW.on (i := 7) rfl
        · (simp only [gA, gB, gC] <;> rfl)
        · intro γ u W hcur hd
          clear hd
          (try dsimp only)
          refine ⟨rfl, ?_⟩
          go_simp <;> (try go_bits) <;> with_reducible rfl
        · exact fun _ _ _ => rfl
        · rfl
        dsimp only [nA, cA]
        apply RGW.on (i := 8) rfl
        · (simp only [gA, gB, gC] <;> rfl)
        · intro γ u W hcur hd
          clear hd
          (try dsimp only)
          refine ⟨rfl, ?_⟩
          go_simp <;> (try go_bits) <;> with_reducible rfl
        · exact fun _ _ _ => rfl
        · rfl
        dsimp only [nA, cA]
        apply RGW.on (i := 9) rfl
        · (simp only [gA, gB, gC] <;> rfl)
        · intro γ u W hcur hd
          obtain ⟨⟨h7, -, -⟩, ⟨h8, -, -⟩, -⟩ := hd
          dsimp only at h7 h8
          (try simp only [h7, h8])
          refine ⟨rfl, ?_⟩
          go_simp <;> (try go_bits) <;> with_reducible rfl
        · exact fun _ _ _ => rfl
        · rfl
        dsimp only [nA, cA]
        apply RGW.on (i := 10) rfl
        · (simp only [gA, gB, gC] <;> rfl)
        · intro γ u W hcur hd
          obtain ⟨⟨h9, -, -⟩, -⟩ := hd
          dsimp only at h9
          (try simp only [h9])
          refine ⟨rfl, ?_⟩
          go_simp <;> (try go_bits) <;> with_reducible rfl
        · exact fun _ _ _ => rfl
        · rfl
        dsimp only [nA, cA]
        apply RGW.on (i := 11) rfl
        · (simp only [gA, gB, gC] <;> rfl)
        · intro γ u W hcur hd
          obtain ⟨⟨h10, -, -⟩, -⟩ := hd
          dsimp only at h10
          (try simp only [h10])
          refine ⟨rfl, ?_⟩
          go_simp <;> (try go_bits) <;> with_reducible rfl
        · exact fun _ _ _ => rfl
        · rfl
        dsimp only [nA, cA]
        apply RGW.on (i := 12) rfl
        · (simp only [gA, gB, gC] <;> rfl)
        · intro γ u W hcur hd
          obtain ⟨⟨h6, -, -⟩, ⟨h11, -, -⟩, -⟩ := hd
          dsimp only at h6 h11
          (try simp only [h6, h11])
          refine ⟨rfl, ?_⟩
          go_simp <;> (try go_bits) <;> with_reducible rfl
        · exact fun _ _ _ => rfl
        · rfl
        dsimp only [nA, cA]
        apply RGW.on (i := 13) rfl
        · (simp only [gA, gB, gC] <;> rfl)
        · intro γ u W hcur hd
          clear hd
          (try dsimp only)
          refine ⟨rfl, ?_⟩
          go_simp <;> (try go_bits) <;> with_reducible rfl
        · exact fun _ _ _ => rfl
        · rfl
        dsimp only [nA, cA]
        apply RGW.on (i := 14) rfl
        · (simp only [gA, gB, gC] <;> rfl)
        · intro γ u W hcur hd
          clear hd
          (try dsimp only)
          refine ⟨rfl, ?_⟩
          go_simp <;> (try go_bits) <;> with_reducible rfl
        · exact fun _ _ _ => rfl
        · rfl
        dsimp only [nA, cA]
        apply RGW.on (i := 15) rfl
        · (simp only [gA, gB, gC] <;> rfl)
        · intro γ u W hcur hd
          obtain ⟨⟨h13, -, -⟩, ⟨h14, -, -⟩, -⟩ := hd
          dsimp only at h13 h14
          (try simp only [h13, h14])
          refine ⟨rfl, ?_⟩
          go_simp <;> (try go_bits) <;> with_reducible rfl
        · exact fun _ _ _ => rfl
        · rfl
        dsimp only [nA, cA]
        apply RGW.on (i := 16) rfl
        · (simp only [gA, gB, gC] <;> rfl)
        · intro γ u W hcur hd
          obtain ⟨⟨h15, -, -⟩, -⟩ := hd
          dsimp only at h15
          (try simp only [h15])
          refine ⟨rfl, ?_⟩
          go_simp <;> (try go_bits) <;> with_reducible rfl
        · exact fun _ _ _ => rfl
        · rfl
        dsimp only [nA, cA]
        apply RGW.on (i := 17) rfl
        · (simp only [gA, gB, gC] <;> rfl)
        · intro γ u W hcur hd
          obtain ⟨⟨h16, -, -⟩, -⟩ := hd
          dsimp only at h16
          (try simp only [h16])
          refine ⟨rfl, ?_⟩
          go_simp <;> (try go_bits) <;> with_reducible rfl
        · exact fun _ _ _ => rfl
        · rfl
        dsimp only [nA, cA]
        apply RGW.call (i := 18) rfl
        · (simp only [gA, gB, gC] <;> rfl)
        · intro γ u W hcur hd
          obtain ⟨⟨h12, -, -⟩, ⟨h17, -, -⟩, -⟩ := hd
          dsimp only at h12 h17
          (try simp only [h12, h17])
          refine ⟨rfl, fun K hK => ?_⟩
          go_simp
          (go_at_call 121; (with_reducible refine (hfl.out _).mono ?_); rintro e w3 ⟨rfl, rfl⟩)
          (try dsimp only)
          exact hK.out _ _ rfl (by (with_reducible (repeat' (first | assumption | apply jA | apply jB | apply jC | apply jD | apply jE | apply jF | apply hb3 | omega | (simp; done) | (simp; omega) | (dsimp only; omega)))))
        · exact fun _ _ _ => rfl
        · rfl
        dsimp only [nA, cA]
        apply RGW.on (i := 19) rfl
        · (simp only [gA, gB, gC] <;> rfl)
        · intro γ u W hcur hd
          obtain ⟨⟨h18, -, -⟩, -⟩ := hd
          dsimp only at h18
          (try simp only [h18])
          refine ⟨rfl, ?_⟩
          go_simp <;> (try go_bits) <;> with_reducible rfl
        · exact fun _ _ _ => rfl
        · rfl
        dsimp only [nA, cA]
        apply RGW.on (i := 20) rfl
        · (simp only [gA, gB, gC] <;> rfl)
        · intro γ u W hcur hd
          obtain ⟨⟨h5, -, -⟩, ⟨h19, -, -⟩, -⟩ := hd
          dsimp only at h5 h19
          (try simp only [h5, h19])
          refine ⟨rfl, ?_⟩
          go_simp <;> (try go_bits) <;> with_reducible rfl
        · exact fun _ _ _ => rfl
        · rfl
        dsimp only [nA, cA]
        apply RGW.on (i := 21) rfl
        · (simp only [gA, gB, gC] <;> rfl)
        · intro γ u W hcur hd
          obtain ⟨⟨h0, -, -⟩, ⟨h20, -, -⟩, -⟩ := hd
          dsimp only at h0 h20
          (try simp only [h0, h20])
          refine ⟨rfl, ?_⟩
          go_simp <;> (try go_bits) <;> with_reducible rfl
        · exact fun _ _ _ => rfl
        · rfl
        dsimp only [nA, cA]
        refine RGW.skip (i := 22) rfl rfl ?_
        dsimp only [nA, cA]
        refine RGW.fin (fun γ u wc hwc hd hdis => ?_)
        obtain ⟨⟨h0, -, -⟩, ⟨h1, -, -⟩, ⟨h2, -, -⟩, ⟨h3, -, -⟩, ⟨h4, -, -⟩, ⟨h5, -, -⟩, ⟨h6, -, -⟩, ⟨h7, -, -⟩, ⟨h8, -, -⟩, ⟨h9, -, -⟩, ⟨h10, -, -⟩, ⟨h11, -, -⟩, ⟨h12, -, -⟩, ⟨h13, -, -⟩, ⟨h14, -, -⟩, ⟨h15, -, -⟩, ⟨h16, -, -⟩, ⟨h17, -, -⟩, ⟨h18, -, -⟩, ⟨h19, -, -⟩, ⟨h20, -, -⟩, ⟨h21, -, -⟩, -⟩ := hd
        dsimp only at h0 h1 h2 h3 h4 h5 h6 h7 h8 h9 h10 h11 h12 h13 h14 h15 h16 h17 h18 h19 h20 h21
        clear hdis
        simp only [h0, h1, h2, h3, h4, h5, h6, h7, h8, h9, h10, h11, h12, h13, h14, h15, h16, h17, h18, h19, h20, h21]
        clear h21 h20 h19 h18 h17 h16 h15 h14 h13 h12 h11 h10 h9 h8 h7 h6 h5 h4 h3 h2 h1 h0
        clear u
        simp only [List.map_cons, List.map_nil]
        apply PlanW.step
        · (simp only [gA, gB, gC] <;> rfl)
        · rfl
        intro K hK
        go_simp
        refine hK.out _ _ (by with_reducible first | assumption | exact bx_refl _ _) (fun hcur => ?_)
        clear hK K
        try simp only [Act.put, List.setIfInBounds_toArray, List.set_cons_zero, List.set_cons_succ]
        refine PlanW.done ?_
        have hb3 := bl_tt hwc
        have hbw := bl_tr hb0 hwc
        go_wp2
        go_roundw
        case rel => exact ⟨k + 1, by omega, by go_num, by rw [hst'.out], hbw⟩
        case measure => simp [intOf]; omega
      · rw [dmd1_no hdl] at hst
        have hst' := Lib.hid hst
        clear hst
        go_wp2
        go_roundw
        case rel => exact ⟨k + 1, by omega, by go_num, by rw [hst'.out]; simp, hb0⟩
        case measure => simp [intOf]; omega
    · have e : k = n := by omega
      go_wp2
      go_ret
      exact ⟨by rw [e, hend.out] <;> rfl, hb0⟩
end Go.Proofs.YtdlmkblmljhbfaaDoor
namespace Go.Proofs.YtdlmkblmljhbfaaDoor
set_option linter.unusedSimpArgs false
set_option linter.unusedVariables false
open Go.RowKit Go.Shelf
attribute [local go_sem] bl_al bl_drew bl_drewN bl_refl bx_al bx_drew bx_drewN bx_refl
set_option maxRecDepth 20000
theorem gcd_step {x y : Nat} (h : y ≠ 0) : Nat.gcd x y = Nat.gcd y (x % y) := by
  rw [Nat.gcd_comm x y, Nat.gcd_rec y x, Nat.gcd_comm]
set_option maxHeartbeats 1000000 in
theorem c_divisor (a b : Nat) (w : World) (ha : a ≤ 1000000000) (hb : b ≤ 1000000000) : Calls Tryd.prog 120 #[.int .i64 (a : Nat), .int .i64 (b : Nat)] w (Ret (.int .i64 (Nat.gcd a b : Nat)) w) := by
  obtain ⟨g, hg⟩ : ∃ g, Hid (Nat.gcd a b = g) := ⟨_, rfl⟩
  rw [hg.out]
  go_enter Tryd.func120, Tryd.ntmps120
  go_wp2
  go_loopw [0, 1] (fun u v wr => ∃ x y : Nat, u = .int .i64 x ∧ v = .int .i64 y ∧ x ≤ 1000000000 ∧ y ≤ 1000000000 ∧ Nat.gcd x y = g ∧ Below w.heap.size w wr) (fun _ v _ => (intOf v).toNat)
  case atStart => exact ⟨a, b, rfl, rfl, ha, hb, hg.out, Below.refl _ _⟩
  case round =>
    obtain ⟨x, y, rfl, rfl, hx, hy, hgc, hb0⟩ := hrel
    by_cases h0 : y = 0
    · subst h0
      have e : Hid (x = g) := Lib.hid (by rw [← hgc, Nat.gcd_zero_right])
      clear hgc
      go_wp2
      go_ret
      exact ⟨by rw [e.out] <;> rfl, hb0⟩
    · have h0' : ((y : Int) != 0) = true := by simp; omega
      have h1 : ¬ (y : Int) = 0 := by omega
      have hst := Lib.hid ((gcd_step (x := x) h0).symm.trans hgc)
      have hm : (x : Int) % y = ((x % y : Nat) : Int) := by simp
      have hlt := Nat.mod_lt x (Nat.pos_of_ne_zero h0)
      generalize x % y = z at *
      clear hgc
      go_upto_region 2 with fail
      refine wp_any (w0 := wr) ⟨[4, 5], [2, 3], [some 7, some 8, some 9, some 10, none, none], [[], [], [], [1, 2], [0, 1], [0, 1, 2, 3, 4]], [[], [], [], [1, 2], [], []]⟩ (fun _ => []) (by kernel_rfl) (by kernel_rfl) (by (with_reducible (repeat' (first | assumption | apply jA | apply jB | apply jC | apply jD | apply jE | apply jF | apply hb3 | omega | (simp; done) | (simp; omega) | (dsimp only; omega))))) (fun u => by simp only [putD, Act.put, List.setIfInBounds_toArray, List.set_cons_zero, List.set_cons_succ, Nat.zero_add, Nat.reduceAdd]; rfl) ?_
      apply RGW.on (i := 0) rfl
      · (simp only [gA, gB, gC] <;> rfl)
      · intro γ u W hcur hd
        clear hd
        (try dsimp only)
        refine ⟨rfl, ?_⟩
        go_simp <;> (try go_bits) <;> with_reducible rfl
      · exact fun _ _ _ => rfl
      · rfl
      dsimp only [nA, cA]
      apply RGW.on (i := 1) rfl
      · (simp only [gA, gB, gC] <;> rfl)
      · intro γ u W hcur hd
        clear hd
        (try dsimp only)
        refine ⟨rfl, ?_⟩
        go_simp <;> (try go_bits) <;> with_reducible rfl
      · exact fun _ _ _ => rfl
      · rfl
      dsimp only [nA, cA]
      apply RGW.onL (i := 2) rfl
      · (simp only [gA, gB, gC] <;> rfl)
      · intro γ u Wm W hcur hd hX
        clear hd
        (try dsimp only)
        refine ⟨rfl, ?_⟩
        go_simp <;> (try go_bits) <;> with_reducible rfl
      · exact fun _ _ _ => rfl
      dsimp only [nA, cA]
      apply RGW.onL (i := 3) rfl
      · (simp only [gA, gB, gC] <;> rfl)
      · intro γ u Wm W hcur hd hX
        obtain ⟨⟨h1, -, -⟩, ⟨h2, -, -⟩, -⟩ := hd
        dsimp only at h1 h2
        (try simp only [h1, h2])
        refine ⟨rfl, ?_⟩
        go_simp <;> (try go_bits) <;> with_reducible rfl
      · exact fun _ _ _ => rfl
      dsimp only [nA, cA]
      refine RGW.skip (i := 4) rfl rfl ?_
      dsimp only [nA, cA]
      refine RGW.skip (i := 5) rfl rfl ?_
      dsimp only [nA, cA]
      refine RGW.fin (fun γ u wj hwj hd hdis => ?_)
      obtain ⟨⟨h0, -, -⟩, ⟨h1, -, -⟩, ⟨h2, -, -⟩, ⟨h3, -, -⟩, -⟩ := hd
      dsimp only at h0 h1 h2 h3
      clear hdis
      simp only [h0, h1, h2, h3]
      clear h3 h2 h1 h0
      clear u
      simp only [List.map_cons, List.map_nil]
      apply PlanW.step
      · (simp only [gA, gB, gC] <;> rfl)
      · rfl
      intro K hK
      go_simp
      refine hK.out _ _ (by with_reducible first | assumption | exact bx_refl _ _) (fun hcur => ?_)
      clear hK K
      try simp only [Act.put, List.setIfInBounds_toArray, List.set_cons_zero, List.set_cons_succ]
      apply PlanW.step
      · (simp only [gA, gB, gC] <;> rfl)
      · rfl
      intro K hK
      go_simp
      refine hK.out _ _ (by with_reducible first | assumption | exact bx_refl _ _) (fun hcur => ?_)
      clear hK K
      try simp only [Act.put, List.setIfInBounds_toArray, List.set_cons_zero, List.set_cons_succ]
      refine PlanW.done ?_
      have hb3 := bl_tt hwj
      have hbj := bl_tr hb0 hwj
      go_wp2
      go_roundw
      case rel => exact ⟨y, z, by go_num, by simp [hm], hy, by omega, hst.out, hbj⟩
      case measure => simp [intOf, hm]; omega
theorem r_Size (x : Nat) (w : World) (hx : x ≤ 1000000000) : Calls Tryd.prog 139 #[.int .i64 (x : Nat)] w (Same (.int .i64 (x : Nat)) w) := by
  have hm : max (x : Int) (-(x : Int)) = x := by omega
  go_enter Tryd.func139, Tryd.ntmps139
  go_wp2
  go_ret
  exact ⟨by simp [hm], rfl⟩
set_option maxHeartbeats 1000000 in
theorem r_Gcd (a b : Nat) (w : World) (ha : a ≤ 1000000000) (hb : b ≤ 1000000000) : Calls Tryd.prog 122 #[.int .i64 (a : Nat), .int .i64 (b : Nat)] w (Ret (.int .i64 (Nat.gcd a b : Nat)) w) := by
  obtain ⟨g, hg⟩ : ∃ g, Hid (Nat.gcd a b = g) := ⟨_, rfl⟩
  rw [hg.out]
  go_enter Tryd.func122, Tryd.ntmps122
  go_wp2
  go_loopw [0, 1] (fun u v wr => ∃ x y : Nat, u = .int .i64 x ∧ v = .int .i64 y ∧ x ≤ 1000000000 ∧ y ≤ 1000000000 ∧ Nat.gcd x y = g ∧ Below w.heap.size w wr) (fun _ v _ => (intOf v).toNat)
  case atStart => exact ⟨a, b, rfl, rfl, ha, hb, hg.out, Below.refl _ _⟩
  case round =>
    obtain ⟨x, y, rfl, rfl, hx, hy, hgc, hb0⟩ := hrel
    by_cases h0 : y = 0
    · subst h0
      have e : Hid (x = g) := Lib.hid (by rw [← hgc, Nat.gcd_zero_right])
      clear hgc
      go_wp2_with (go_at_call 139; (with_reducible refine (r_Size x _ hx).mono ?_); rintro e w3 ⟨rfl, rfl⟩)
      go_ret
      exact ⟨by rw [e.out] <;> rfl, hb0⟩
    · have h0' : ((y : Int) != 0) = true := by simp; omega
      have h1 : ¬ (y : Int) = 0 := by omega
      have hst := Lib.hid ((gcd_step (x := x) h0).symm.trans hgc)
      have hm : (x : Int) % y = ((x % y : Nat) : Int) := by simp
      have hlt := Nat.mod_lt x (Nat.pos_of_ne_zero h0)
      generalize x % y = z at *
      clear hgc
      go_upto_region 2 with fail
      refine wp_any (w0 := wr) ⟨[4, 5], [2, 3], [some 7, some 8, some 9, some 10, none, none], [[], [], [], [1, 2], [0, 1], [0, 1, 2, 3, 4]], [[], [], [], [1, 2], [], []]⟩ (fun _ => []) (by kernel_rfl) (by kernel_rfl) (by (with_reducible (repeat' (first | assumption | apply jA | apply jB | apply jC | apply jD | apply jE | apply jF | apply hb3 | omega | (simp; done) | (simp; omega) | (dsimp only; omega))))) (fun u => by simp only [putD, Act.put, List.setIfInBounds_toArray, List.set_cons_zero, List.set_cons_succ, Nat.zero_add, Nat.reduceAdd]; rfl) ?_
      apply RGW.on (i := 0) rfl
      · (simp only [gA, gB, gC] <;> rfl)
      · intro γ u W hcur hd
        clear hd
        (try dsimp only)
        refine ⟨rfl, ?_⟩
        go_simp <;> (try go_bits) <;> with_reducible rfl
      · exact fun _ _ _ => rfl
      · rfl
      dsimp only [nA, cA]
      apply RGW.on (i := 1) rfl
      · (simp only [gA, gB, gC] <;> rfl)
      · intro γ u W hcur hd
        clear hd
        (try dsimp only)
        refine ⟨rfl, ?_⟩
        go_simp <;> (try go_bits) <;> with_reducible rfl
      · exact fun _ _ _ => rfl
      · rfl
      dsimp only [nA, cA]
      apply RGW.onL (i := 2) rfl
      · (simp only [gA, gB, gC] <;> rfl)
      · intro γ u Wm W hcur hd hX
        clear hd
        (try dsimp only)
        refine ⟨rfl, ?_⟩
        go_simp <;> (try go_bits) <;> with_reducible rfl
      · exact fun _ _ _ => rfl
      dsimp only [nA, cA]
      apply RGW.onL (i := 3) rfl
      · (simp only [gA, gB, gC] <;> rfl)
      · intro γ u Wm W hcur hd hX
        obtain ⟨⟨h1, -, -⟩, ⟨h2, -, -⟩, -⟩ := hd
        dsimp only at h1 h2
        (try simp only [h1, h2])
        refine ⟨rfl, ?_⟩
        go_simp <;> (try go_bits) <;> with_reducible rfl
      · exact fun _ _ _ => rfl
      dsimp only [nA, cA]
      refine RGW.skip (i := 4) rfl rfl ?_
      dsimp only [nA, cA]
      refine RGW.skip (i := 5) rfl rfl ?_
      dsimp only [nA, cA]
      refine RGW.fin (fun γ u wj hwj hd hdis => ?_)
      obtain ⟨⟨h0, -, -⟩, ⟨h1, -, -⟩, ⟨h2, -, -⟩, ⟨h3, -, -⟩, -⟩ := hd
      dsimp only at h0 h1 h2 h3
      clear hdis
      simp only [h0, h1, h2, h3]
      clear h3 h2 h1 h0
      clear u
      simp only [List.map_cons, List.map_nil]
      apply PlanW.step
      · (simp only [gA, gB, gC] <;> rfl)
      · rfl
      intro K hK
      go_simp
      refine hK.out _ _ (by with_reducible first | assumption | exact bx_refl _ _) (fun hcur => ?_)
      clear hK K
      try simp only [Act.put, List.setIfInBounds_toArray, List.set_cons_zero, List.set_cons_succ]
      apply PlanW.step
      · (simp only [gA, gB, gC] <;> rfl)
      · rfl
      intro K hK
      go_simp
      refine hK.out _ _ (by with_reducible first | assumption | exact bx_refl _ _) (fun hcur => ?_)
      clear hK K
      try simp only [Act.put, List.setIfInBounds_toArray, List.set_cons_zero, List.set_cons_succ]
      refine PlanW.done ?_
      have hb3 := bl_tt hwj
      have hbj := bl_tr hb0 hwj
      go_wp2
      go_roundw
      case rel => exact ⟨y, z, by go_num, by simp [hm], hy, by omega, hst.out, hbj⟩
      case measure => simp [intOf, hm]; omega
/-- The smallest common multiple of periods, as long as it is small. -/
def cyS : List Sm → Nat → Option Nat
  | [], n => some n
  | s :: l, n => if 5000 < n / Nat.gcd n s.per.toNat * s.per.toNat then none else cyS l (n / Nat.gcd n s.per.toNat * s.per.toNat)
theorem cyS_drop {l : List Sm} {k : Nat} {x : Sm} (hx : l[k]? = some x) (n : Nat) : cyS (l.drop k) n = if 5000 < n / Nat.gcd n x.per.toNat * x.per.toNat then none else cyS (l.drop (k + 1)) (n / Nat.gcd n x.per.toNat * x.per.toNat) := by
  have hk := (List.getElem?_eq_some_iff.1 hx).1
  rw [List.drop_eq_getElem_cons hk, (List.getElem?_eq_some_iff.1 hx).2]
  rfl
/-- The first number at which a demand is too great. -/
def ovF (f : Int → Int) : Nat → Nat → Option Nat
  | 0, _ => none
  | d + 1, t => if (t : Int) < f t then some t else ovF f d (t + 1)
def ovS (l : List Sm) (c : Nat) : Option Nat := ovF (dmdS l) c 1
theorem cy_step {n p : Nat} (hn : 1 ≤ n) (hn2 : n ≤ 5000) (hp : 1 ≤ p) (hp2 : p ≤ 60) : 1 ≤ n / Nat.gcd n p * p ∧ n / Nat.gcd n p * p ≤ 300000 ∧ 1 ≤ Nat.gcd n p ∧ n / Nat.gcd n p ≤ 5000 := by
  have hg : 0 < Nat.gcd n p := Nat.gcd_pos_of_pos_left _ (by omega)
  have h1 : Nat.gcd n p ≤ n := Nat.gcd_le_left _ (by omega)
  have h2 : 0 < n / Nat.gcd n p := Nat.div_pos h1 hg
  have h3 : n / Nat.gcd n p ≤ n := Nat.div_le_self _ _
  have h4 : n / Nat.gcd n p * p ≤ 5000 * 60 := Nat.mul_le_mul (by omega) hp2
  have h5 : 1 * 1 ≤ n / Nat.gcd n p * p := Nat.mul_le_mul (by omega) hp
  omega
set_option maxHeartbeats 2000000 in
theorem r_Cycle (l : List Sm) (A : Option Addr) (c : Nat) (w : World) (hs : Sl cSm 4 w A l) (hl : l.length ≤ 6) (hok : ∀ o ∈ l, OkSm o) :
    Calls Tryd.prog 62 #[.slice A l.length c] w (fun e w' => Below w.heap.size w w' ∧ ((cyS l 1 = none ∧ e = .returned (.tuple #[.int .i64 0, .bool false])) ∨ ∃ n : Nat, cyS l 1 = some n ∧ 1 ≤ n ∧ n ≤ 5000 ∧ e = .returned (.tuple #[.int .i64 n, .bool true]))) := by
  have Hs := Lib.hid hs
  have hst := Lib.hid fun k x (hx : l[k]? = some x) n => cyS_drop hx n
  have hok' := Lib.hid fun k x (hx : l[k]? = some x) => hok x (List.mem_of_getElem? hx)
  have hend : Hid (∀ n, cyS (l.drop l.length) n = some n) := fun n => by rw [List.drop_length]; rfl
  clear hs hok
  obtain ⟨g, hg⟩ : ∃ g : Nat → Nat → Option Nat, ∀ k n, cyS (l.drop k) n = g k n := ⟨_, fun _ _ => rfl⟩
  have hg0 : cyS l 1 = g 0 1 := hg 0 1
  rw [hg0]
  simp only [hg] at hst hend
  clear hg hg0
  obtain ⟨n, Hn⟩ : ∃ n, Hid (l.length = n) := ⟨_, rfl⟩
  rw [Hn.out] at hl hend ⊢
  go_enter Tryd.func62, Tryd.ntmps62
  go_wp2
  go_loopw [4, 5] (fun s i wr => ∃ k v : Nat, k ≤ n ∧ i = .int .i64 k ∧ s = .int .i64 v ∧ 1 ≤ v ∧ v ≤ 5000 ∧ g 0 1 = g k v ∧ Below w.heap.size w wr) (fun _ i _ => n - (intOf i).toNat)
  case atStart => exact ⟨0, 1, Nat.zero_le _, rfl, rfl, by omega, by omega, rfl, Below.refl _ _⟩
  case round =>
    obtain ⟨k, v, hk, rfl, rfl, hv1, hv2, hi, hb0⟩ := hrel
    replace hi := Lib.hid hi
    by_cases hkn : k < n
    · have hx : l[k]? = some (l[k]'(by rw [Hn.out]; exact hkn)) := List.getElem?_eq_getElem _
      generalize l[k]'(by rw [Hn.out]; exact hkn) = x at hx
      have ho := hok'.out k x hx
      have hs := hst.out k x hx v
      obtain ⟨hp1, hp2, -, -, -, -⟩ := ho
      obtain ⟨b, off, rfl, hc⟩ := (Hs.out.below hb0) k x hx
      obtain ⟨p, hp⟩ : ∃ p : Nat, x.per = p := ⟨x.per.toNat, by omega⟩
      rw [hp] at hs hp1 hp2
      rw [Int.toNat_natCast] at hs
      have c1 : ∀ W, Below wr.heap.size wr W → W.cell? ⟨b, off + k * 4 + 1, none⟩ = some (.int .i64 (p : Nat)) := later (by rw [← hp]; exact hc 1 _ rfl)
      clear hc hx hp
      have hgc := Lib.hid fun W : World => r_Gcd v p W (by omega) (by omega)
      obtain ⟨h5, h6, h7, h8⟩ := cy_step hv1 hv2 (show 1 ≤ p by omega) (show p ≤ 60 by omega)
      have hkn2 : (k : Int) < n := by omega
      have hdv : ((v : Nat) : Int) / ((Nat.gcd v p : Nat) : Int) = ((v / Nat.gcd v p : Nat) : Int) := by simp
      generalize Nat.gcd v p = d at *
      generalize v / d = q at *
      have hmu : (q : Int) * p = ((q * p : Nat) : Int) := by simp
      generalize q * p = r at *
      have hd0 : ¬ d = 0 := by omega
      replace hs := Lib.hid hs
      go_upto_region 5 with fail
      refine wp_any (w0 := wr) ⟨[15], [], [some 12, some 13, some 14, some 15, some 16, some 17, some 18, some 19, some 20, some 21, some 22, some 23, some 24, some 25, some 26, none], [[], [], [], [], [2, 3], [2, 3, 4], [2, 3, 4, 5], [1, 2, 3, 4, 5, 6], [0, 1, 2, 3, 4, 5, 6, 7], [], [], [9, 10], [9, 10, 11], [9, 10, 11, 12], [0, 1, 2, 3, 4, 5, 6, 7, 8, 9, 10, 11, 12, 13], [0, 1, 2, 3, 4, 5, 6, 7, 8, 9, 10, 11, 12, 13, 14]], [[], [], [], [], [2, 3], [4], [5], [1, 6], [0, 7], [], [], [9, 10], [11], [12], [8, 13], []]⟩ (fun _ => []) (by kernel_rfl) (by kernel_rfl) (by (with_reducible (repeat' (first | assumption | apply jA | apply jB | apply jC | apply jD | apply jE | apply jF | apply hb3 | omega | (simp; done) | (simp; omega) | (dsimp only; omega))))) (fun u => by simp only [putD, Act.put, List.setIfInBounds_toArray, List.set_cons_zero, List.set_cons_succ, Nat.zero_add, Nat.reduceAdd]; rfl) ?_
      apply RGW.on (i := 0) rfl
      · (simp only [gA, gB, gC] <;> rfl)
      · intro γ u W hcur hd
        clear hd
        (try dsimp only)
        refine ⟨rfl, ?_⟩
        go_simp <;> (try go_bits) <;> with_reducible rfl
      · exact fun _ _ _ => rfl
      · rfl
      dsimp only [nA, cA]
      apply RGW.on (i := 1) rfl
      · (simp only [gA, gB, gC] <;> rfl)
      · intro γ u W hcur hd
        clear hd
        (try dsimp only)
        refine ⟨rfl, ?_⟩
        go_simp <;> (try go_bits) <;> with_reducible rfl
      · exact fun _ _ _ => rfl
      · rfl
      dsimp only [nA, cA]
      apply RGW.on (i := 2) rfl
      · (simp only [gA, gB, gC] <;> rfl)
      · intro γ u W hcur hd
        clear hd
        (try dsimp only)
        refine ⟨rfl, ?_⟩
        go_simp <;> (try go_bits) <;> with_reducible rfl
      · exact fun _ _ _ => rfl
      · rfl
      dsimp only [nA, cA]
      apply RGW.on (i := 3) rfl
      · (simp only [gA, gB, gC] <;> rfl)
      · intro γ u W hcur hd
        clear hd
        (try dsimp only)
        refine ⟨rfl, ?_⟩
        go_simp <;> (try go_bits) <;> with_reducible rfl
      · exact fun _ _ _ => rfl
      · rfl
      dsimp only [nA, cA]
      apply RGW.on (i := 4) rfl
      · (simp only [gA, gB, gC] <;> rfl)
      · intro γ u W hcur hd
        obtain ⟨⟨h2, -, -⟩, ⟨h3, -, -⟩, -⟩ := hd
        dsimp only at h2 h3
        (try simp only [h2, h3])
        refine ⟨rfl, ?_⟩
        go_simp <;> (try go_bits) <;> with_reducible rfl
      · exact fun _ _ _ => rfl
      · rfl
      dsimp only [nA, cA]
      apply RGW.on (i := 5) rfl
      · (simp only [gA, gB, gC] <;> rfl)
      · intro γ u W hcur hd
        obtain ⟨⟨h4, -, -⟩, -⟩ := hd
        dsimp only at h4
        (try simp only [h4])
        refine ⟨rfl, ?_⟩
        go_simp <;> (try go_bits) <;> with_reducible rfl
      · exact fun _ _ _ => rfl
      · rfl
      dsimp only [nA, cA]
      apply RGW.on (i := 6) rfl
      · (simp only [gA, gB, gC] <;> rfl)
      · intro γ u W hcur hd
        obtain ⟨⟨h5, -, -⟩, -⟩ := hd
        dsimp only at h5
        (try simp only [h5])
        refine ⟨rfl, ?_⟩
        go_simp <;> (try go_bits) <;> with_reducible rfl
      · exact fun _ _ _ => rfl
      · rfl
      dsimp only [nA, cA]
      apply RGW.call (i := 7) rfl
      · (simp only [gA, gB, gC] <;> rfl)
      · intro γ u W hcur hd
        obtain ⟨⟨h1, -, -⟩, ⟨h6, -, -⟩, -⟩ := hd
        dsimp only at h1 h6
        (try simp only [h1, h6])
        refine ⟨rfl, fun K hK => ?_⟩
        go_simp
        (go_at_call 122; (with_reducible refine (hgc.out _).mono ?_); rintro e w3 ⟨rfl, hb3⟩; replace hb3 := bl_tt hb3)
        (try dsimp only)
        exact hK.out _ _ rfl (by (with_reducible (repeat' (first | assumption | apply jA | apply jB | apply jC | apply jD | apply jE | apply jF | apply hb3 | omega | (simp; done) | (simp; omega) | (dsimp only; omega)))))
      · exact fun _ _ _ => rfl
      · rfl
      dsimp only [nA, cA]
      apply RGW.on (i := 8) rfl
      · (simp only [gA, gB, gC] <;> rfl)
      · intro γ u W hcur hd
        obtain ⟨⟨h0, -, -⟩, ⟨h7, -, -⟩, -⟩ := hd
        dsimp only at h0 h7
        (try simp only [h0, h7])
        refine ⟨rfl, ?_⟩
        go_simp <;> (try go_bits) <;> with_reducible rfl
      · exact fun _ _ _ => rfl
      · rfl
      dsimp only [nA, cA]
      apply RGW.on (i := 9) rfl
      · (simp only [gA, gB, gC] <;> rfl)
      · intro γ u W hcur hd
        clear hd
        (try dsimp only)
        refine ⟨rfl, ?_⟩
        go_simp <;> (try go_bits) <;> with_reducible rfl
      · exact fun _ _ _ => rfl
      · rfl
      dsimp only [nA, cA]
      apply RGW.on (i := 10) rfl
      · (simp only [gA, gB, gC] <;> rfl)
      · intro γ u W hcur hd
        clear hd
        (try dsimp only)
        refine ⟨rfl, ?_⟩
        go_simp <;> (try go_bits) <;> with_reducible rfl
      · exact fun _ _ _ => rfl
      · rfl
      dsimp only [nA, cA]
      apply RGW.on (i := 11) rfl
      · (simp only [gA, gB, gC] <;> rfl)
      · intro γ u W hcur hd
        obtain ⟨⟨h9, -, -⟩, ⟨h10, -, -⟩, -⟩ := hd
        dsimp only at h9 h10
        (try simp only [h9, h10])
        refine ⟨rfl, ?_⟩
        go_simp <;> (try go_bits) <;> with_reducible rfl
      · exact fun _ _ _ => rfl
      · rfl
      dsimp only [nA, cA]
      apply RGW.on (i := 12) rfl
      · (simp only [gA, gB, gC] <;> rfl)
      · intro γ u W hcur hd
        obtain ⟨⟨h11, -, -⟩, -⟩ := hd
        dsimp only at h11
        (try simp only [h11])
        refine ⟨rfl, ?_⟩
        go_simp <;> (try go_bits) <;> with_reducible rfl
      · exact fun _ _ _ => rfl
      · rfl
      dsimp only [nA, cA]
      apply RGW.on (i := 13) rfl
      · (simp only [gA, gB, gC] <;> rfl)
      · intro γ u W hcur hd
        obtain ⟨⟨h12, -, -⟩, -⟩ := hd
        dsimp only at h12
        (try simp only [h12])
        refine ⟨rfl, ?_⟩
        go_simp <;> (try go_bits) <;> with_reducible rfl
      · exact fun _ _ _ => rfl
      · rfl
      dsimp only [nA, cA]
      apply RGW.on (i := 14) rfl
      · (simp only [gA, gB, gC] <;> rfl)
      · intro γ u W hcur hd
        obtain ⟨⟨h8, -, -⟩, ⟨h13, -, -⟩, -⟩ := hd
        dsimp only at h8 h13
        (try simp only [h8, h13])
        refine ⟨rfl, ?_⟩
        go_simp <;> (try go_bits) <;> with_reducible rfl
      · exact fun _ _ _ => rfl
      · rfl
      dsimp only [nA, cA]
      refine RGW.skip (i := 15) rfl rfl ?_
      dsimp only [nA, cA]
      refine RGW.fin (fun γ u wj hwj hd hdis => ?_)
      obtain ⟨⟨h0, -, -⟩, ⟨h1, -, -⟩, ⟨h2, -, -⟩, ⟨h3, -, -⟩, ⟨h4, -, -⟩, ⟨h5, -, -⟩, ⟨h6, -, -⟩, ⟨h7, -, -⟩, ⟨h8, -, -⟩, ⟨h9, -, -⟩, ⟨h10, -, -⟩, ⟨h11, -, -⟩, ⟨h12, -, -⟩, ⟨h13, -, -⟩, ⟨h14, -, -⟩, -⟩ := hd
      dsimp only at h0 h1 h2 h3 h4 h5 h6 h7 h8 h9 h10 h11 h12 h13 h14
      clear hdis
      simp only [h0, h1, h2, h3, h4, h5, h6, h7, h8, h9, h10, h11, h12, h13, h14]
      clear h14 h13 h12 h11 h10 h9 h8 h7 h6 h5 h4 h3 h2 h1 h0
      clear u
      simp only [List.map_cons, List.map_nil]
      apply PlanW.step
      · (simp only [gA, gB, gC] <;> rfl)
      · rfl
      intro K hK
      go_simp
      refine hK.out _ _ (by with_reducible first | assumption | exact bx_refl _ _) (fun hcur => ?_)
      clear hK K
      try simp only [Act.put, List.setIfInBounds_toArray, List.set_cons_zero, List.set_cons_succ]
      refine PlanW.done ?_
      have hb3 := bl_tt hwj
      have hbj := bl_tr hb0 hwj
      clear hmu hdv
      by_cases h5000 : 5000 < r
      · have hr : (5000 : Int) < r := by omega
        have e := Lib.hid (show g 0 1 = none by rw [hi.out, hs.out, if_pos h5000])
        go_wp2
        go_ret2
        exact ⟨hbj, .inl ⟨e.out, rfl⟩⟩
      · have hr : ¬ (5000 : Int) < r := by omega
        have e := Lib.hid (show g 0 1 = g (k + 1) r by rw [hi.out, hs.out, if_neg h5000])
        go_wp2
        go_roundw
        case rel => exact ⟨k + 1, r, by omega, by go_num, rfl, by omega, by omega, e.out, hbj⟩
        case measure => simp [intOf]; omega
    · have e : k = n := by omega
      have e2 : Hid (g 0 1 = some v) := Lib.hid (by rw [hi.out, e, hend.out])
      clear e
      go_wp2
      go_ret2
      exact ⟨hb0, .inr ⟨v, e2.out, hv1, hv2, rfl⟩⟩
set_option maxHeartbeats 2000000 in
theorem r_Overload (l : List Sm) (cy : Nat) (A : Option Addr) (c : Nat) (w : World) (hs : Sl cSm 4 w A l) (hl : l.length ≤ 6) (hok : ∀ o ∈ l, OkSm o) (hc1 : cy ≤ 5000) :
    Calls Tryd.prog 63 #[.slice A l.length c, .int .i64 (cy : Nat)] w (fun e w' => Below w.heap.size w w' ∧ ((ovS l cy = none ∧ e = .returned (.tuple #[.int .i64 0, .bool false])) ∨ ∃ t : Nat, ovS l cy = some t ∧ e = .returned (.tuple #[.int .i64 t, .bool true]))) := by
  have hdm := Lib.hid fun (t : Nat) (ht : t ≤ 5000) W (hb : Below w.heap.size w W) => r_Demand l t A c W (hs.below hb) hl hok (by omega) (by omega)
  have hdef : Hid (ovS l cy = ovF (dmdS l) (cy + 1 - 1) 1) := rfl
  clear hs hok
  generalize ovS l cy = R at *
  generalize dmdS l = f at *
  generalize l.length = n at *
  go_enter Tryd.func63, Tryd.ntmps63
  go_wp2
  go_loopw [6] (fun i wr => ∃ t : Nat, 1 ≤ t ∧ t ≤ cy + 1 ∧ i = .int .i64 t ∧ R = ovF f (cy + 1 - t) t ∧ Below w.heap.size w wr) (fun i _ => cy + 1 - (intOf i).toNat)
  case atStart => exact ⟨1, by omega, by omega, rfl, hdef.out, Below.refl _ _⟩
  case round =>
    obtain ⟨t, ht1, ht2, rfl, hi, hb0⟩ := hrel
    replace hi := Lib.hid hi
    by_cases htc : t ≤ cy
    · have e1 : cy + 1 - t = (cy - t) + 1 := by omega
      have hst := Lib.hid (show R = if (t : Int) < f t then some t else ovF f (cy - t) (t + 1) by rw [hi.out, e1]; rfl)
      have e2 : Hid (cy + 1 - (t + 1) = cy - t) := Lib.hid (by omega)
      clear e1
      have hd := Lib.hid (hdm.out t (by omega) wr hb0)
      generalize f t = y at *
      go_wp2_with fail
      refine hd.out.mono ?_
      rintro e w3 ⟨rfl, hb3⟩
      replace hb0 := bl_tr hb0 hb3
      clear hb3 hd
      by_cases hy : (t : Int) < y
      · have e := Lib.hid (show R = some t by rw [hst.out, if_pos hy])
        go_wp2
        go_ret2
        exact ⟨hb0, .inr ⟨t, e.out, rfl⟩⟩
      · have e := Lib.hid (show R = ovF f (cy + 1 - (t + 1)) (t + 1) by rw [hst.out, if_neg hy, e2.out])
        go_wp2
        go_roundw
        case rel => exact ⟨t + 1, by omega, by omega, by go_num, e.out, hb0⟩
        case measure => simp [intOf]; omega
    · have e1 : cy + 1 - t = 0 := by omega
      have e := Lib.hid (show R = none by rw [hi.out, e1]; rfl)
      clear e1
      go_wp2
      go_ret2
      exact ⟨hb0, .inl ⟨e.out, rfl⟩⟩
end Go.Proofs.YtdlmkblmljhbfaaDoor
namespace Go.Proofs.YtdlmkblmljhbfaaDoor
set_option linter.unusedSimpArgs false
set_option linter.unusedVariables false
/-- How much waits of a queue's messages that were sent at a tick at the latest. -/
def sumLD (c : Int) : List (Int × Int) → Int
  | [] => 0
  | x :: l => (if x.1 ≤ c then x.2 else 0) + sumLD c l
theorem sumLD_app (c : Int) : ∀ a b : List (Int × Int), sumLD c (a ++ b) = sumLD c a + sumLD c b
  | [], b => by simp [sumLD]
  | x :: a, b => by
    rw [List.cons_append, sumLD, sumLD, sumLD_app c a b]
    omega
theorem sumLD_nonneg {c : Int} : ∀ {l : List (Int × Int)}, (∀ x ∈ l, 1 ≤ x.2) → 0 ≤ sumLD c l
  | [], _ => Int.le_refl _
  | x :: l, h => by
    have h1 := h x (by simp)
    have h2 := sumLD_nonneg (c := c) (l := l) fun y hy => h y (by simp [hy])
    rw [sumLD]
    split <;> omega
theorem sumLD_zero {c : Int} : ∀ {l : List (Int × Int)}, (∀ x ∈ l, 1 ≤ x.2) → sumLD c l = 0 → ∀ x ∈ l, c < x.1
  | [], _, _, x, hx => by simp at hx
  | y :: l, h, h0, x, hx => by
    have h1 := h y (by simp)
    have h2 := sumLD_nonneg (c := c) (l := l) fun z hz => h z (by simp [hz])
    rw [sumLD] at h0
    have h3 : ¬ y.1 ≤ c := fun e => by rw [if_pos e] at h0; omega
    rw [if_neg h3] at h0
    rcases List.mem_cons.1 hx with rfl | hx
    · omega
    · exact sumLD_zero (fun z hz => h z (by simp [hz])) (by omega) x hx
theorem sumLD_none {c : Int} : ∀ {l : List (Int × Int)}, (∀ x ∈ l, c < x.1) → sumLD c l = 0
  | [], _ => rfl
  | y :: l, h => by
    have h1 := h y (by simp)
    rw [sumLD, if_neg (by omega), sumLD_none fun z hz => h z (by simp [hz])]
    rfl
theorem sumLD_all {c : Int} : ∀ {l : List (Int × Int)}, (∀ x ∈ l, x.1 ≤ c) → sumLD c l = sumL l
  | [], _ => rfl
  | y :: l, h => by
    rw [sumLD, if_pos (h y (by simp)), sumLD_all fun z hz => h z (by simp [hz]), sumL]
/-- What holds of the queues at each tick, whatever is chosen. -/
structure QOk (n : Nat) (t : Int) (q : Nat → List (Int × Int)) : Prop where
  good : GoodQ t q
  none : ∀ k, n ≤ k → q k = []
  srt : ∀ k, (q k).Pairwise fun x y => x.1 < y.1
theorem qok_send {l : List Sm} {st : List Int} {t : Int} {q : Nat → List (Int × Int)} (hl : ∀ s ∈ l, OkSm s) (ht : 0 ≤ t) (h : QOk l.length t q) : QOk l.length (t + 1) (sendS l st t q) := by
  refine ⟨good_send hl ht h.good, fun k hk => by rw [sendS_out hk]; exact h.none k hk, fun k => ?_⟩
  unfold sendS
  split
  · rw [List.pairwise_append]
    refine ⟨h.srt k, by simp, fun a ha b hb => ?_⟩
    have hb := List.mem_singleton.1 hb
    subst hb
    exact (h.good k a ha).2.2
  · exact h.srt k
theorem qok_tick {n : Nat} {t u : Int} {q : Nat → List (Int × Int)} {wo : Nat → Int} {s : Ss} {o : Int} (h : QOk n u q) (hk : Tick t q wo s o) : QOk n u s.q := by
  refine ⟨good_tick h.good hk, fun k hkn => ?_, fun k => ?_⟩
  · have h0 := h.none k hkn
    cases hk with
    | idle => exact h0
    | last i a r e =>
      show upF q i r k = []
      by_cases hki : k = i
      · subst hki; rw [h0] at e; cases e
      · rw [upF_other _ _ hki]; exact h0
    | more i a m r e h1 =>
      show upF q i ((a, m - 1) :: r) k = []
      by_cases hki : k = i
      · subst hki; rw [h0] at e; cases e
      · rw [upF_other _ _ hki]; exact h0
  · have h0 := h.srt k
    cases hk with
    | idle => exact h0
    | last i a r e =>
      show (upF q i r k).Pairwise _
      by_cases hki : k = i
      · subst hki
        rw [upF_same]
        rw [e] at h0
        exact (List.pairwise_cons.1 h0).2
      · rw [upF_other _ _ hki]; exact h0
    | more i a m r e h1 =>
      show (upF q i ((a, m - 1) :: r) k).Pairwise _
      by_cases hki : k = i
      · subst hki
        rw [upF_same]
        rw [e] at h0
        exact List.pairwise_cons.2 (List.pairwise_cons.1 h0)
      · rw [upF_other _ _ hki]; exact h0
/-- A chooser chooses none, or a stream of which a message waits. -/
def Cr (ch : (Nat → List (Int × Int)) → Int) : Prop := ∀ q, ch q = -1 ∨ ∃ j : Nat, ch q = j ∧ q j ≠ []
section
variable {ch : (Nat → List (Int × Int)) → Int} {l : List Sm} {st : List Int}
theorem ran_tick (hc : Cr ch) (t : Nat) : Tick t (sendS l st t (runS ch l st t).1.q) (runS ch l st t).1.wo (runS ch l st (t + 1)).1 (carS ch l st t (runS ch l st t).1).2 ∧ (carS ch l st t (runS ch l st t).1).2 = ch (sendS l st t (runS ch l st t).1.q) :=
  car_tick l st t (runS ch l st t).1 (hc _)
theorem qok_run (hc : Cr ch) (h : SOk l st) : ∀ t : Nat, QOk l.length t (runS ch l st t).1.q
  | 0 => ⟨fun i x hx => by simp [runS, ss0] at hx, fun _ _ => rfl, fun _ => by simp [runS, ss0]⟩
  | t + 1 => by
    have := qok_tick (qok_send (st := st) (t := t) h.sm (by omega) (qok_run hc h t)) (ran_tick hc t).1
    rw [show ((t + 1 : Nat) : Int) = (t : Int) + 1 by omega]
    exact this
/-- What waits and what was carried is what was sent. -/
theorem cons_run (hc : Cr ch) (k : Nat) : ∀ t : Nat, sumL ((runS ch l st t).1.q k) + ((runS ch l st t).2.count (k : Int) : Nat) = cum l st k t
  | 0 => rfl
  | t + 1 => by
    have ih := cons_run hc k t
    have h1 := sum1_tick (ran_tick (l := l) (st := st) hc t).1 k
    rw [send_sum] at h1
    have h2 : ((runS ch l st (t + 1)).2.count (k : Int) : Int) = ((runS ch l st t).2.count (k : Int) : Nat) + if (carS ch l st t (runS ch l st t).1).2 = k then 1 else 0 := by
      show (((runS ch l st t).2 ++ [(carS ch l st t (runS ch l st t).1).2]).count (k : Int) : Int) = _
      rw [List.count_append, List.count_singleton]
      by_cases e : (carS ch l st t (runS ch l st t).1).2 = k <;> simp [e]
    rw [h1, h2, cum]
    omega
theorem send_sumD (l : List Sm) (st : List Int) (t c : Int) (q : Nat → List (Int × Int)) (k : Nat) : sumLD c (sendS l st t q k) = sumLD c (q k) + if t ≤ c then arr l st t k else 0 := by
  unfold sendS arr
  by_cases h : relB l st t k = true
  · rw [if_pos h, if_pos h, sumLD_app]
    simp [sumLD]
  · rw [if_neg h, if_neg h]
    simp
theorem sumD_tick {t : Int} {q : Nat → List (Int × Int)} {wo : Nat → Int} {s : Ss} {o : Int} (hk : Tick t q wo s o) :
    (o = -1 ∧ s.q = q) ∨ ∃ (i : Nat) (a f : Int) (r : List (Int × Int)), o = i ∧ q i = (a, f) :: r ∧ ∀ (c : Int) (k : Nat), sumLD c (s.q k) = sumLD c (q k) - if k = i ∧ a ≤ c then 1 else 0 := by
  cases hk with
  | idle => exact .inl ⟨rfl, rfl⟩
  | last i a r e =>
    refine .inr ⟨i, a, 1, r, rfl, e, fun c k => ?_⟩
    show sumLD c (upF q i r k) = _
    by_cases h : k = i
    · subst h
      rw [upF_same, e, sumLD]
      by_cases h2 : a ≤ c <;> simp [h2] <;> omega
    · rw [upF_other _ _ h, if_neg (fun e => h e.1)]
      omega
  | more i a m r e h1 =>
    refine .inr ⟨i, a, m, r, rfl, e, fun c k => ?_⟩
    show sumLD c (upF q i ((a, m - 1) :: r) k) = _
    by_cases h : k = i
    · subst h
      rw [upF_same, e, sumLD, sumLD]
      by_cases h2 : a ≤ c <;> simp [h2] <;> omega
    · rw [upF_other _ _ h, if_neg (fun e => h e.1)]
      omega
/-- How much waits of what was sent from a tick on. -/
theorem late_run (hc : Cr ch) (h : SOk l st) (k c : Nat) : ∀ d : Nat, sumL ((runS ch l st (c + d)).1.q k) - sumLD (c - 1) ((runS ch l st (c + d)).1.q k) ≤ cum l st k (c + d) - cum l st k c
  | 0 => by
    have := (qok_run (l := l) (st := st) hc h c).good k
    rw [Nat.add_zero, sumLD_all fun x hx => by have := this x hx; omega]
    omega
  | d + 1 => by
    have ih := late_run hc h k c d
    have hcd : c ≤ c + d := by omega
    rw [show c + (d + 1) = (c + d) + 1 from rfl]
    generalize c + d = t at *
    have hk := (ran_tick (l := l) (st := st) hc t).1
    have h1 := sum1_tick hk k
    rw [send_sum] at h1
    have h2 := send_sumD l st t ((c : Int) - 1) (runS ch l st t).1.q k
    rw [if_neg (by omega)] at h2
    rw [cum]
    rcases sumD_tick hk with ⟨e1, e2⟩ | ⟨i, a, f, r, e1, -, e2⟩
    · rw [e1, if_neg (by omega)] at h1
      rw [h1, e2, h2]
      omega
    · have := e2 ((c : Int) - 1) k
      rw [h1, this, h2, e1]
      by_cases h3 : k = i
      · subst h3
        rw [if_pos rfl]
        split <;> omega
      · rw [if_neg (by omega), if_neg (fun e => h3 e.1)]
        omega
/-- Of a stream of which nothing old waits so much was carried. -/
theorem cnt_ge (hc : Cr ch) (h : SOk l st) (k c D : Nat) (hcD : c ≤ D) (hx : ∀ x ∈ (runS ch l st D).1.q k, (c : Int) ≤ x.1) : cum l st k c ≤ ((runS ch l st D).2.count (k : Int) : Nat) := by
  have h1 := cons_run (l := l) (st := st) hc k D
  have h2 := late_run (l := l) (st := st) hc h k c (D - c)
  rw [show c + (D - c) = D by omega, sumLD_none fun x hm => by have := hx x hm; omega] at h2
  omega
/-- How much of what is carried is of the first streams. -/
theorem cnt_sum (o : List Int) : ∀ n : Nat, wt (fun k => (o.count (k : Int) : Nat)) n ≤ o.length := by
  intro n
  have key : ∀ (n : Nat), wt (fun k => (o.count (k : Int) : Nat)) n = ((o.filter fun x : Int => decide (0 ≤ x ∧ x < (n : Int))).length : Nat) := by
    intro n
    induction o with
    | nil => simp [wt_zero]
    | cons x o ih =>
      have e : ∀ k : Nat, (((x :: o).count (k : Int) : Nat) : Int) = ((o.count (k : Int) : Nat) : Int) + if x = k then 1 else 0 := fun k => by
        rw [List.count_cons]
        by_cases e : x = k <;> simp [e]
      rw [wt_congr fun k _ => e k, wt_add, ih]
      have e2 : wt (fun k : Nat => if x = k then 1 else 0) n = if 0 ≤ x ∧ x < n then 1 else 0 := by
        clear ih e
        induction n with
        | zero => rw [wt, if_neg (by omega)]
        | succ n ih2 =>
          rw [wt, ih2]
          by_cases h1 : x = n
          · rw [if_pos h1, if_neg (by omega), if_pos (by omega)]
            rfl
          · rw [if_neg h1]
            by_cases h2 : 0 ≤ x ∧ x < n
            · rw [if_pos h2, if_pos (by omega)]
              rfl
            · rw [if_neg h2, if_neg (by omega)]
              rfl
      rw [e2]
      by_cases h1 : 0 ≤ x ∧ x < n
      · rw [if_pos h1, List.filter_cons_of_pos (by simpa using h1)]
        simp
      · rw [if_neg h1, List.filter_cons_of_neg (by simpa using h1)]
        simp
  rw [key]
  have := List.length_filter_le (fun x => decide (0 ≤ x ∧ x < (n : Int))) o
  omega
end
/-! ### By deadlines. -/
/-- What is sent at a tick of messages with deadlines up to D. -/
def arrD (l : List Sm) (st : List Int) (D : Int) (t : Nat) (k : Nat) : Int := if (t : Int) ≤ D - dlAt l k then arr l st t k else 0
def cumD (l : List Sm) (st : List Int) (D : Int) (k : Nat) : Nat → Int
  | 0 => 0
  | t + 1 => cumD l st D k t + arrD l st D t k
/-- How much waits of messages with deadlines up to D. -/
def PD (l : List Sm) (D : Int) (q : Nat → List (Int × Int)) : Int := wt (fun k => sumLD (D - dlAt l k) (q k)) l.length
theorem PD_send (l : List Sm) (st : List Int) (D : Int) (t : Nat) (q : Nat → List (Int × Int)) : PD l D (sendS l st t q) = PD l D q + wt (arrD l st D t) l.length := by
  unfold PD
  rw [wt_congr (g := fun k => sumLD (D - dlAt l k) (q k) + arrD l st D t k) fun k _ => send_sumD l st t _ q k, wt_add]
theorem PD_nonneg {l : List Sm} {n : Nat} {t D : Int} {q : Nat → List (Int × Int)} (h : QOk n t q) : 0 ≤ PD l D q := wt_nonneg fun k _ => sumLD_nonneg fun x hx => (h.good k x hx).1
theorem PD_zero {l : List Sm} {t D : Int} {q : Nat → List (Int × Int)} (h : QOk l.length t q) (h0 : PD l D q = 0) (k : Nat) (hk : k < l.length) : ∀ x ∈ q k, D - dlAt l k < x.1 :=
  sumLD_zero (fun x hx => (h.good k x hx).1) (wt_pos (fun k _ => sumLD_nonneg fun x hx => (h.good k x hx).1) h0 k hk)
/-- By deadlines a frame with a deadline up to D is carried as soon as one waits. -/
theorem edf_tick {l : List Sm} {n6 : l.length ≤ 6} {t u D : Int} {q : Nat → List (Int × Int)} {wo : Nat → Int} {s : Ss} {o : Int} (h : QOk l.length u q) (hk : Tick t q wo s o) (ho : o = dlS l q) :
    PD l D s.q = if PD l D q = 0 then 0 else PD l D q - 1 := by
  have h6 : ∀ i, 6 ≤ i → q i = [] := fun i hi => h.none i (by omega)
  rcases chs_dl l q h6 with ⟨c1, c2⟩ | ⟨i, a, f, r, c1, c2, c3⟩
  · have e0 : PD l D q = 0 := by
      unfold PD
      rw [wt_congr (g := fun _ => 0) fun k _ => by rw [c2 k]; rfl, wt_zero]
    rw [if_pos e0]
    rcases sumD_tick hk with ⟨-, e2⟩ | ⟨i, a, f, r, e1, -, -⟩
    · rw [e2, e0]
    · rw [e1, c1] at ho
      omega
  · have hin : i < l.length := Nat.lt_of_not_le fun hn => by rw [h.none i hn] at c2; cases c2
    rcases sumD_tick hk with ⟨e1, -⟩ | ⟨i', a', f', r', e1, e2, e3⟩
    · rw [e1, c1] at ho
      omega
    · have : i' = i := by rw [e1, c1] at ho; omega
      subst this
      rw [c2] at e2
      injection e2 with e4 e5
      injection e4 with e6 e7
      subst e5 e6 e7
      have hsum : PD l D s.q = PD l D q - if a ≤ D - dlAt l i' then 1 else 0 := by
        unfold PD
        rw [wt_up (f := fun k => sumLD (D - dlAt l k) (s.q k)) (g := fun k => sumLD (D - dlAt l k) (q k)) (i := i') (fun k hk => by rw [e3, if_neg (fun e => hk e.1)]; omega) l.length, if_pos hin, e3]
        by_cases h2 : a ≤ D - dlAt l i'
        · rw [if_pos ⟨rfl, h2⟩, if_pos h2]; omega
        · rw [if_neg (fun e => h2 e.2), if_neg h2]; omega
      rw [hsum]
      by_cases h2 : a ≤ D - dlAt l i'
      · rw [if_pos h2, if_neg]
        intro h0
        have := PD_zero h h0 i' hin (a, f) (by rw [c2]; simp)
        simp only at this
        omega
      · have e0 : PD l D q = 0 := by
          unfold PD
          rw [wt_congr (g := fun _ => 0) fun k hk => sumLD_none fun x hx => ?_, wt_zero]
          cases hq : q k with
          | nil => rw [hq] at hx; simp at hx
          | cons y r' =>
            obtain ⟨b, g⟩ := y
            have d1 := c3 k b g r' hq
            simp only [kk, if_true] at d1
            have d2 := h.srt k
            rw [hq] at d2 hx
            have d3 := (List.pairwise_cons.1 d2).1
            rcases List.mem_cons.1 hx with rfl | hx
            · simp only; omega
            · have := d3 x hx
              simp only at this
              omega
        rw [if_neg h2, if_pos e0, e0]
        rfl
theorem dlTo_cr2 (l : List Sm) (q : Nat → List (Int × Int)) : ∀ n, (dlTo l q n).1 = -1 ∨ ∃ j : Nat, (dlTo l q n).1 = j ∧ q j ≠ []
  | 0 => .inl rfl
  | n + 1 => by
    unfold dlTo
    split
    · exact dlTo_cr2 l q n
    · rename_i a k r hq
      split
      · exact .inr ⟨n, rfl, by rw [hq]; simp⟩
      · exact dlTo_cr2 l q n
theorem cr_dl (l : List Sm) : Cr (dlS l) := fun q => by
  rcases dlTo_cr2 l q 6 with h | ⟨j, h, hq⟩
  · exact .inl h
  · exact .inr ⟨j, h, hq⟩
theorem cr_prio : Cr prioS := fun q => by
  rcases prio_spec q with ⟨h, _⟩ | ⟨j, h, _, h1, _⟩
  · exact .inl h
  · exact .inr ⟨j, h, h1⟩
/-- The window that holds a tick, in which messages with deadlines up to D are carried alone. -/
theorem edf_win {l : List Sm} {st : List Int} (h : SOk l st) (D : Int) : ∀ t : Nat, ∃ t0 : Nat, t0 ≤ t ∧ PD l D (runS (dlS l) l st t).1.q + ((t : Int) - t0) ≤ wt (fun k => cumD l st D k t - cumD l st D k t0) l.length
  | 0 => ⟨0, Nat.le_refl _, by
    have e : PD l D (runS (dlS l) l st 0).1.q = 0 := by
      unfold PD
      rw [wt_congr (g := fun _ => 0) fun k _ => by simp [runS, ss0, sumLD], wt_zero]
    rw [e, wt_congr (g := fun _ => 0) fun k _ => by omega, wt_zero]
    omega⟩
  | t + 1 => by
    obtain ⟨t0, h1, h2⟩ := edf_win h D t
    obtain ⟨hk, ho⟩ := ran_tick (l := l) (st := st) (cr_dl l) t
    have hq := qok_send (st := st) (t := t) h.sm (by omega) (qok_run (cr_dl l) h t)
    have h3 := edf_tick (n6 := h.six) (D := D) hq hk ho
    have h4 := PD_send l st D t (runS (dlS l) l st t).1.q
    have h5 := PD_nonneg (l := l) (D := D) hq
    by_cases h0 : PD l D (sendS l st t (runS (dlS l) l st t).1.q) = 0
    · rw [if_pos h0] at h3
      refine ⟨t + 1, Nat.le_refl _, ?_⟩
      rw [h3, wt_congr (g := fun _ => 0) fun k _ => by omega, wt_zero]
      omega
    · rw [if_neg h0] at h3
      refine ⟨t0, by omega, ?_⟩
      rw [h3, wt_congr (g := fun k => (cumD l st D k t - cumD l st D k t0) + arrD l st D t k) fun k _ => by rw [cumD]; omega, wt_add, h4]
      omega
end Go.Proofs.YtdlmkblmljhbfaaDoor
namespace Go.Proofs.YtdlmkblmljhbfaaDoor
set_option linter.unusedSimpArgs false
set_option linter.unusedVariables false
open Go.RowKit Go.Shelf
attribute [local go_sem] bl_al bl_drew bl_drewN bl_refl bx_al bx_drew bx_drewN bx_refl
set_option maxRecDepth 20000
def dmE (l : List Sm) (t : Int) : Int := fstE [smsErr l, unl (inR t 0 10000) 2]
def dmR (l : List Sm) (t : Int) : Int × Int := if dmE l t = 0 then (dmdS l t, 0) else (0, dmE l t)
theorem dmE_ok {l : List Sm} {t : Int} (h : dmE l t = 0) : smsErr l = 0 ∧ 0 ≤ t ∧ t ≤ 10000 := by
  obtain ⟨h1, h2⟩ := (fst_cons _ _).1 h
  have h3 := (unl_zero (by decide)).1 ((fst_cons _ _).1 h2).1
  exact ⟨h1, inR_iff.1 h3⟩
set_option maxHeartbeats 2000000 in
theorem c_DemandIn (l : List Sm) (t : Int) (A : Option Addr) (c : Nat) (w : World) (hn : SmIn l A c w) :
    Calls Tryd.prog 59 #[.slice A l.length c, .int .i64 t] w (Ret (.tuple #[.int .i64 (dmR l t).1, .int .i64 (dmR l t).2]) w) := by
  have hse := Lib.hid fun W (hb : Below w.heap.size w W) => c_streamsErr l A c W (hn.below hb)
  have hE : Hid (dmE l t = fstE [smsErr l, unl (inR t 0 10000) 2]) := rfl
  have h1 : Hid (dmE l t ≠ 0 → dmR l t = (0, dmE l t)) := fun h => by rw [dmR, if_neg h]
  have h2 : Hid (dmE l t = 0 → dmR l t = (dmdS l t, 0)) := fun h => by rw [dmR, if_pos h]
  have hdm := Lib.hid fun (h : dmE l t = 0) W (hb : Below w.heap.size w W) => c_demand l t A c W (hn.sl.below hb) (sms_ok (dmE_ok h).1).2.1 (fun s hs => ((sms_ok (dmE_ok h).1).2.2 s hs).1) (dmE_ok h).2.1 (dmE_ok h).2.2
  clear hn
  generalize dmR l t = R at *
  generalize dmE l t = E at *
  generalize smsErr l = se at *
  generalize dmdS l t = d at *
  generalize l.length = n at *
  go_enter Tryd.func59, Tryd.ntmps59
  go_upto_region 2 with (first | (go_at_call 98; (with_reducible refine (hse.out _ (by (with_reducible (repeat' (first | assumption | apply jA | apply jB | apply jC | apply jD | apply jE | apply jF | apply hb3 | omega | (simp; done) | (simp; omega) | (dsimp only; omega)))))).mono ?_); rintro e w3 ⟨rfl, hb3⟩; replace hb3 := bl_tt hb3) | (go_at_call 74; (with_reducible refine (c_within _ _ _ _).mono ?_); rintro e w3 ⟨rfl, rfl⟩) | (go_at_call 78; (with_reducible refine (c_unless _ _ _).mono ?_); rintro e w3 ⟨rfl, rfl⟩) | (go_at_call 77; (with_reducible refine (c_first2 (by (with_reducible (repeat' (first | assumption | (apply jL; first | (simp; done) | rfl) | apply jM | apply jN | apply jO | apply jP | apply jQ | apply jR | apply jS | apply jT (hb := hb3 _ (jA _)) | omega | (simp; done) | (simp; omega) | (dsimp only; omega)))))).mono ?_); rintro e w3 ⟨rfl, rfl⟩))
  rw [← hE.out]
  clear hse
  by_cases h0 : E = 0
  · have h0' : (E != 0) = false := by simp [h0]
    have hs := Lib.hid (h2.out h0)
    have hd := Lib.hid (hdm.out h0)
    replace h0 := Lib.hid h0
    clear hE h1 h2 hdm
    go_wp2_with fail
    refine (hd.out _ (by (with_reducible (repeat' (first | assumption | apply jA | apply jB | apply jC | apply jD | apply jE | apply jF | apply hb3 | omega | (simp; done) | (simp; omega) | (dsimp only; omega)))))).mono ?_
    rintro e w4 ⟨rfl, hb4⟩
    replace hb4 := bl_tt hb4
    go_wp2
    go_ret2
    exact ⟨by rw [hs.out] <;> rfl, hb4 _ (by (with_reducible (repeat' (first | assumption | apply jA | apply jB | apply jC | apply jD | apply jE | apply jF | apply hb3 | omega | (simp; done) | (simp; omega) | (dsimp only; omega)))))⟩
  · have h0' : (E != 0) = true := by simp [h0]
    have hs := Lib.hid (h1.out h0)
    replace h0 := Lib.hid h0
    clear hE h1 h2 hdm
    go_wp2
    go_ret2
    exact ⟨by rw [hs.out] <;> rfl, by (with_reducible (repeat' (first | assumption | apply jA | apply jB | apply jC | apply jD | apply jE | apply jF | apply hb3 | omega | (simp; done) | (simp; omega) | (dsimp only; omega))))⟩
/-- The overload, and the error. -/
def ovR (l : List Sm) : Int × Int :=
  if smsErr l = 0 then (match cyS l 1 with
    | none => (0, 8)
    | some n => match ovS l n with
      | none => (0, 12)
      | some t => ((t : Int), 0)) else (0, smsErr l)
set_option maxHeartbeats 4000000 in
theorem c_OverloadIn (l : List Sm) (A : Option Addr) (c : Nat) (w : World) (hn : SmIn l A c w) :
    Calls Tryd.prog 60 #[.slice A l.length c] w (Ret (.tuple #[.int .i64 (ovR l).1, .int .i64 (ovR l).2]) w) := by
  have hse := Lib.hid (c_streamsErr l A c w hn)
  have h1 : Hid (smsErr l ≠ 0 → ovR l = (0, smsErr l)) := fun h => by rw [ovR, if_neg h]
  have h2 : Hid (smsErr l = 0 → cyS l 1 = none → ovR l = (0, 8)) := fun h h' => by rw [ovR, if_pos h, h']
  have h3 : Hid (∀ n, smsErr l = 0 → cyS l 1 = some n → ovS l n = none → ovR l = (0, 12)) := fun n h h' h'' => by rw [ovR, if_pos h, h']; simp [h'']
  have h4 : Hid (∀ n t, smsErr l = 0 → cyS l 1 = some n → ovS l n = some t → ovR l = ((t : Int), 0)) := fun n t h h' h'' => by rw [ovR, if_pos h, h']; simp [h'']
  have hok := Lib.hid fun h : smsErr l = 0 => sms_ok h
  have Hs := Lib.hid hn.sl
  have hdm := Lib.hid fun (h : smsErr l = 0) (t : Nat) (ht : t ≤ 5000) W (hb : Below w.heap.size w W) => c_demand l t A c W (hn.sl.below hb) (sms_ok h).2.1 (fun s hs => ((sms_ok h).2.2 s hs).1) (by omega) (by omega)
  have hst := Lib.hid fun k x (hx : l[k]? = some x) n => cyS_drop hx n
  have hend : Hid (∀ n, cyS (l.drop l.length) n = some n) := fun n => by rw [List.drop_length]; rfl
  clear hn
  obtain ⟨g, hg⟩ : ∃ g : Nat → Nat → Option Nat, ∀ k n, cyS (l.drop k) n = g k n := ⟨_, fun _ _ => rfl⟩
  have hg0 : cyS l 1 = g 0 1 := hg 0 1
  rw [hg0] at h2 h3 h4
  simp only [hg] at hst hend
  clear hg hg0
  have hdef : Hid (∀ cy, ovS l cy = ovF (dmdS l) (cy + 1 - 1) 1) := fun _ => rfl
  obtain ⟨ov, ho⟩ : ∃ ov : Nat → Option Nat, ∀ n, ovS l n = ov n := ⟨_, fun _ => rfl⟩
  simp only [ho] at h3 h4 hdef
  clear ho
  generalize dmdS l = f at *
  generalize ovR l = R at *
  generalize smsErr l = E at *
  obtain ⟨n, Hn⟩ : ∃ n, Hid (l.length = n) := ⟨_, rfl⟩
  rw [Hn.out] at hse hok hdm hend ⊢
  go_enter Tryd.func60, Tryd.ntmps60
  go_wp2_with fail
  refine hse.out.mono ?_
  rintro e wa ⟨rfl, hb0⟩
  by_cases h0 : E = 0
  rotate_left
  · have h0' : (E != 0) = true := by simp [h0]
    have hs := Lib.hid (h1.out h0)
    replace h0 := Lib.hid h0
    go_wp2
    go_ret2
    exact ⟨by rw [hs.out] <;> rfl, hb0⟩
  have h0' : (E != 0) = false := by simp [h0]
  obtain ⟨hn1, hn6, hok1⟩ := hok.out h0
  have hdm1 := Lib.hid (hdm.out h0)
  have h2' := Lib.hid (h2.out h0)
  have h3' := Lib.hid fun n => h3.out n h0
  have h4' := Lib.hid fun n t => h4.out n t h0
  have hok' := Lib.hid fun k x (hx : l[k]? = some x) => (hok1 x (List.mem_of_getElem? hx)).1
  clear hse h1 h2 h3 h4 hok hdm hok1
  subst h0
  go_wp2
  go_loopw [5, 16] (fun s i wr => ∃ k v : Nat, k ≤ n ∧ i = .int .i64 k ∧ s = .int .i64 v ∧ 1 ≤ v ∧ v ≤ 5000 ∧ g 0 1 = g k v ∧ Below w.heap.size w wr) (fun _ i _ => n - (intOf i).toNat)
  case atStart => exact ⟨0, 1, Nat.zero_le _, rfl, rfl, by omega, by omega, rfl, hb0⟩
  case round =>
    clear hb0
    obtain ⟨k, v, hk, rfl, rfl, hv1, hv2, hi, hb0⟩ := hrel
    replace hi := Lib.hid hi
    by_cases hkn : k < n
    · have hx : l[k]? = some (l[k]'(by rw [Hn.out]; exact hkn)) := List.getElem?_eq_getElem _
      generalize l[k]'(by rw [Hn.out]; exact hkn) = x at hx
      have ho := hok'.out k x hx
      have hs := hst.out k x hx v
      obtain ⟨hp1, hp2, -, -, -, -⟩ := ho
      obtain ⟨b, off, rfl, hc⟩ := (Hs.out.below hb0) k x hx
      have c0 := hc 0 _ rfl
      have c1 := hc 1 _ rfl
      have c2 := hc 2 _ rfl
      have c3 := hc 3 _ rfl
      simp only [Nat.add_zero] at c0
      obtain ⟨xn, xp, xd, xl⟩ := x
      dsimp only at *
      obtain ⟨p, rfl⟩ : ∃ p : Nat, xp = p := ⟨xp.toNat, by omega⟩
      rw [Int.toNat_natCast] at hs
      clear hc hx
      have hgc := Lib.hid fun W : World => c_divisor v p W (by omega) (by omega)
      obtain ⟨h5, h6, h7, h8⟩ := cy_step hv1 hv2 (show 1 ≤ p by omega) (show p ≤ 60 by omega)
      have hdv : ((v : Nat) : Int) / ((Nat.gcd v p : Nat) : Int) = ((v / Nat.gcd v p : Nat) : Int) := by simp
      generalize Nat.gcd v p = d at *
      generalize v / d = q at *
      have hmu : (q : Int) * p = ((q * p : Nat) : Int) := by simp
      generalize q * p = r at *
      have hd0 : ¬ d = 0 := by omega
      replace hs := Lib.hid hs
      have hqw := hb0.size
      go_upto_region 8 with fail
      first
      | apply absB1 (w0 := w) (g0 := wr.heap.size)
      | apply absTB1 (w0 := w) (g0 := wr.heap.size)
      | apply absIB1 (w0 := w) (g0 := wr.heap.size)
      iterate 2 (focus ((with_reducible (repeat' (first | assumption | apply jA | apply jB | apply jC | apply jD | apply jE | apply jF | apply hb3 | apply jG | apply jH | apply jI | apply jJ | apply jK | apply hb3x | (apply jL; first | (simp; done) | rfl) | apply jM | apply jN | apply jO | apply jP | apply jQ | apply jR | apply jS | apply jT (hb := hb3 _ (jA _)) | omega | (simp; done) | (simp; omega) | (dsimp only; omega)))); done))
      intro wb hb0' k1'
      (try simp only [List.setIfInBounds_toArray, List.set_cons_zero, List.set_cons_succ] at k1')
      try clear hb3
      try clear hb0
      try clear k1
      have hb0 := hb0'; clear hb0'
      have k1 := k1'; clear k1'
      clear c0 c1 c2 c3
      have Lk1 := k1.later
      have Fk1 := k1.laterF
      have Qk1 := k1.lt
      refine wp_any (w0 := wb) ⟨[9], [], [some 20, some 21, some 22, some 23, some 24, some 25, some 26, some 27, some 28, none], [[], [], [], [2], [1, 2, 3], [0, 1, 2, 3, 4], [], [6], [0, 1, 2, 3, 4, 5, 6, 7], [0, 1, 2, 3, 4, 5, 6, 7, 8]], [[], [], [], [2], [1, 3], [0, 4], [], [6], [5, 7], []]⟩ (fun _ => []) (by kernel_rfl) (by kernel_rfl) (by (with_reducible (repeat' (first | assumption | apply jA | apply jB | apply jC | apply jD | apply jE | apply jF | apply hb3 | omega | (simp; done) | (simp; omega) | (dsimp only; omega))))) (fun u => by simp only [putD, Act.put, List.setIfInBounds_toArray, List.set_cons_zero, List.set_cons_succ, Nat.zero_add, Nat.reduceAdd]; rfl) ?_
      apply RGW.on (i := 0) rfl
      · (simp only [gA, gB, gC] <;> rfl)
      · intro γ u W hcur hd
        clear hd
        (try dsimp only)
        refine ⟨rfl, ?_⟩
        go_simp <;> (try go_bits) <;> with_reducible rfl
      · exact fun _ _ _ => rfl
      · rfl
      dsimp only [nA, cA]
      apply RGW.on (i := 1) rfl
      · (simp only [gA, gB, gC] <;> rfl)
      · intro γ u W hcur hd
        clear hd
        (try dsimp only)
        refine ⟨rfl, ?_⟩
        go_simp <;> (try go_bits) <;> with_reducible rfl
      · exact fun _ _ _ => rfl
      · rfl
      dsimp only [nA, cA]
      apply RGW.on (i := 2) rfl
      · (simp only [gA, gB, gC] <;> rfl)
      · intro γ u W hcur hd
        clear hd
        (try dsimp only)
        refine ⟨rfl, ?_⟩
        go_simp <;> (try go_bits) <;> with_reducible rfl
      · exact fun _ _ _ => rfl
      · rfl
      dsimp only [nA, cA]
      apply RGW.on (i := 3) rfl
      · (simp only [gA, gB, gC] <;> rfl)
      · intro γ u W hcur hd
        obtain ⟨⟨h2, -, -⟩, -⟩ := hd
        dsimp only at h2
        (try simp only [h2])
        refine ⟨rfl, ?_⟩
        go_simp <;> (try go_bits) <;> with_reducible rfl
      · exact fun _ _ _ => rfl
      · rfl
      dsimp only [nA, cA]
      apply RGW.call (i := 4) rfl
      · (simp only [gA, gB, gC] <;> rfl)
      · intro γ u W hcur hd
        obtain ⟨⟨h1, -, -⟩, ⟨h3, -, -⟩, -⟩ := hd
        dsimp only at h1 h3
        (try simp only [h1, h3])
        refine ⟨rfl, fun K hK => ?_⟩
        go_simp
        (go_at_call 120; (with_reducible refine (hgc.out _).mono ?_); rintro e w3 ⟨rfl, hb3⟩; replace hb3 := bl_tt hb3)
        (try dsimp only)
        exact hK.out _ _ rfl (by (with_reducible (repeat' (first | assumption | apply jA | apply jB | apply jC | apply jD | apply jE | apply jF | apply hb3 | omega | (simp; done) | (simp; omega) | (dsimp only; omega)))))
      · exact fun _ _ _ => rfl
      · rfl
      dsimp only [nA, cA]
      apply RGW.on (i := 5) rfl
      · (simp only [gA, gB, gC] <;> rfl)
      · intro γ u W hcur hd
        obtain ⟨⟨h0, -, -⟩, ⟨h4, -, -⟩, -⟩ := hd
        dsimp only at h0 h4
        (try simp only [h0, h4])
        refine ⟨rfl, ?_⟩
        go_simp <;> (try go_bits) <;> with_reducible rfl
      · exact fun _ _ _ => rfl
      · rfl
      dsimp only [nA, cA]
      apply RGW.on (i := 6) rfl
      · (simp only [gA, gB, gC] <;> rfl)
      · intro γ u W hcur hd
        clear hd
        (try dsimp only)
        refine ⟨rfl, ?_⟩
        go_simp <;> (try go_bits) <;> with_reducible rfl
      · exact fun _ _ _ => rfl
      · rfl
      dsimp only [nA, cA]
      apply RGW.on (i := 7) rfl
      · (simp only [gA, gB, gC] <;> rfl)
      · intro γ u W hcur hd
        obtain ⟨⟨h6, -, -⟩, -⟩ := hd
        dsimp only at h6
        (try simp only [h6])
        refine ⟨rfl, ?_⟩
        go_simp <;> (try go_bits) <;> with_reducible rfl
      · exact fun _ _ _ => rfl
      · rfl
      dsimp only [nA, cA]
      apply RGW.on (i := 8) rfl
      · (simp only [gA, gB, gC] <;> rfl)
      · intro γ u W hcur hd
        obtain ⟨⟨h5, -, -⟩, ⟨h7, -, -⟩, -⟩ := hd
        dsimp only at h5 h7
        (try simp only [h5, h7])
        refine ⟨rfl, ?_⟩
        go_simp <;> (try go_bits) <;> with_reducible rfl
      · exact fun _ _ _ => rfl
      · rfl
      dsimp only [nA, cA]
      refine RGW.skip (i := 9) rfl rfl ?_
      dsimp only [nA, cA]
      refine RGW.fin (fun γ u wj hwj hd hdis => ?_)
      obtain ⟨⟨h0, -, -⟩, ⟨h1, -, -⟩, ⟨h2, -, -⟩, ⟨h3, -, -⟩, ⟨h4, -, -⟩, ⟨h5, -, -⟩, ⟨h6, -, -⟩, ⟨h7, -, -⟩, ⟨h8, -, -⟩, -⟩ := hd
      dsimp only at h0 h1 h2 h3 h4 h5 h6 h7 h8
      clear hdis
      simp only [h0, h1, h2, h3, h4, h5, h6, h7, h8]
      clear h8 h7 h6 h5 h4 h3 h2 h1 h0
      clear u
      simp only [List.map_cons, List.map_nil]
      apply PlanW.step
      · (simp only [gA, gB, gC] <;> rfl)
      · rfl
      intro K hK
      go_simp
      refine hK.out _ _ (by with_reducible first | assumption | exact bx_refl _ _) (fun hcur => ?_)
      clear hK K
      try simp only [Act.put, List.setIfInBounds_toArray, List.set_cons_zero, List.set_cons_succ]
      refine PlanW.done ?_
      have hb3 := bl_tt hwj
      have hbj := bl_tr hb0 hwj
      clear hmu hdv Lk1 Fk1
      by_cases h5000 : 5000 < r
      · have hr : (5000 : Int) < r := by omega
        have e := Lib.hid (h2'.out (show g 0 1 = none by rw [hi.out, hs.out, if_pos h5000]))
        go_wp2
        go_ret2
        exact ⟨by rw [e.out] <;> rfl, hbj⟩
      · have hr : ¬ (5000 : Int) < r := by omega
        have e := Lib.hid (show g 0 1 = g (k + 1) r by rw [hi.out, hs.out, if_neg h5000])
        go_wp2
        go_roundw
        case rel => exact ⟨k + 1, r, by omega, by go_num, rfl, by omega, by omega, e.out, hbj⟩
        case measure => simp [intOf]; omega
    · have e : k = n := by omega
      have e2 : g 0 1 = some v := by rw [hi.out, e, hend.out]
      have h3'' := Lib.hid (h3'.out v e2)
      have h4'' := Lib.hid fun t => h4'.out v t e2
      have hdef' := Lib.hid (hdef.out v)
      clear e e2 h2' h3' h4' hi hst hend hok' Hs hdef
      generalize ov v = O at *
      go_wp2
      go_loopw [8] (fun i wr => ∃ t : Nat, 1 ≤ t ∧ t ≤ v + 1 ∧ i = .int .i64 t ∧ O = ovF f (v + 1 - t) t ∧ Below w.heap.size w wr) (fun i _ => v + 1 - (intOf i).toNat)
      case atStart => exact ⟨1, by omega, by omega, rfl, hdef'.out, hb0⟩
      case round =>
        clear hb0
        obtain ⟨t, ht1, ht2, rfl, hi, hb0⟩ := hrel
        replace hi := Lib.hid hi
        by_cases htc : t ≤ v
        · have e1 : v + 1 - t = (v - t) + 1 := by omega
          have hst := Lib.hid (show O = if (t : Int) < f t then some t else ovF f (v - t) (t + 1) by rw [hi.out, e1]; rfl)
          have e2 : Hid (v + 1 - (t + 1) = v - t) := Lib.hid (by omega)
          clear e1
          have hd := Lib.hid (hdm1.out t (by omega) wr hb0)
          generalize f t = y at *
          go_wp2_with fail
          refine hd.out.mono ?_
          rintro e w3 ⟨rfl, hb3⟩
          replace hb0 := bl_tr hb0 hb3
          clear hb3 hd
          by_cases hy : (t : Int) < y
          · have e := Lib.hid (h4''.out t (show O = some t by rw [hst.out, if_pos hy]))
            go_wp2
            go_ret2
            exact ⟨by rw [e.out] <;> rfl, hb0⟩
          · have e := Lib.hid (show O = ovF f (v + 1 - (t + 1)) (t + 1) by rw [hst.out, if_neg hy, e2.out])
            go_wp2
            go_roundw
            case rel => exact ⟨t + 1, by omega, by omega, by go_num, e.out, hb0⟩
            case measure => simp [intOf]; omega
        · have e1 : v + 1 - t = 0 := by omega
          have e := Lib.hid (h3''.out (show O = none by rw [hi.out, e1]; rfl))
          clear e1
          go_wp2
          go_ret2
          exact ⟨by rw [e.out] <;> rfl, hb0⟩
end Go.Proofs.YtdlmkblmljhbfaaDoor
namespace Go.Proofs.YtdlmkblmljhbfaaDoor
set_option linter.unusedSimpArgs false
set_option linter.unusedVariables false
def dmAt (l : List Sm) (t : Int) (k : Nat) : Int := match l[k]? with
  | some s => dmd1 s t
  | none => 0
theorem dmK_wt (l : List Sm) (t : Int) : ∀ k : Nat, k ≤ l.length → dmK l t k = wt (dmAt l t) k
  | 0, _ => rfl
  | k + 1, h => by
    have hx : l[k]? = some l[k] := List.getElem?_eq_getElem (by omega)
    rw [dmK_next hx, dmK_wt l t k (by omega), wt, dmAt, hx]
theorem dmdS_wt (l : List Sm) (t : Int) : dmdS l t = wt (dmAt l t) l.length := dmK_wt l t l.length (Nat.le_refl _)
/-- The first tick behind those at which a message with a deadline up to D is sent. -/
def endD (l : List Sm) (D : Int) (k : Nat) : Nat := (D - dlAt l k + 1).toNat
theorem cumD_eq (l : List Sm) (st : List Int) (D : Int) (k : Nat) : ∀ t : Nat, cumD l st D k t = cum l st k (min t (endD l D k))
  | 0 => by simp [cumD, cum]
  | t + 1 => by
    rw [cumD, cumD_eq l st D k t, arrD]
    by_cases h : (t : Int) ≤ D - dlAt l k
    · have h1 : min (t + 1) (endD l D k) = t + 1 := by unfold endD; omega
      have h2 : min t (endD l D k) = t := by unfold endD; omega
      rw [if_pos h, h1, h2, cum]
    · have h1 : min (t + 1) (endD l D k) = endD l D k := by unfold endD; omega
      have h2 : min t (endD l D k) = endD l D k := by unfold endD; omega
      rw [if_neg h, h1, h2]
      omega
theorem mul_one' (a : Int) : a * 1 = a := Int.mul_one a
theorem cumD_le {l : List Sm} {st : List Int} (h : SOk l st) (D t0 : Nat) (h0 : t0 ≤ D) (k : Nat) (hk : k < l.length) : cumD l st D k D - cumD l st D k t0 ≤ dmAt l ((D : Int) - t0) k := by
  have hx : l[k]? = some l[k] := List.getElem?_eq_getElem hk
  have hs := h.sm l[k] (List.getElem_mem hk)
  obtain ⟨p1, p2, p3, p4, p5, p6⟩ := hs
  have hdl : dlAt l k = l[k].dl := by simp [dlAt, hx]
  have hla : lenAt l k = l[k].len := by simp [lenAt, hx]
  have hpa : perAt l k = l[k].per := by simp [perAt, hx]
  rw [cumD_eq, cumD_eq, dmAt, hx]
  dsimp only
  have e1 : min D (endD l D k) = endD l D k := by unfold endD; omega
  rw [e1]
  have hnn : 0 ≤ dmd1 l[k] ((D : Int) - t0) := by
    unfold dmd1
    split
    · have := Int.ediv_nonneg (a := (D : Int) - t0 - l[k].dl) (b := l[k].per) (by omega) (by omega)
      exact Int.mul_nonneg (by omega) (by omega)
    · omega
  by_cases hc : t0 ≤ endD l D k
  · have e2 : min t0 (endD l D k) = t0 := by omega
    rw [e2]
    have hw := cum_win (st := st) h.sm h.len h.nn k t0 (endD l D k - t0)
    rw [show t0 + (endD l D k - t0) = endD l D k by omega, hla, hpa] at hw
    by_cases hneg : (D : Int) - l[k].dl + 1 < 0
    · have e3 : endD l D k = 0 := by unfold endD; omega
      have e4 : t0 = 0 := by omega
      rw [e3, e4]
      rw [e4] at hnn
      omega
    · have e3 : ((endD l D k - t0 : Nat) : Int) = (D : Int) - t0 - l[k].dl + 1 := by unfold endD at *; omega
      rw [e3] at hw
      unfold dmd1
      by_cases hl : l[k].dl ≤ (D : Int) - t0
      · rw [if_pos hl]
        have e4 : ((D : Int) - t0 - l[k].dl + 1 + l[k].per - 1) / l[k].per = 1 + ((D : Int) - t0 - l[k].dl) / l[k].per := by
          rw [show (D : Int) - t0 - l[k].dl + 1 + l[k].per - 1 = ((D : Int) - t0 - l[k].dl) + l[k].per * 1 by omega, Int.add_mul_ediv_left _ _ (by omega)]
          omega
        rw [e4] at hw
        exact hw
      · rw [if_neg hl]
        have e4 : (D : Int) - t0 - l[k].dl + 1 = 0 := by unfold endD at hc; omega
        rw [e4, show (0 : Int) + l[k].per - 1 = l[k].per - 1 by omega, Int.ediv_eq_zero_of_lt (by omega) (by omega), Int.mul_zero] at hw
        exact hw
  · have e2 : min t0 (endD l D k) = endD l D k := by omega
    rw [e2]
    omega
/-- Without an overload nothing is late by deadlines. -/
theorem edf_done {l : List Sm} {st : List Int} (h : SOk l st) (hd : ∀ L : Nat, dmdS l L ≤ L) (D k : Nat) (hk : k < l.length) : ∀ x ∈ (runS (dlS l) l st D).1.q k, (D : Int) - dlAt l k < x.1 := by
  obtain ⟨t0, h1, h2⟩ := edf_win h D D
  have h3 := wt_le (n := l.length) fun k hk => cumD_le h D t0 h1 k hk
  rw [← dmdS_wt] at h3
  have h4 := hd (D - t0)
  rw [show ((D - t0 : Nat) : Int) = (D : Int) - t0 by omega] at h4
  have hq := qok_run (cr_dl l) h D
  have h5 := PD_nonneg (l := l) (D := D) hq
  exact PD_zero hq (by omega) k hk
/-- How much of a stream has a deadline up to D. -/
theorem due_cum {l : List Sm} {st : List Int} (h : SOk l st) (D k : Nat) {s : Sm} {a : Int} (hs : l[k]? = some s) (ha : st[k]? = some a) : s.len * cntS s.per a ((D : Int) - s.dl + 1) = cum l st k (endD l D k) := by
  have ha0 := h.nn a (List.mem_of_getElem? ha)
  have ho := h.sm s (List.mem_of_getElem? hs)
  rw [cum_eq hs ha ha0 ho.1]
  have hdl : dlAt l k = s.dl := by simp [dlAt, hs]
  unfold endD
  rw [hdl]
  by_cases hn : 0 ≤ (D : Int) - s.dl + 1
  · rw [Int.toNat_of_nonneg hn]
  · have e : ((D : Int) - s.dl + 1).toNat = 0 := by omega
    rw [e]
    unfold cntS
    rw [if_pos (by omega), if_pos (by simpa using ha0)]
/-- What was carried is at least what had to be. -/
theorem cnt_due {ch : (Nat → List (Int × Int)) → Int} {l : List Sm} {st : List Int} (hc : Cr ch) (h : SOk l st) (D k : Nat) {s : Sm} {a : Int} (hs : l[k]? = some s) (ha : st[k]? = some a)
    (hx : ∀ x ∈ (runS ch l st D).1.q k, (D : Int) - s.dl < x.1) : s.len * cntS s.per a ((D : Int) - s.dl + 1) ≤ ((runS ch l st D).2.count (k : Int) : Nat) := by
  have hdl : dlAt l k = s.dl := by simp [dlAt, hs]
  have ho := h.sm s (List.mem_of_getElem? hs)
  obtain ⟨-, -, p3, -, -, -⟩ := ho
  have hg := (qok_run (ch := ch) (l := l) (st := st) hc h D).good k
  rw [due_cum h D k hs ha]
  refine cnt_ge hc h k _ D (by unfold endD; omega) fun x hm => ?_
  have := hx x hm
  have := hg x hm
  unfold endD
  omega
/-- Streams are carried in time. -/
def Punct (l : List Sm) (st : List Int) (o : List Int) : Prop := ∀ (k : Nat) (s : Sm) (a : Int), l[k]? = some s → st[k]? = some a → ∀ t : Nat, t < o.length → s.len * cntS s.per a ((t : Int) + 2 - s.dl) ≤ ((o.take (t + 1)).count (k : Int) : Nat)
theorem run_take (ch : (Nat → List (Int × Int)) → Int) (l : List Sm) (st : List Int) : ∀ T t : Nat, t ≤ T → (runS ch l st T).2.take t = (runS ch l st t).2
  | 0, t, h => by
    have : t = 0 := by omega
    subst this
    rfl
  | T + 1, t, h => by
    by_cases e : t = T + 1
    · subst e
      exact List.take_of_length_le (by rw [runS_len]; exact Nat.le_refl _)
    · show ((runS ch l st T).2 ++ [_]).take t = _
      rw [List.take_append_of_le_length (by rw [runS_len]; omega)]
      exact run_take ch l st T t (by omega)
theorem edf_punct {l : List Sm} {st : List Int} (h : SOk l st) (hd : ∀ L : Nat, dmdS l L ≤ L) (T : Nat) : Punct l st (runS (dlS l) l st T).2 := fun k s a hs ha t ht => by
  rw [runS_len] at ht
  rw [run_take _ _ _ T (t + 1) (by omega)]
  have hdl : dlAt l k = s.dl := by simp [dlAt, hs]
  have h1 := edf_done h hd (t + 1) k (List.getElem?_eq_some_iff.1 hs).1
  rw [hdl] at h1
  have := cnt_due (cr_dl l) h (t + 1) k hs ha h1
  rw [show ((t + 1 : Nat) : Int) - s.dl + 1 = (t : Int) + 2 - s.dl by omega] at this
  exact this
/-- The demand is what has to be carried if all start together. -/
theorem dm_cum {l : List Sm} {st : List Int} (h : SOk l st) (hz : ∀ a ∈ st, a = 0) (D k : Nat) {s : Sm} (hs : l[k]? = some s) : dmAt l D k = s.len * cntS s.per 0 ((D : Int) - s.dl + 1) := by
  rw [dmAt, hs]
  unfold dmd1 cntS
  dsimp only
  by_cases hd : s.dl ≤ (D : Int)
  · rw [if_pos hd, if_neg (by omega), show (D : Int) - s.dl + 1 - 0 - 1 = (D : Int) - s.dl by omega, Int.add_comm 1]
  · rw [if_neg hd, if_pos (by omega), Int.mul_zero]
/-- With an overload some message is late. -/
theorem over_late {l : List Sm} {st : List Int} (h : SOk l st) (hz : ∀ a ∈ st, a = 0) (D : Nat) (h1 : 1 ≤ D) (hD : (D : Int) < dmdS l D) (o : List Int) (ho : o.length = D) : ¬ Punct l st o := fun hp => by
  rw [dmdS_wt] at hD
  have h2 : wt (dmAt l D) l.length ≤ wt (fun k => (o.count (k : Int) : Nat)) l.length := wt_le fun k hk => by
    have hs : l[k]? = some l[k] := List.getElem?_eq_getElem hk
    have hk2 : k < st.length := by rw [h.len]; exact hk
    have ha : st[k]? = some st[k] := List.getElem?_eq_getElem hk2
    have e0 := hz st[k] (List.getElem_mem hk2)
    rw [e0] at ha
    rw [dm_cum h hz D k hs]
    have := hp k l[k] 0 hs ha (D - 1) (by omega)
    rw [show D - 1 + 1 = D by omega, List.take_of_length_le (by omega), show ((D - 1 : Nat) : Int) + 2 - l[k].dl = (D : Int) - l[k].dl + 1 by omega] at this
    exact this
  have h3 := cnt_sum o l.length
  omega
/-- Without a late stream there is no overload. -/
theorem order_dm {l : List Sm} {st : List Int} (h : SOk l st) (hz : ∀ a ∈ st, a = 0) (hl : ∀ k, k < l.length → lateAt l k = false) (D : Nat) : dmdS l D ≤ D := by
  rw [dmdS_wt]
  have h2 : wt (dmAt l D) l.length ≤ wt (fun k => ((runS prioS l st D).2.count (k : Int) : Nat)) l.length := wt_le fun k hk => by
    have hs : l[k]? = some l[k] := List.getElem?_eq_getElem hk
    have hk2 : k < st.length := by rw [h.len]; exact hk
    have ha : st[k]? = some st[k] := List.getElem?_eq_getElem hk2
    have e0 := hz st[k] (List.getElem_mem hk2)
    rw [e0] at ha
    rw [dm_cum h hz D k hs]
    have hok := h.sm l[k] (List.getElem_mem hk)
    obtain ⟨-, -, p3, p4, -, -⟩ := hok
    obtain ⟨r, hr⟩ := notlate h.sm hs (hl k hk)
    have r1 := hr.one
    have r2 := hr.dl
    obtain ⟨t0, w1, w2, -, w3⟩ := (win_run h hs (r := r) (by omega) (by omega) hr.fix D).ex
    exact cnt_due cr_prio h D k hs ha fun x hx => by
      have := w3 k (Nat.le_refl _) x hx
      omega
  have h3 := cnt_sum (runS prioS l st D).2 l.length
  rw [runS_len] at h3
  omega
end Go.Proofs.YtdlmkblmljhbfaaDoor
namespace Go.Proofs.YtdlmkblmljhbfaaDoor
set_option linter.unusedSimpArgs false
set_option linter.unusedVariables false
theorem cyc_dvd : ∀ {l : List Sm} {m n : Nat}, 1 ≤ m → (∀ s ∈ l, 1 ≤ s.per) → cyS l m = some n → m ∣ n ∧ 1 ≤ n ∧ ∀ s ∈ l, s.per.toNat ∣ n
  | [], m, n, hm, _, h => by
    rw [cyS] at h
    injection h with h
    subst h
    exact ⟨Nat.dvd_refl _, hm, fun s hs => by simp at hs⟩
  | s :: l, m, n, hm, hl, h => by
    rw [cyS] at h
    split at h
    · cases h
    · have hp : 0 < s.per.toNat := by have := hl s (by simp); omega
      have hg : 0 < Nat.gcd m s.per.toNat := Nat.gcd_pos_of_pos_left _ (by omega)
      have hgm := Nat.gcd_dvd_left m s.per.toNat
      have h1 : 0 < m / Nat.gcd m s.per.toNat := Nat.div_pos (Nat.le_of_dvd (by omega) hgm) hg
      obtain ⟨a1, a2, a3⟩ := cyc_dvd (l := l) (Nat.mul_pos h1 hp) (fun o ho => hl o (by simp [ho])) h
      have hmd : m ∣ m / Nat.gcd m s.per.toNat * s.per.toNat := by
        obtain ⟨k, hk⟩ := Nat.gcd_dvd_right m s.per.toNat
        refine ⟨k, ?_⟩
        have e1 := Nat.div_mul_cancel hgm
        generalize Nat.gcd m s.per.toNat = g at *
        rw [hk, ← Nat.mul_assoc, e1]
      refine ⟨Nat.dvd_trans hmd a1, a2, fun o ho => ?_⟩
      rcases List.mem_cons.1 ho with rfl | ho
      · exact Nat.dvd_trans ⟨_, Nat.mul_comm _ _⟩ a1
      · exact a3 o ho
theorem ovF_none {f : Int → Int} : ∀ (d t : Nat), ovF f d t = none → ∀ u : Nat, t ≤ u → u < t + d → f u ≤ u
  | 0, _, _, u, h1, h2 => by omega
  | d + 1, t, h, u, h1, h2 => by
    rw [ovF] at h
    split at h
    · cases h
    · by_cases e : u = t
      · subst e; omega
      · exact ovF_none d (t + 1) h u (by omega) (by omega)
theorem ovF_some {f : Int → Int} : ∀ (d t x : Nat), ovF f d t = some x → t ≤ x ∧ (x : Int) < f x
  | 0, _, _, h => by cases h
  | d + 1, t, x, h => by
    rw [ovF] at h
    split at h
    · injection h with h
      subst h
      exact ⟨Nat.le_refl _, by assumption⟩
    · have := ovF_some d (t + 1) x h
      exact ⟨by omega, this.2⟩
theorem neg_div {x p : Int} (h1 : -p ≤ x) (h2 : x < 0) : x / p = -1 := by
  have hp : 0 < p := by omega
  have h3 := Int.mul_ediv_add_emod x p
  have h4 := Int.emod_nonneg x (show p ≠ 0 by omega)
  have h5 := Int.emod_lt_of_pos x hp
  generalize x / p = a at *
  generalize x % p = b at *
  rcases (by omega : a ≤ -2 ∨ a = -1 ∨ 0 ≤ a) with h | h | h
  · have := Int.mul_le_mul_of_nonneg_left h (show 0 ≤ p by omega)
    omega
  · exact h
  · have := Int.mul_le_mul_of_nonneg_left h (show 0 ≤ p by omega)
    omega
theorem dmd1_all {s : Sm} (hs : OkSm s) {t : Int} (ht : 0 ≤ t) : dmd1 s t = s.len * (1 + (t - s.dl) / s.per) := by
  obtain ⟨p1, p2, p3, p4, p5, p6⟩ := hs
  unfold dmd1
  split
  · rfl
  · rw [neg_div (by omega) (by omega)]
    simp
theorem dmd1_next {s : Sm} (hs : OkSm s) {n : Nat} (hn : s.per.toNat ∣ n) {t : Int} (ht : 0 ≤ t) : dmd1 s (t + n) = dmd1 s t + dmd1 s n := by
  rw [dmd1_all hs ht, dmd1_all hs (by omega), dmd1_all hs (by omega)]
  obtain ⟨p1, p2, p3, p4, p5, p6⟩ := hs
  obtain ⟨m, hm⟩ := hn
  have e : (n : Int) = s.per * m := by
    rw [hm]
    have : ((s.per.toNat : Nat) : Int) = s.per := by omega
    push_cast
    rw [this]
  rw [e, show t + s.per * m - s.dl = (t - s.dl) + s.per * m by omega, Int.add_mul_ediv_left _ _ (by omega), show s.per * (m : Int) - s.dl = -s.dl + s.per * m by omega, Int.add_mul_ediv_left _ _ (by omega), neg_div (x := -s.dl) (by omega) (by omega), ← Int.mul_add]
  congr 1
  omega
theorem dmdS_next {l : List Sm} (hl : ∀ s ∈ l, OkSm s) {n : Nat} (hn : ∀ s ∈ l, s.per.toNat ∣ n) {t : Int} (ht : 0 ≤ t) : dmdS l (t + n) = dmdS l t + dmdS l n := by
  rw [dmdS_wt, dmdS_wt, dmdS_wt, ← wt_add]
  refine wt_congr fun k hk => ?_
  have hx : l[k]? = some l[k] := List.getElem?_eq_getElem hk
  unfold dmAt
  rw [hx]
  exact dmd1_next (hl _ (List.getElem_mem hk)) (hn _ (List.getElem_mem hk)) ht
/-- What holds in a cycle holds behind it. -/
theorem dm_cycle {l : List Sm} (hl : ∀ s ∈ l, OkSm s) {n : Nat} (hc : cyS l 1 = some n) (ho : ovS l n = none) : ∀ L : Nat, dmdS l L ≤ L := by
  obtain ⟨-, h1, hd⟩ := cyc_dvd (by omega) (fun s hs => (hl s hs).1) hc
  have hov := ovF_none n 1 ho
  intro L
  induction L using Nat.strongRecOn with
  | _ L ih =>
    by_cases h0 : L = 0
    · subst h0
      rw [dmdS_wt, wt_congr (g := fun _ => 0) fun k hk => ?_, wt_zero]
      · exact Int.le_refl _
      · have hx : l[k]? = some l[k] := List.getElem?_eq_getElem hk
        have := (hl _ (List.getElem_mem hk)).2.2.1
        unfold dmAt
        rw [hx]
        exact dmd1_no (by simpa using (by omega : ¬ l[k].dl ≤ (0 : Int)))
    · by_cases hL : L ≤ n
      · exact hov L (by omega) (by omega)
      · have e := dmdS_next hl hd (t := ((L - n : Nat) : Int)) (by omega)
        have a1 := ih (L - n) (by omega)
        have a2 := hov n (by omega) (by omega)
        rw [show ((L - n : Nat) : Int) + n = L by omega] at e
        omega
def dsum (t : Int) : List Sm → Int
  | [] => 0
  | s :: l => dmd1 s t + dsum t l
theorem dsum_foldl (t : Int) : ∀ (l : List Sm) (b : Int), (l.map fun s => dmd1 s t).foldl (· + ·) b = b + dsum t l
  | [], b => by simp [dsum]
  | s :: l, b => by
    rw [List.map_cons, List.foldl_cons, dsum_foldl t l, dsum]
    omega
theorem dmdS_dsum (l : List Sm) (t : Int) : dmdS l t = dsum t l := by
  unfold dmdS dmK
  rw [List.take_length, dsum_foldl]
  omega
theorem dsum_perm {t : Int} {a b : List Sm} (h : a.Perm b) : dsum t a = dsum t b := by
  induction h with
  | nil => rfl
  | cons x _ ih => rw [dsum, dsum, ih]
  | swap x y l => rw [dsum, dsum, dsum, dsum]; omega
  | trans _ _ h1 h2 => rw [h1, h2]
/-- Some order of the streams in which none is late. -/
def Ordr (l : List Sm) : Prop := ∃ l' : List Sm, l'.Perm l ∧ ∀ k, k < l'.length → lateAt l' k = false
theorem ordr_dm {l : List Sm} (hl : ∀ s ∈ l, OkSm s) (h6 : l.length ≤ 6) (h : Ordr l) (D : Nat) : dmdS l D ≤ D := by
  obtain ⟨l', hp, h1⟩ := h
  have := order_dm (l := l') (st := List.replicate l'.length 0) ⟨fun s hs => hl s (hp.mem_iff.1 hs), by rw [hp.length_eq]; exact h6, by simp, fun a ha => by rw [List.eq_of_mem_replicate ha]; exact Int.le_refl _⟩ (fun a ha => List.eq_of_mem_replicate ha) h1 D
  rw [dmdS_dsum, dsum_perm hp, ← dmdS_dsum] at this
  exact this
end Go.Proofs.YtdlmkblmljhbfaaDoor
namespace Go.Proofs.YtdlmkblmljhbfaaDoor
set_option linter.unusedSimpArgs false
set_option linter.unusedVariables false
open Go.RowKit Go.Shelf
attribute [local go_sem] bl_al bl_drew bl_drewN bl_refl bx_al bx_drew bx_drewN bx_refl
set_option maxRecDepth 20000
/-- What has to be carried of a stream up to the end of a tick. -/
def dueB (s : Sm) (a : Int) (t : Nat) : Int := s.len * cntS s.per a ((t : Int) + 2 - s.dl)
def okB (o : List Int) (s : Sm) (a : Int) (i t : Nat) : Bool := decide (dueB s a t ≤ ((o.take (t + 1)).count (i : Int) : Nat))
def okTo (o : List Int) (s : Sm) (a : Int) (i : Nat) : Nat → Bool
  | 0 => true
  | t + 1 => okTo o s a i t && okB o s a i t
def punTo (l : List Sm) (st : List Int) (o : List Int) : Nat → Bool
  | 0 => true
  | i + 1 => punTo l st o i && (match l[i]?, st[i]? with
    | some s, some a => okTo o s a i o.length
    | _, _ => true)
def punB (l : List Sm) (st : List Int) (o : List Int) : Bool := punTo l st o l.length
theorem okTo_iff (o : List Int) (s : Sm) (a : Int) (i : Nat) : ∀ n, okTo o s a i n = true ↔ ∀ t, t < n → okB o s a i t = true
  | 0 => by simp [okTo]
  | n + 1 => by
    rw [okTo, Bool.and_eq_true, okTo_iff o s a i n]
    constructor
    · rintro ⟨h1, h2⟩ t ht
      by_cases e : t = n
      · subst e; exact h2
      · exact h1 t (by omega)
    · exact fun h => ⟨fun t ht => h t (by omega), h n (by omega)⟩
theorem punTo_iff (l : List Sm) (st : List Int) (o : List Int) : ∀ n, punTo l st o n = true ↔ ∀ (k : Nat) (s : Sm) (a : Int), k < n → l[k]? = some s → st[k]? = some a → okTo o s a k o.length = true
  | 0 => by simp [punTo]
  | n + 1 => by
    rw [punTo, Bool.and_eq_true, punTo_iff l st o n]
    constructor
    · rintro ⟨h1, h2⟩ k s a hk hs ha
      by_cases e : k = n
      · subst e
        rw [hs, ha] at h2
        exact h2
      · exact h1 k s a (by omega) hs ha
    · refine fun h => ⟨fun k s a hk => h k s a (by omega), ?_⟩
      cases hs : l[n]? with
      | none => rfl
      | some s =>
        cases ha : st[n]? with
        | none => rfl
        | some a => exact h n s a (by omega) hs ha
theorem punB_iff (l : List Sm) (st : List Int) (o : List Int) : punB l st o = true ↔ Punct l st o := by
  unfold punB Punct
  rw [punTo_iff]
  constructor
  · intro h k s a hs ha t ht
    have := (okTo_iff o s a k o.length).1 (h k s a (List.getElem?_eq_some_iff.1 hs).1 hs ha) t ht
    exact of_decide_eq_true this
  · intro h k s a _ hs ha
    exact (okTo_iff o s a k o.length).2 fun t ht => decide_eq_true (h k s a hs ha t ht)
/-- The number of rounds of the inner loop. -/
theorem due_end {p a d m : Int} {k : Nat} (hp : 1 ≤ p) (h1 : ¬ a + k * p + d ≤ m) (h2 : k = 0 ∨ a + ((k : Int) - 1) * p + d ≤ m) : cntS p a (m - d + 1) = k := by
  unfold cntS
  rcases h2 with h2 | h2
  · subst h2
    rw [if_pos (by simp at h1; omega)]
    rfl
  · by_cases hk : k = 0
    · subst hk
      rw [if_pos (by simp at h1; omega)]
      rfl
    · have e : ((k : Int) - 1) * p = (k : Int) * p - p := by rw [Int.sub_mul, Int.one_mul]
      rw [e] at h2
      have h3 : 0 ≤ ((k : Int) - 1) * p := Int.mul_nonneg (by omega) (by omega)
      rw [e] at h3
      rw [if_neg (by omega)]
      have h4 := Int.mul_ediv_add_emod (m - d - a) p
      have h5 := Int.emod_nonneg (m - d - a) (show p ≠ 0 by omega)
      have h6 := Int.emod_lt_of_pos (m - d - a) (show 0 < p by omega)
      rw [show m - d + 1 - a - 1 = m - d - a by omega]
      generalize (m - d - a) / p = x at *
      generalize (m - d - a) % p = y at *
      rw [Int.mul_comm] at h4
      rcases (by omega : x ≤ (k : Int) - 2 ∨ x = (k : Int) - 1 ∨ (k : Int) ≤ x) with h | h | h
      · have := Int.mul_le_mul_of_nonneg_right h (show 0 ≤ p by omega)
        have e2 : ((k : Int) - 2) * p = (k : Int) * p - 2 * p := by rw [Int.sub_mul]
        omega
      · omega
      · have := Int.mul_le_mul_of_nonneg_right h (show 0 ≤ p by omega)
        omega
set_option maxHeartbeats 8000000 in
theorem r_isPunctual (l : List Sm) (st o : List Int) (Al As Ao : Option Addr) (cl cs co : Nat) (w : World) (h : Opn l st) (hl : Sl cSm 4 w Al l) (hst : Sl cI 1 w As st) (ho : Sl cI 1 w Ao o) (hol : o.length ≤ 400) :
    Calls Tryd.prog 69 #[.slice Al l.length cl, .slice As st.length cs, .slice Ao o.length co] w (Same (.bool (punB l st o)) w) := by
  have Hl := Lib.hid hl
  have Hst := Lib.hid hst
  have Ho := Lib.hid ho
  have Hsm := Lib.hid h.sm
  have Hss := Lib.hid h.st
  have hlen := h.len
  have hsl := h.slen
  have hp0 : Hid (punTo l st o 0 = true) := rfl
  have hp1 := Lib.hid fun (i : Nat) (s : Sm) (a : Int) (hs : l[i]? = some s) (ha : st[i]? = some a) => (show punTo l st o (i + 1) = (punTo l st o i && okTo o s a i o.length) by rw [punTo, hs, ha])
  have hk0 : Hid (∀ s a i, okTo o s a i 0 = true) := fun _ _ _ => rfl
  have hk1 : Hid (∀ s a i t, okTo o s a i (t + 1) = (okTo o s a i t && okB o s a i t)) := fun _ _ _ _ => rfl
  have hfin : Hid (punTo l st o l.length = punB l st o) := rfl
  have hbad : Hid (∀ (i : Nat) (s : Sm) (a : Int) (t : Nat), l[i]? = some s → st[i]? = some a → t < o.length → okB o s a i t = false → punB l st o = false) := fun i s a t hs ha ht hb => by
    rw [Bool.eq_false_iff]
    intro hp
    have h1 := (okTo_iff o s a i o.length).1 ((punTo_iff l st o l.length).1 hp i s a (List.getElem?_eq_some_iff.1 hs).1 hs ha) t ht
    rw [hb] at h1
    cases h1
  have hcn : Hid (∀ (t : Nat) (x : Int) (i : Nat), o[t]? = some x → (((o.take (t + 1)).count (i : Int) : Nat) : Int) = ((o.take t).count (i : Int) : Nat) + if x = i then 1 else 0) := fun t x i hx => by
    rw [List.take_add_one, hx, List.count_append]
    simp only [Option.toList, List.count_singleton]
    by_cases e : x = i <;> simp [e]
  have hcb : Hid (∀ (t i : Nat), 0 ≤ (((o.take t).count (i : Int) : Nat) : Int) ∧ (((o.take t).count (i : Int) : Nat) : Int) ≤ o.length) := fun t i => by
    have := List.count_le_length (a := (i : Int)) (l := o.take t)
    have h2 : (o.take t).length ≤ o.length := by rw [List.length_take]; omega
    omega
  clear h hl hst ho
  generalize punB l st o = R at *
  obtain ⟨P, hP⟩ : ∃ P : Nat → Bool, ∀ i, punTo l st o i = P i := ⟨_, fun _ => rfl⟩
  obtain ⟨K, hK⟩ : ∃ K : Sm → Int → Nat → Nat → Bool, ∀ s a i t, okTo o s a i t = K s a i t := ⟨_, fun _ _ _ _ => rfl⟩
  obtain ⟨C, hC⟩ : ∃ C : Nat → Nat → Int, ∀ t i : Nat, (((o.take t).count (i : Int) : Nat) : Int) = C t i := ⟨_, fun _ _ => rfl⟩
  have hB : Hid (∀ (s : Sm) (a : Int) (i t : Nat), okB o s a i t = decide (dueB s a t ≤ C (t + 1) i)) := fun s a i t => by
    rw [← hC]; rfl
  have hC0 : Hid (∀ i, C 0 i = 0) := fun i => by rw [← hC]; simp
  simp only [hP, hK, hC] at *
  clear hP hK hC
  rw [hsl]
  go_enter Tryd.func69, Tryd.ntmps69
  go_wp2
  go_loopw [7] (fun i wr => ∃ k : Nat, k ≤ l.length ∧ i = .int .i64 k ∧ P k = true ∧ w = wr) (fun i _ => l.length - (intOf i).toNat)
  case atStart => exact ⟨0, Nat.zero_le _, rfl, hp0.out, rfl⟩
  case round =>
    obtain ⟨k, hk, rfl, hpk, rfl⟩ := hrel
    replace hpk := Lib.hid hpk
    by_cases hkn : k < l.length
    rotate_left
    · obtain rfl : k = l.length := by omega
      go_wp2
      go_ret
      exact ⟨by rw [← hfin.out, hpk.out]; rfl, rfl⟩
    have hx : l[k]? = some l[k] := List.getElem?_eq_getElem hkn
    have hsk : k < st.length := by omega
    have ha : st[k]? = some st[k] := List.getElem?_eq_getElem hsk
    obtain ⟨s1, s2, s3, s4, s5, s6⟩ := Hsm.out l[k] (List.getElem_mem hkn)
    have hss := Hss.out st[k] (List.getElem_mem hsk)
    have hpn := hp1.out k l[k] st[k] hx ha
    have hbadk := Lib.hid fun t => hbad.out k l[k] st[k] t hx ha
    have hk0k := hk0.out l[k] st[k] k
    have hk1k := Lib.hid fun t => hk1.out l[k] st[k] k t
    have hBk := Lib.hid fun t => hB.out l[k] st[k] k t
    generalize l[k] = s at *
    generalize st[k] = a at *
    obtain ⟨b, off, rfl, hc⟩ := Hl.out k s hx
    obtain ⟨b2, o2, rfl, hc2⟩ := Hst.out k a ha
    have LP := hc 1 _ rfl
    have LD := hc 2 _ rfl
    have LL := hc 3 _ rfl
    have LA := hc2 0 _ rfl
    simp only [Nat.add_zero, Nat.mul_one] at LA
    have hkn2 : (k : Int) < l.length := by omega
    clear hc hc2 hx ha hbad hk0 hk1 hp1 hB
    replace hpn := Lib.hid hpn
    have hdue : Hid (∀ t : Nat, dueB s a t = s.len * cntS s.per a ((t : Int) + 2 - s.dl)) := fun _ => rfl
    obtain ⟨dU, hdU⟩ : ∃ dU : Nat → Int, ∀ t, dueB s a t = dU t := ⟨_, fun _ => rfl⟩
    simp only [hdU] at hdue hBk
    clear hdU
    obtain ⟨nm, p, dl, ln⟩ := s
    dsimp only at *
    go_wp2
    go_loopw [8, 9] (fun x i wr => ∃ t : Nat, t ≤ o.length ∧ i = .int .i64 t ∧ x = .int .i64 (C t k) ∧ K ⟨nm, p, dl, ln⟩ a k t = true ∧ w = wr) (fun _ i _ => o.length - (intOf i).toNat)
    case atStart => exact ⟨0, Nat.zero_le _, rfl, by rw [hC0.out], hk0k, rfl⟩
    case round =>
      obtain ⟨t, ht, rfl, rfl, hkt, rfl⟩ := hrel
      replace hkt := Lib.hid hkt
      by_cases hto : t < o.length
      rotate_left
      · obtain rfl : t = o.length := by omega
        have e2 : P (k + 1) = true := by rw [hpn.out, hpk.out, hkt.out]; rfl
        replace e2 := Lib.hid e2
        go_wp2
        go_roundw
        case rel => exact ⟨k + 1, by omega, by go_num, e2.out, by trivial⟩
        case measure => simp [intOf]; omega
      have hy : o[t]? = some o[t] := List.getElem?_eq_getElem hto
      have hcnt := hcn.out t o[t] k hy
      have hbadt := Lib.hid fun h => hbadk.out t hto h
      have hkn1 := hk1k.out t
      have hBt := hBk.out t
      have hdt := hdue.out t
      obtain ⟨hc0, hc1⟩ := hcb.out t k
      have hc2 := (hcb.out (t + 1) k).2
      generalize o[t] = y at *
      obtain ⟨b3, o3, rfl, hc3⟩ := Ho.out t y hy
      have LO := hc3 0 _ rfl
      simp only [Nat.add_zero, Nat.mul_one] at LO
      have hto2 : (t : Int) < o.length := by omega
      clear hc3 hy
      replace hBt := Lib.hid hBt
      replace hdt := Lib.hid hdt
      replace hkn1 := Lib.hid hkn1
      replace hcnt := Lib.hid hcnt
      by_cases hyk : y = k
      all_goals
        have hct : C (t + 1) k = C t k + (if y = k then 1 else 0) := hcnt.out
        first
        | rw [if_pos hyk] at hct
        | rw [if_neg hyk] at hct
        (try subst hyk)
        go_wp2
        go_loopw [10, 11] (fun x i wr => ∃ m : Nat, x = .int .i64 (ln * m) ∧ i = .int .i64 (a + m * p) ∧ (m = 0 ∨ a + ((m : Int) - 1) * p + dl ≤ (t : Int) + 1) ∧ w = wr) (fun _ i _ => (t + 2 - (intOf i)).toNat)
        case atStart => exact ⟨0, by simp, by simp, .inl rfl, rfl⟩
        case round =>
          obtain ⟨m, rfl, rfl, hm, rfl⟩ := hrel
          have hmp0 : 0 ≤ (m : Int) * p := Int.mul_nonneg (by omega) (by omega)
          have hmp1 : (((m + 1 : Nat) : Int)) * p = (m : Int) * p + p := by rw [show ((m + 1 : Nat) : Int) = (m : Int) + 1 by omega, Int.add_mul, Int.one_mul]
          have hmp2 : ((m : Int) - 1) * p = (m : Int) * p - p := by rw [Int.sub_mul, Int.one_mul]
          have hmm : (m : Int) ≤ 402 := by
            rcases hm with h | h
            · omega
            · by_cases h0 : m = 0
              · omega
              · have := Int.mul_le_mul_of_nonneg_left s1 (show 0 ≤ (m : Int) - 1 by omega)
                rw [Int.mul_one] at this
                omega
          have hml0 : 0 ≤ ln * (m : Int) := Int.mul_nonneg (by omega) (by omega)
          have hml1 : ln * (m : Int) ≤ 20 * 402 := Int.mul_le_mul (by omega) hmm (by omega) (by omega)
          have hml2 : ln * (((m + 1 : Nat) : Int)) = ln * (m : Int) + ln := by rw [show ((m + 1 : Nat) : Int) = (m : Int) + 1 by omega, Int.mul_add, Int.mul_one]
          have hmpb : (m : Int) * p ≤ 461 := by
            rcases hm with h | h
            · subst h; simp
            · omega
          have hend := Lib.hid fun h1 : ¬ a + (m : Int) * p + dl ≤ (t : Int) + 1 => due_end (p := p) (a := a) (d := dl) (m := (t : Int) + 1) (k := m) s1 h1 hm
          rw [hmp2] at hm
          replace hmp2 := Lib.hid hmp2
          by_cases hin : a + (m : Int) * p + dl ≤ (t : Int) + 1
          · have hn1 : a + (((m + 1 : Nat) : Int)) * p = a + (m : Int) * p + p := by rw [hmp1]; omega
            replace hmp1 := Lib.hid hmp1
            replace hml2 := Lib.hid hml2
            have hn2 := Lib.hid (show (((m + 1 : Nat) : Int) - 1) * p = (m : Int) * p by rw [show ((m + 1 : Nat) : Int) - 1 = (m : Int) by omega])
            replace hn1 := Lib.hid hn1
            generalize hq1 : (m : Int) * p = mp at *
            generalize hq2 : ln * (m : Int) = lm at *
            replace hq1 := Lib.hid hq1
            replace hq2 := Lib.hid hq2
            go_wp2
            go_roundw
            case rel => exact ⟨m + 1, by rw [hml2.out], by rw [hn1.out], .inr (by rw [hn2.out]; exact hin), by trivial⟩
            case measure => simp [intOf]; omega
          · have hcs := hend.out hin
            rw [show (t : Int) + 1 - dl + 1 = (t : Int) + 2 - dl by omega] at hcs
            have hd2 := hdt.out
            rw [hcs] at hd2
            have hB2 := hBt.out
            rw [hd2] at hB2
            replace hmp1 := Lib.hid hmp1
            replace hml2 := Lib.hid hml2
            replace hd2 := Lib.hid hd2
            replace hcs := Lib.hid hcs
            generalize hq1 : (m : Int) * p = mp at *
            generalize hq2 : ln * (m : Int) = lm at *
            replace hq1 := Lib.hid hq1
            replace hq2 := Lib.hid hq2
            by_cases hok : C (t + 1) k < lm
            · have hR := hbadt.out (by rw [hB2]; exact decide_eq_false (by omega))
              rw [hct] at hok
              (try rw [Int.add_zero] at hok)
              replace hct := Lib.hid hct
              replace hB2 := Lib.hid hB2
              replace hR := Lib.hid hR
              go_wp2
              go_ret
              exact ⟨by rw [hR.out]; rfl, rfl⟩
            · have hK2 := hkn1.out
              rw [hkt.out, hB2, decide_eq_true (show lm ≤ C (t + 1) k by omega)] at hK2
              rw [hct] at hok
              (try rw [Int.add_zero] at hok)
              replace hct := Lib.hid hct
              replace hB2 := Lib.hid hB2
              replace hK2 := Lib.hid hK2
              go_wp2
              go_roundw
              case rel => exact ⟨t + 1, by omega, by go_num, by simp [hct.out], by rw [hK2.out]; rfl, by trivial⟩
              case measure => simp [intOf]; omega
end Go.Proofs.YtdlmkblmljhbfaaDoor
namespace Go.Proofs.YtdlmkblmljhbfaaDoor
set_option linter.unusedSimpArgs false
set_option linter.unusedVariables false
theorem nod_len : ∀ (n : Nat) (a : List Nat), a.Nodup → (∀ x ∈ a, x < n) → a.length ≤ n
  | 0, a, _, h => by
    cases a with
    | nil => simp
    | cons x r => exact absurd (h x (by simp)) (by omega)
  | n + 1, a, hn, h => by
    by_cases hm : n ∈ a
    · have hp := List.perm_cons_erase hm
      have h1 := nod_len n (a.erase n) (hn.erase n) fun x hx => by
        have h2 := (hn.mem_erase_iff).1 hx
        have := h x h2.2
        have := h2.1
        omega
      have := hp.length_eq
      simp only [List.length_cons] at this
      omega
    · have := nod_len n a hn fun x hx => by
        have := h x hx
        have : x ≠ n := fun e => hm (e ▸ hx)
        omega
      omega
theorem nod_perm : ∀ (n : Nat) (a : List Nat), a.Nodup → (∀ x ∈ a, x < n) → a.length = n → a.Perm (List.range n)
  | 0, a, _, _, hl => by
    have : a = [] := List.eq_nil_of_length_eq_zero hl
    subst this
    exact List.Perm.refl _
  | n + 1, a, hn, h, hl => by
    have hm : n ∈ a := by
      by_cases hm : n ∈ a
      · exact hm
      · have := nod_len n a hn fun x hx => by
          have := h x hx
          have : x ≠ n := fun e => hm (e ▸ hx)
          omega
        omega
    have hp := List.perm_cons_erase hm
    have h0 := hp.length_eq
    simp only [List.length_cons] at h0
    have h1 := nod_perm n (a.erase n) (hn.erase n) (fun x hx => by
      have h2 := (hn.mem_erase_iff).1 hx
      have := h x h2.2
      have := h2.1
      omega) (by omega)
    rw [List.range_succ]
    exact hp.trans ((List.Perm.cons n h1).trans (List.perm_append_comm (l₁ := [n]) (l₂ := List.range n)))
/-- The streams of an order that has begun. -/
def ordL (l : List Sm) (b : List Nat) : List Sm := b.map fun i => l[i]?.getD ⟨.empty, 1, 1, 1⟩
theorem ordL_range (l : List Sm) : ordL l (List.range l.length) = l := by
  apply List.ext_getElem?
  intro k
  unfold ordL
  rw [List.getElem?_map]
  by_cases hk : k < l.length
  · rw [List.getElem?_range hk, List.getElem?_eq_getElem hk]
    simp [hk]
  · rw [List.getElem?_eq_none (by simpa using hk), List.getElem?_eq_none (by omega)]
    rfl
/-- An order that has begun, in which no stream is late. -/
structure Begun (l : List Sm) (b : List Nat) : Prop where
  nod : b.Nodup
  lt : ∀ x ∈ b, x < l.length
  ok : ∀ k, k < b.length → lateAt (ordL l b) k = false
theorem Begun.nil (l : List Sm) : Begun l [] := ⟨List.nodup_nil, fun x hx => by simp at hx, fun k hk => by simp at hk⟩
theorem Begun.ordr {l : List Sm} {b : List Nat} (h : Begun l b) (hl : b.length = l.length) : Ordr l := by
  refine ⟨ordL l b, ?_, fun k hk => h.ok k (by simpa [ordL] using hk)⟩
  have := (nod_perm l.length b h.nod h.lt hl).map fun i => l[i]?.getD ⟨.empty, 1, 1, 1⟩
  have e := ordL_range l
  unfold ordL at e ⊢
  rw [e] at this
  exact this
theorem ordL_app (l : List Sm) (b : List Nat) (i : Nat) (s : Sm) (hs : l[i]? = some s) : ordL l (b ++ [i]) = ordL l b ++ [s] := by simp [ordL, hs]
theorem lateAt_app {a : List Sm} {s : Sm} {k : Nat} (hk : k < a.length) : lateAt (a ++ [s]) k = lateAt a k := by
  unfold lateAt
  rw [List.getElem?_append_left hk, List.take_append_of_le_length (by omega)]
theorem lateAt_last (a : List Sm) (s : Sm) : lateAt (a ++ [s]) a.length = lateB a s := by
  unfold lateAt
  rw [List.getElem?_append_right (Nat.le_refl _)]
  simp
theorem Begun.next {l : List Sm} {b : List Nat} (h : Begun l b) {i : Nat} {s : Sm} (hs : l[i]? = some s) (hn : i ∉ b) (hl : lateB (ordL l b) s = false) : Begun l (b ++ [i]) := by
  have hlen : (ordL l b).length = b.length := by simp [ordL]
  refine ⟨List.nodup_append.2 ⟨h.nod, by simp, fun x hx y hy => ?_⟩, fun x hx => ?_, fun k hk => ?_⟩
  · have hy := List.mem_singleton.1 hy
    subst hy
    exact fun e => hn (e ▸ hx)
  · rcases List.mem_append.1 hx with hx | hx
    · exact h.lt x hx
    · have hx := List.mem_singleton.1 hx
      subst hx
      exact (List.getElem?_eq_some_iff.1 hs).1
  · rw [ordL_app l b i s hs]
    by_cases e : k < b.length
    · rw [lateAt_app (by omega)]
      exact h.ok k e
    · have : k = (ordL l b).length := by simp at hk; omega
      subst this
      rw [lateAt_last]
      exact hl
theorem Begun.len {l : List Sm} {b : List Nat} (h : Begun l b) : b.length ≤ l.length := nod_len _ _ h.nod h.lt
end Go.Proofs.YtdlmkblmljhbfaaDoor
namespace Go.Proofs.YtdlmkblmljhbfaaDoor
set_option linter.unusedSimpArgs false
set_option linter.unusedVariables false
open Go.RowKit
attribute [local go_sem] bl_al bl_drew bl_drewN bl_refl bx_al bx_drew bx_drewN bx_refl
set_option maxRecDepth 20000
set_option maxHeartbeats 2000000 in
theorem c_IndexI (l : List Int) (x : Int) (A : Option Addr) (c : Nat) (w : World) (hs : Sl cI 1 w A l) (hl : l.length ≤ 1000) :
    Calls Tryd.prog 155 #[.slice A l.length c, .int .i64 x] w (Same (.int .i64 (idxF (fun y => decide (x = y)) l 0)) w) := by
  have Hs := Lib.hid hs
  clear hs
  obtain ⟨n, Hn⟩ : ∃ n, Hid (l.length = n) := ⟨_, rfl⟩
  rw [Hn.out] at hl ⊢
  go_enter Tryd.func155, Tryd.ntmps155
  go_wp2
  go_loopw [8] (fun i wr => ∃ k : Nat, k ≤ n ∧ i = .int .i64 k ∧ w = wr ∧ idxF (fun y => decide (x = y)) l 0 = idxF (fun y => decide (x = y)) (l.drop k) k) (fun i _ => n - (intOf i).toNat)
  case atStart => exact ⟨0, Nat.zero_le _, rfl, rfl, rfl⟩
  case round =>
    obtain ⟨k, hk, rfl, rfl, hi⟩ := hrel
    replace hi := Lib.hid hi
    by_cases hlt : k < n
    · have hx : l[k]? = some (l[k]'(by rw [Hn.out]; exact hlt)) := List.getElem?_eq_getElem _
      generalize l[k]'(by rw [Hn.out]; exact hlt) = y at hx
      obtain ⟨b, off, rfl, hc⟩ := Hs.out k y hx
      have c0 := hc 0 _ rfl
      simp only [Nat.add_zero, Nat.mul_one] at c0
      have hd := idxF_drop (fun y => decide (x = y)) l k y hx
      have hlt2 : (k : Int) < n := by omega
      clear hc hx
      by_cases hxy : x = y
      · rw [if_pos (by simpa using hxy)] at hd
        subst hxy
        replace hd := Lib.hid hd
        go_wp2
        go_ret
        exact ⟨by rw [hi.out, hd.out] <;> rfl, rfl⟩
      · rw [if_neg (by simpa using hxy)] at hd
        replace hd := Lib.hid hd
        go_wp2
        go_roundw
        case rel => exact ⟨k + 1, by omega, by go_num, by trivial, by rw [hi.out, hd.out]; simp⟩
        case measure => simp [intOf]; omega
    · have e : idxF (fun y => decide (x = y)) l 0 = -1 := by
        rw [hi.out, List.drop_eq_nil_of_le (by have := Hn.out; omega)]
        rfl
      replace e := Lib.hid e
      go_wp2
      go_ret
      exact ⟨by rw [e.out] <;> rfl, rfl⟩
theorem c_ContainsI (l : List Int) (x : Int) (A : Option Addr) (c : Nat) (w : World) (hs : Sl cI 1 w A l) (hl : l.length ≤ 1000) :
    Calls Tryd.prog 141 #[.slice A l.length c, .int .i64 x] w (Same (.bool (l.any fun y => decide (x = y))) w) := by
  have hi := Lib.hid (c_IndexI l x A c w hs hl)
  have hg := Lib.hid (idxF_ge (fun y => decide (x = y)) l 0 (Int.le_refl _))
  clear hs
  generalize idxF (fun y => decide (x = y)) l 0 = I at *
  generalize (l.any fun y => decide (x = y)) = B at *
  generalize l.length = n at *
  go_enter Tryd.func141, Tryd.ntmps141
  go_wp2_with fail
  refine hi.out.mono ?_
  rintro e w1 ⟨rfl, rfl⟩
  go_wp2
  go_ret
  exact ⟨by rw [← hg.out] <;> rfl, rfl⟩
theorem c_ClipI (l : List Int) (A : Option Addr) (c : Nat) (w : World) (hl : l.length ≤ c) (hc : c ≤ maxLen) :
    Calls Tryd.prog 142 #[.slice A l.length c] w (Same (.slice A l.length l.length) w) := by
  generalize l.length = n at *
  go_enter Tryd.func142, Tryd.ntmps142
  go_wp2
  go_ret
  exact ⟨rfl, rfl⟩
end Go.Proofs.YtdlmkblmljhbfaaDoor
namespace Go.Proofs.YtdlmkblmljhbfaaDoor
set_option linter.unusedSimpArgs false
set_option linter.unusedVariables false
open Go.RowKit
set_option maxRecDepth 20000
/-- The blocks of two slices of the call's own are not one. -/
def Dis (u v : Value) : Prop := ∀ k, u.ownBlock = some k → v.ownBlock ≠ some k
theorem Dis.symm {u v : Value} (h : Dis u v) : Dis v u := fun k hk hu => h k hu hk
theorem dis_nil (v : Value) : Dis (.slice none 0 0) v := fun k hk => by simp [Value.ownBlock] at hk
section
variable {P : Program} {w : World}
theorem run_append_own2 (base : Nat) (t ty e : TypeId) (i : TypeInfo) (z : Value) (size bytes : Nat) (ht : P.underlying t = some (.slice e)) (hi : P.info? e = some i) (hz : i.zero = some z)
    (hsize : i.size = size) (hby : i.bytes = bytes) (hzs : z.cells.size = size) (hsz : 0 < size)
    (v : Value) (n : Nat) (xs : List Value) (hown : w.ownsRow base e size v n xs)
    (a : Addr) (m c : Nat) (news : List Value) (hl : news.length = m * size) (hnews : ∀ j u, news[j]? = some u → w.cell? (a.add j) = some u) (h1 : ∀ u ∈ news, u.oneCell' = true)
    (h63 : n + m ≤ maxLen) (hbytes : (n + m) * bytes ≤ 140737488355328) (hbase : base ≤ w.heap.size) :
    ∃ v' w', (Builtin.append_ #[t, t] ty #[v, .slice (some a) m c]).run P w = .ok v' w' ∧ w'.ownsRow base e size v' (n + m) (xs ++ news) ∧ w.grownBy w' v.ownBlock ∧
      ∀ k, v'.ownBlock = some k → v.ownBlock = some k ∨ w.heap.size ≤ k := by
  obtain ⟨v', w', hr, h2, h3, h4⟩ := run_append_own (P := P) w base t ty e i z size bytes ht hi hz hsize hby hzs hsz v n xs hown a m c news hl hnews h1 h63 hbytes hbase
  refine ⟨v', w', hr, h2, h3, ?_⟩
  rcases hown.2 with ⟨rfl, rfl⟩ | ⟨g, cap, cur, rfl, hbg, hg, hnc, hcm, hcs, htake⟩
  · have hx : xs = [] := List.eq_nil_of_length_eq_zero (by simpa using hown.1)
    subst hx
    obtain ⟨v2, w2, hr2, h5, -, -⟩ := run_append_own (P := P) w w.heap.size t ty e i z size bytes ht hi hz hsize hby hzs hsz _ 0 [] (World.ownsRow_nil _ _ _ _) a m c news hl hnews h1 h63 hbytes (Nat.le_refl _)
    rw [hr] at hr2
    injection hr2 with e1 e2
    subst e1 e2
    exact fun k hk => .inr (own_ge h5 k hk)
  · subst hsize
    by_cases hroom : n + m ≤ cap
    · have hfit : n * i.size + news.length ≤ cur.size := by rw [hl, hcs, ← Nat.add_mul]; exact Nat.mul_le_mul_right _ hroom
      have hr2 := run_append_room (P := P) w t ty e i ht hi g n cap cur hg a m c news hl hnews h1 hroom hfit
      rw [hr] at hr2
      injection hr2 with e1 e2
      subst e1
      exact fun k hk => .inl (by simpa [Value.ownBlock] using hk)
    · have holds : ∀ j u, xs[j]? = some u → w.cell? ((⟨g, 0, none⟩ : Addr).add j) = some u := hown.cells (g := g) rfl
      have hsmall : n + m ≤ 9223372036854775807 := by simp only [maxLen] at h63; omega
      subst hby
      have hr2 := run_append_grow (P := P) w t ty e i z ht hi hz ⟨g, 0, none⟩ n cap xs hown.1 holds a m c news hl hnews (by omega) (by omega) (growslice_fits (by omega) hbytes)
      rw [hr] at hr2
      injection hr2 with e1 e2
      subst e1
      exact fun k hk => .inr (by simp [Value.ownBlock] at hk; omega)
theorem wpList_append_own2 {ops : Array Oper} {rest : List Oper} {o : Oper} {a : Act} {Q : Exit → Act → World → Prop} (hgd : o.guard = none) (s x : Operand) (t : TypeId)
    (ho : o.op = .call { callee := .builtin .append, args := #[s, x], argTypes := #[t, t] })
    (base : Nat) (e : TypeId) (i : TypeInfo) (z : Value) (size bytes : Nat) (ht : P.underlying t = some (.slice e)) (hi : P.info? e = some i) (hz : i.zero = some z)
    (hsize : i.size = size) (hby : i.bytes = bytes) (hzs : z.cells.size = size) (hsz : 0 < size)
    (v : Value) (n : Nat) (xs : List Value) (hs : a.eval s = v) (hown : w.ownsRow base e size v n xs)
    (ad : Addr) (m c : Nat) (news : List Value) (hx : a.eval x = .slice (some ad) m c) (hl : news.length = m * size) (hnews : ∀ j u, news[j]? = some u → w.cell? (ad.add j) = some u) (h1 : ∀ u ∈ news, u.oneCell' = true)
    (h63 : n + m ≤ maxLen) (hbytes : (n + m) * bytes ≤ 140737488355328) (hbase : base ≤ w.heap.size)
    (h : ∀ v' w', w'.ownsRow base e size v' (n + m) (xs ++ news) → w.grownBy w' v.ownBlock → (∀ k, v'.ownBlock = some k → v.ownBlock = some k ∨ w.heap.size ≤ k) → wpList P ops Q rest (a.put o.dst v') w') : wpList P ops Q (o :: rest) a w := by
  refine wpList_plain hgd fun _ hK => ?_
  obtain ⟨v', w', hr, h2, h3, h4⟩ := run_append_own2 (P := P) base t o.type e i z size bytes ht hi hz hsize hby hzs hsz v n xs hown ad m c news hl hnews h1 h63 hbytes hbase
  unfold Oper.wp execOp
  simp only [ho, resolve, invoke, builtin, Sem.run_bind, Sem.run_pure, Result.andThen_ok, List.map_toArray, List.map_cons, List.map_nil, hs, hx, hr]
  exact hK _ _ (h v' w' h2 h3 h4)
end
/-- Three slices of integers of the call's own, in blocks of their own. -/
structure Row3 (D : Nat) (u v x : Value) (A B C : List Int) (w : World) : Prop where
  a : w.ownsRow D 3 1 u A.length (A.map (.int .i64))
  b : w.ownsRow D 3 1 v B.length (B.map (.int .i64))
  c : w.ownsRow D 3 1 x C.length (C.map (.int .i64))
  ab : Dis u v
  ac : Dis u x
  bc : Dis v x
  ge : D ≤ w.heap.size
theorem kept2 {D n m : Nat} {u v : Value} {xs ys : List Value} {e : TypeId} {size : Nat} {w w' : World} (h : w.ownsRow D e size v m ys) (hg : w.grownBy w' u.ownBlock) (hd : Dis u v) : w'.ownsRow D e size v m ys :=
  h.kept hg (by
    cases hv : v.ownBlock with
    | none => exact .inl rfl
    | some k =>
      refine .inr fun e => ?_
      exact hd k e.symm hv)
theorem dis_new {D n : Nat} {u u' v : Value} {ys : List Value} {e : TypeId} {size : Nat} {w : World} (h : w.ownsRow D e size v n ys) (hd : Dis u v) (hu : ∀ k, u'.ownBlock = some k → u.ownBlock = some k ∨ w.heap.size ≤ k) : Dis u' v := fun k hk hv => by
  rcases hu k hk with h1 | h1
  · exact hd k h1 hv
  · have := (h.lt k hv).2
    omega
theorem Row3.nil {D : Nat} {w : World} (h : D ≤ w.heap.size) : Row3 D (.slice none 0 0) (.slice none 0 0) (.slice none 0 0) [] [] [] w :=
  ⟨World.ownsRow_nil _ _ _ _, World.ownsRow_nil _ _ _ _, World.ownsRow_nil _ _ _ _, dis_nil _, dis_nil _, dis_nil _, h⟩
theorem Row3.below {D : Nat} {u v x : Value} {A B C : List Int} {w w' : World} (h : Row3 D u v x A B C w) (hb : Below w.heap.size w w') : Row3 D u v x A B C w' :=
  ⟨own_below h.a hb, own_below h.b hb, own_below h.c hb, h.ab, h.ac, h.bc, Nat.le_trans h.ge hb.size⟩
theorem Row3.appA {D : Nat} {u u' v x : Value} {A B C : List Int} {y : Int} {w w' : World} (h : Row3 D u v x A B C w) (ho : w'.ownsRow D 3 1 u' (A.length + 1) (A.map (.int .i64) ++ [.int .i64 y])) (hg : w.grownBy w' u.ownBlock)
    (hu : ∀ k, u'.ownBlock = some k → u.ownBlock = some k ∨ w.heap.size ≤ k) : Row3 D u' v x (A ++ [y]) B C w' :=
  ⟨by simpa using ho, kept2 (n := 0) (xs := []) h.b hg h.ab, kept2 (n := 0) (xs := []) h.c hg h.ac, dis_new h.b h.ab hu, dis_new h.c h.ac hu, h.bc, Nat.le_trans h.ge hg.size⟩
theorem Row3.rot {D : Nat} {u v x : Value} {A B C : List Int} {w : World} (h : Row3 D u v x A B C w) : Row3 D v x u B C A w := ⟨h.b, h.c, h.a, h.bc, h.ab.symm, h.ac.symm, h.ge⟩
end Go.Proofs.YtdlmkblmljhbfaaDoor
