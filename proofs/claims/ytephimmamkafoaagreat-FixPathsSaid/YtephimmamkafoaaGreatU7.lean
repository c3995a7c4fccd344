/-
  Walks: which readings are valid.
  Walks: what a reading measures of a box, and what it permits.
-/
import Derived.Test.YtephimmamkafoaaGreatU3
import Derived.Test.YtephimmamkafoaaGreatU4
import Derived.Test.YtephimmamkafoaaGreatU6
set_option linter.unusedSimpArgs false
set_option linter.unusedVariables false
namespace Go.Proofs.YtephimmamkafoaaGreat
open Go.RowKit Go.Shelf
attribute [local go_sem] bl_al bl_drew bl_drewN bl_refl bx_al bx_drew bx_drewN bx_refl
set_option maxRecDepth 20000
/-- The error of a reading, for so many beacons. -/
def rdErr (nb : Nat) (r : Rd) : Int := fstE [unl (inR r.kind 0 1) 15, unl (if r.kind = 1 then inR r.idx 0 2 else inR r.idx 0 ((nb : Int) - 1)) 6,
  unl (insR r.v (if r.kind = 1 then -30000 else 0)) 2, unl (decide (r.v.lo ≤ r.v.hi)) 9]
where insR (v : Rg) (l : Int) : Bool := inR v.lo l 30000 && inR v.hi l 30000
set_option maxHeartbeats 4000000 in
theorem c_rdErr (wd : Bx) (A : Option Addr) (nb c : Nat) (r : Rd) (k : Nat) (g : Nat) (t : TypeId) (w : World) (hnb : nb ≤ 1000) (hk : Blk w g t (aON wd (.slice A nb c))) :
    Calls Tryz.prog 122 #[.int .i64 k, vRd r, .pointer (some ⟨g, 0, none⟩)] w (Ret (.int .i64 (rdErr nb r)) w) := by
  have hr : Hid (rdErr nb r = fstE [unl (inR r.kind 0 1) 15, unl (if r.kind = 1 then inR r.idx 0 2 else inR r.idx 0 ((nb : Int) - 1)) 6, unl (rdErr.insR r.v (if r.kind = 1 then -30000 else 0)) 2, unl (decide (r.v.lo ≤ r.v.hi)) 9]) := rfl
  by_cases h1 : r.kind = 1
  · simp only [rdErr.insR, if_pos h1] at hr
    obtain ⟨bA, hA⟩ : ∃ b, inR r.v.lo (-30000) 30000 = b := ⟨_, rfl⟩
    have hcp := Lib.hid fun W : World => hA ▸ c_within r.v.lo (-30000) 30000 W
    rw [hA] at hr
    replace hA := Lib.hid hA
    have h1' : (r.kind == 1) = true := by simp [h1]
    replace h1 := Lib.hid h1
    cases bA
    all_goals
      simp only [Bool.false_and, Bool.true_and] at hr
      go_enter Tryz.func122, Tryz.ntmps122
      have k0 := hk
      have hb0 := bl_refl w
      have Q0 := k0.lt
      go_upto_region 1 with fail
      apply absB2 (w0 := w) (g0 := g) (g1 := w.heap.size)
      iterate 3 (focus exact zL)
      try clear hb3
      try clear hb0
      try clear k0
      try clear k1
      intro wa hb0 k0 k1
      (try simp only [List.setIfInBounds_toArray, List.set_cons_zero, List.set_cons_succ] at k0 k1)
      have Lk0 := k0.later
      have Fk0 := k0.laterF
      have Qk0 := k0.lt
      have Lk1 := k1.later
      have Fk1 := k1.laterF
      have Qk1 := k1.lt
      go_upto_region 4 with (first | (go_at_call 75; (with_reducible refine (c_within _ _ _ _).mono ?_); rintro e w3 ⟨rfl, rfl⟩) | (go_at_call 123; (with_reducible refine (c_isBeacon wd A nb c r.idx _ hnb).mono ?_); rintro e w3 ⟨rfl, hb3⟩; replace hb3 := bl_tt hb3))
      apply absB2 (w0 := w) (g0 := g) (g1 := w.heap.size)
      iterate 3 (focus exact zL)
      try clear hb3
      try clear Lk0
      try clear Fk0
      try clear Qk0
      try clear Lk1
      try clear Fk1
      try clear Qk1
      try clear hb0
      try clear k0
      try clear k1
      intro wb hb0 k0 k1
      (try simp only [List.setIfInBounds_toArray, List.set_cons_zero, List.set_cons_succ] at k0 k1)
      have Lk0 := k0.later
      have Fk0 := k0.laterF
      have Qk0 := k0.lt
      have Lk1 := k1.later
      have Fk1 := k1.laterF
      have Qk1 := k1.lt
      refine wp_any (w0 := wb) ⟨[], [], [some 18, some 19, some 20, some 21, some 22, some 23, some 24, some 25, some 26, some 27, some 28, some 29, some 30, some 31, some 32, some 33, some 34, some 35, some 36, some 37, some 38, some 39, some 40, some 41, some 42, some 43, some 44, some 45, some 46, some 5], [[], [0], [0, 1], [0, 1, 2], [], [0, 1, 2, 3, 4], [], [6], [6, 7], [], [0, 1, 2, 3, 4, 5, 6, 7, 8, 9], [0, 1, 2, 3, 4, 5, 6, 7, 8, 9, 10], [0, 1, 2, 3, 4, 5, 6, 7, 8, 9, 10, 11], [0, 1, 2, 3, 4, 5, 6, 7, 8, 9, 10, 11, 12], [0, 1, 2, 3, 4, 5, 6, 7, 8, 9, 10, 11, 12, 13], [0, 1, 2, 3, 4, 5, 6, 7, 8, 9, 10, 11], [0, 1, 2, 3, 4, 5, 6, 7, 8, 9, 10, 11, 12, 13, 14, 15], [0, 1, 2, 3, 4, 5, 6, 7, 8, 9, 10, 11, 12, 13, 14, 15, 16], [0, 1, 2, 3, 4, 5, 6, 7, 8, 9, 10, 11, 12, 13, 14, 15, 16, 17], [], [19], [19, 20], [], [22], [22, 23], [19, 20, 21, 22, 23, 24], [0, 1, 2, 3, 4, 5, 6, 7, 8, 9, 10, 11, 12, 13, 14, 15, 16, 17, 18, 19, 20, 21, 22, 23, 24, 25], [0, 1, 2, 3, 4, 5, 6, 7, 8, 9, 10, 11, 12, 13, 14, 15, 16, 17, 18, 19, 20, 21, 22, 23, 24, 25, 26], [0, 1, 2, 3, 4, 5, 6, 7, 8, 9, 10, 11, 12, 13, 14, 15, 16, 17, 18, 19, 20, 21, 22, 23, 24, 25, 26, 27], [0, 1, 2, 3, 4, 5, 6, 7, 8, 9, 10, 11, 12, 13, 14, 15, 16, 17, 18, 19, 20, 21, 22, 23, 24, 25, 26, 27, 28]], [[], [0], [1], [2], [], [4], [], [6], [7], [], [8, 9], [10], [11], [11, 12], [11, 13], [11], [11, 14, 15], [11, 16], [17], [], [19], [20], [], [22], [23], [21, 24], [25], [3, 5, 18, 26], [27], [27, 28]]⟩ (fun _ => []) (by kernel_rfl) (by kernel_rfl) (by (exact zE)) (fun u => by simp only [putD, Act.put, List.setIfInBounds_toArray, List.set_cons_zero, List.set_cons_succ, Nat.zero_add, Nat.reduceAdd]; rfl) ?_
      apply RGW.on (i := 0) rfl
      · exact zG
      · intro γ u W hcur hd
        clear hd
        (try dsimp only)
        exact ⟨rfl, zS⟩
      · exact zC
      · rfl
      dsimp only [nA, cA]
      apply RGW.on (i := 1) rfl
      · exact zG
      · intro γ u W hcur hd
        obtain ⟨⟨h0, -, -⟩, -⟩ := hd
        dsimp only at h0
        (try simp only [h0])
        exact ⟨rfl, zS⟩
      · exact zC
      · rfl
      dsimp only [nA, cA]
      apply RGW.call (i := 2) rfl
      · exact zG
      · intro γ u W hcur hd
        obtain ⟨⟨h1, -, -⟩, -⟩ := hd
        dsimp only at h1
        (try simp only [h1])
        refine ⟨rfl, fun K hK => ?_⟩
        go_simp
        (go_at_call 75; (first | (with_reducible refine (hcp.out _).mono ?_) | (with_reducible refine (c_within _ _ _ _).mono ?_)); rintro e w3 ⟨rfl, rfl⟩)
        (try dsimp only)
        exact hK.out _ _ rfl (by (exact zE))
      · exact zC
      · rfl
      dsimp only [nA, cA]
      apply RGW.call (i := 3) rfl
      · exact zG
      · intro γ u W hcur hd
        obtain ⟨⟨h2, -, -⟩, -⟩ := hd
        dsimp only at h2
        (try simp only [h2])
        refine ⟨rfl, fun K hK => ?_⟩
        go_simp
        (go_at_call 49; (with_reducible refine (c_unless _ _ _).mono ?_); rintro e w3 ⟨rfl, rfl⟩)
        (try dsimp only)
        exact hK.out _ _ rfl (by (exact zE))
      · exact zC
      · rfl
      dsimp only [nA, cA]
      apply RGW.on (i := 4) rfl
      · exact zG
      · intro γ u W hcur hd
        clear hd
        (try dsimp only)
        exact ⟨rfl, zS⟩
      · exact zC
      · rfl
      dsimp only [nA, cA]
      apply RGW.call (i := 5) rfl
      · exact zG
      · intro γ u W hcur hd
        obtain ⟨⟨h4, -, -⟩, -⟩ := hd
        dsimp only at h4
        (try simp only [h4])
        refine ⟨rfl, fun K hK => ?_⟩
        go_simp
        (go_at_call 49; (with_reducible refine (c_unless _ _ _).mono ?_); rintro e w3 ⟨rfl, rfl⟩)
        (try dsimp only)
        exact hK.out _ _ rfl (by (exact zE))
      · exact zC
      · rfl
      dsimp only [nA, cA]
      apply RGW.on (i := 6) rfl
      · exact zG
      · intro γ u W hcur hd
        clear hd
        (try dsimp only)
        exact ⟨rfl, zS⟩
      · exact zC
      · rfl
      dsimp only [nA, cA]
      apply RGW.on (i := 7) rfl
      · exact zG
      · intro γ u W hcur hd
        obtain ⟨⟨h6, -, -⟩, -⟩ := hd
        dsimp only at h6
        (try simp only [h6])
        exact ⟨rfl, zS⟩
      · exact zC
      · rfl
      dsimp only [nA, cA]
      apply RGW.on (i := 8) rfl
      · exact zG
      · intro γ u W hcur hd
        obtain ⟨⟨h7, -, -⟩, -⟩ := hd
        dsimp only at h7
        (try simp only [h7])
        exact ⟨rfl, zS⟩
      · exact zC
      · rfl
      dsimp only [nA, cA]
      apply RGW.on (i := 9) rfl
      · exact zG
      · intro γ u W hcur hd
        clear hd
        (try dsimp only)
        exact ⟨rfl, zS⟩
      · exact zC
      · rfl
      dsimp only [nA, cA]
      apply RGW.call (i := 10) rfl
      · exact zG
      · intro γ u W hcur hd
        obtain ⟨⟨h8, -, -⟩, ⟨h9, -, -⟩, -⟩ := hd
        dsimp only at h8 h9
        (try simp only [h8, h9])
        refine ⟨rfl, fun K hK => ?_⟩
        go_simp
        (go_at_call 75; (first | (with_reducible refine (hcp.out _).mono ?_) | (with_reducible refine (c_within _ _ _ _).mono ?_)); rintro e w3 ⟨rfl, rfl⟩)
        (try dsimp only)
        exact hK.out _ _ rfl (by (exact zE))
      · exact zC
      · rfl
      dsimp only [nA, cA]
      apply RGW.on (i := 11) rfl
      · exact zG
      · intro γ u W hcur hd
        obtain ⟨⟨h10, -, -⟩, -⟩ := hd
        dsimp only at h10
        (try simp only [h10])
        exact ⟨rfl, zS⟩
      · exact zC
      · rfl
      dsimp only [nA, cA]
      first
      | apply RGW.on (i := 12) rfl
        · exact zG
        · intro γ u W hcur hd
          obtain ⟨⟨h11, -, -⟩, -⟩ := hd
          dsimp only at h11
          (try simp only [h11])
          refine ⟨?_, ?_⟩
          · (simp [Region.wanted, yielded, undef, *]; done)
          exact zS
        · exact zC
        · rfl
      | apply RGW.off (i := 12) rfl
        · exact zG
        · intro γ u W hcur hd
          obtain ⟨⟨h11, -, -⟩, -⟩ := hd
          dsimp only at h11
          (try simp only [h11])
          simp [Region.wanted, yielded, undef, *]
        · rfl
      dsimp only [nA, cA]
      first
      | apply RGW.on (i := 13) rfl
        · exact zG
        · intro γ u W hcur hd
          obtain ⟨⟨h11, -, -⟩, ⟨h12, -, -⟩, -⟩ := hd
          dsimp only at h11 h12
          (try simp only [h11, h12])
          refine ⟨?_, ?_⟩
          · (simp [Region.wanted, yielded, undef, *]; done)
          exact zS
        · exact zC
        · rfl
      | apply RGW.off (i := 13) rfl
        · exact zG
        · intro γ u W hcur hd
          obtain ⟨⟨h11, -, -⟩, ⟨h12, -, -⟩, -⟩ := hd
          dsimp only at h11 h12
          (try simp only [h11, h12])
          simp [Region.wanted, yielded, undef, *]
        · rfl
      dsimp only [nA, cA]
      first
      | apply RGW.on (i := 14) rfl
        · exact zG
        · intro γ u W hcur hd
          obtain ⟨⟨h11, -, -⟩, ⟨h13, -, -⟩, -⟩ := hd
          dsimp only at h11 h13
          (try simp only [h11, h13])
          refine ⟨?_, ?_⟩
          · (simp [Region.wanted, yielded, undef, *]; done)
          exact zS
        · exact zC
        · rfl
      | apply RGW.off (i := 14) rfl
        · exact zG
        · intro γ u W hcur hd
          obtain ⟨⟨h11, -, -⟩, ⟨h13, -, -⟩, -⟩ := hd
          dsimp only at h11 h13
          (try simp only [h11, h13])
          simp [Region.wanted, yielded, undef, *]
        · rfl
      dsimp only [nA, cA]
      first
      | apply RGW.on (i := 15) rfl
        · exact zG
        · intro γ u W hcur hd
          obtain ⟨⟨h11, -, -⟩, -⟩ := hd
          dsimp only at h11
          (try simp only [h11])
          refine ⟨?_, ?_⟩
          · (simp [Region.wanted, yielded, undef, *]; done)
          exact zS
        · exact zC
        · rfl
      | apply RGW.off (i := 15) rfl
        · exact zG
        · intro γ u W hcur hd
          obtain ⟨⟨h11, -, -⟩, -⟩ := hd
          dsimp only at h11
          (try simp only [h11])
          simp [Region.wanted, yielded, undef, *]
        · rfl
      dsimp only [nA, cA]
      first
      | apply RGW.call (i := 16) rfl
        · exact zG
        · intro γ u W hcur hd
          obtain ⟨⟨h11, -, -⟩, ⟨h14, -, -⟩, ⟨h15, -, -⟩, -⟩ := hd
          dsimp only at h11 h14 h15
          (try simp only [h11, h14, h15])
          refine ⟨?_, fun K hK => ?_⟩
          · (simp [Region.wanted, yielded, undef, *]; done)
          go_simp
          (go_at_call 75; (first | (with_reducible refine (hcp.out _).mono ?_) | (with_reducible refine (c_within _ _ _ _).mono ?_)); rintro e w3 ⟨rfl, rfl⟩)
          (try dsimp only)
          exact hK.out _ _ rfl (by (exact zE))
        · exact zC
        · rfl
      | apply RGW.off (i := 16) rfl
        · exact zG
        · intro γ u W hcur hd
          obtain ⟨⟨h11, -, -⟩, ⟨h14, -, -⟩, ⟨h15, -, -⟩, -⟩ := hd
          dsimp only at h11 h14 h15
          (try simp only [h11, h14, h15])
          simp [Region.wanted, yielded, undef, *]
        · rfl
      dsimp only [nA, cA]
      apply RGW.on (i := 17) rfl
      · exact zG
      · intro γ u W hcur hd
        obtain ⟨⟨h11, -, -⟩, ⟨h16, -, -⟩, -⟩ := hd
        dsimp only at h11 h16
        (try simp only [h11, h16])
        exact ⟨rfl, zS⟩
      · exact zC
      · rfl
      dsimp only [nA, cA]
      apply RGW.call (i := 18) rfl
      · exact zG
      · intro γ u W hcur hd
        obtain ⟨⟨h17, -, -⟩, -⟩ := hd
        dsimp only at h17
        (try simp only [h17])
        refine ⟨rfl, fun K hK => ?_⟩
        go_simp
        (go_at_call 49; (with_reducible refine (c_unless _ _ _).mono ?_); rintro e w3 ⟨rfl, rfl⟩)
        (try dsimp only)
        exact hK.out _ _ rfl (by (exact zE))
      · exact zC
      · rfl
      dsimp only [nA, cA]
      apply RGW.on (i := 19) rfl
      · exact zG
      · intro γ u W hcur hd
        clear hd
        (try dsimp only)
        exact ⟨rfl, zS⟩
      · exact zC
      · rfl
      dsimp only [nA, cA]
      apply RGW.on (i := 20) rfl
      · exact zG
      · intro γ u W hcur hd
        obtain ⟨⟨h19, -, -⟩, -⟩ := hd
        dsimp only at h19
        (try simp only [h19])
        exact ⟨rfl, zS⟩
      · exact zC
      · rfl
      dsimp only [nA, cA]
      apply RGW.on (i := 21) rfl
      · exact zG
      · intro γ u W hcur hd
        obtain ⟨⟨h20, -, -⟩, -⟩ := hd
        dsimp only at h20
        (try simp only [h20])
        exact ⟨rfl, zS⟩
      · exact zC
      · rfl
      dsimp only [nA, cA]
      apply RGW.on (i := 22) rfl
      · exact zG
      · intro γ u W hcur hd
        clear hd
        (try dsimp only)
        exact ⟨rfl, zS⟩
      · exact zC
      · rfl
      dsimp only [nA, cA]
      apply RGW.on (i := 23) rfl
      · exact zG
      · intro γ u W hcur hd
        obtain ⟨⟨h22, -, -⟩, -⟩ := hd
        dsimp only at h22
        (try simp only [h22])
        exact ⟨rfl, zS⟩
      · exact zC
      · rfl
      dsimp only [nA, cA]
      apply RGW.on (i := 24) rfl
      · exact zG
      · intro γ u W hcur hd
        obtain ⟨⟨h23, -, -⟩, -⟩ := hd
        dsimp only at h23
        (try simp only [h23])
        exact ⟨rfl, zS⟩
      · exact zC
      · rfl
      dsimp only [nA, cA]
      apply RGW.on (i := 25) rfl
      · exact zG
      · intro γ u W hcur hd
        obtain ⟨⟨h21, -, -⟩, ⟨h24, -, -⟩, -⟩ := hd
        dsimp only at h21 h24
        (try simp only [h21, h24])
        exact ⟨rfl, zS⟩
      · exact zC
      · rfl
      dsimp only [nA, cA]
      apply RGW.call (i := 26) rfl
      · exact zG
      · intro γ u W hcur hd
        obtain ⟨⟨h25, -, -⟩, -⟩ := hd
        dsimp only at h25
        (try simp only [h25])
        refine ⟨rfl, fun K hK => ?_⟩
        go_simp
        (go_at_call 49; (with_reducible refine (c_unless _ _ _).mono ?_); rintro e w3 ⟨rfl, rfl⟩)
        (try dsimp only)
        exact hK.out _ _ rfl (by (exact zE))
      · exact zC
      · rfl
      dsimp only [nA, cA]
      apply RGW.bslice (i := 27) rfl
      · exact zG
      · intro γ u W hcur hd
        obtain ⟨⟨h3, -, -⟩, ⟨h5, -, -⟩, ⟨h18, -, -⟩, ⟨h26, -, -⟩, -⟩ := hd
        dsimp only at h3 h5 h18 h26
        (try simp only [h3, h5, h18, h26])
        refine ⟨rfl, fun K hK => ?_⟩
        go_simp
        exact hK.out _ _ rfl rfl
      · exact zC
      · rfl
      · rfl
      dsimp only [nA, cA]
      apply RGW.call (i := 28) rfl
      · exact zG
      · intro γ u W hcur hd
        obtain ⟨⟨h27, r27, -⟩, -⟩ := hd
        dsimp only at h27 r27
        have L27 := r27.cell
        (try simp only [h27])
        refine ⟨rfl, fun K hK => ?_⟩
        go_simp
        (go_at_call 48; (with_reducible refine (c_first4 (by assumption)).mono ?_); rintro e w3 ⟨rfl, rfl⟩)
        (try dsimp only)
        exact hK.out _ _ rfl (by (exact zE))
      · exact zC
      · rfl
      dsimp only [nA, cA]
      apply RGW.on (i := 29) rfl
      · exact zG
      · intro γ u W hcur hd
        obtain ⟨⟨h27, r27, -⟩, ⟨h28, -, -⟩, -⟩ := hd
        dsimp only at h27 h28 r27
        have L27 := r27.cell
        (try simp only [h27, h28])
        exact ⟨rfl, zS⟩
      · exact zC
      · rfl
      dsimp only [nA, cA]
      refine RGW.fin (fun γ u wc hwc hd hdis => ?_)
      obtain ⟨⟨h0, -, -⟩, ⟨h1, -, -⟩, ⟨h2, -, -⟩, ⟨h3, -, -⟩, ⟨h4, -, -⟩, ⟨h5, -, -⟩, ⟨h6, -, -⟩, ⟨h7, -, -⟩, ⟨h8, -, -⟩, ⟨h9, -, -⟩, ⟨h10, -, -⟩, ⟨h11, -, -⟩, ⟨h12, -, -⟩, ⟨h13, -, -⟩, ⟨h14, -, -⟩, ⟨h15, -, -⟩, ⟨h16, -, -⟩, ⟨h17, -, -⟩, ⟨h18, -, -⟩, ⟨h19, -, -⟩, ⟨h20, -, -⟩, ⟨h21, -, -⟩, ⟨h22, -, -⟩, ⟨h23, -, -⟩, ⟨h24, -, -⟩, ⟨h25, -, -⟩, ⟨h26, -, -⟩, ⟨h27, r27, b27⟩, ⟨h28, -, -⟩, ⟨h29, -, -⟩, -⟩ := hd
      dsimp only at h0 h1 h2 h3 h4 h5 h6 h7 h8 h9 h10 h11 h12 h13 h14 h15 h16 h17 h18 h19 h20 h21 h22 h23 h24 h25 h26 h27 h28 h29 r27 b27
      clear hdis
      simp only [h0, h1, h2, h3, h4, h5, h6, h7, h8, h9, h10, h11, h12, h13, h14, h15, h16, h17, h18, h19, h20, h21, h22, h23, h24, h25, h26, h27, h28, h29]
      clear h29 h28 h27 h26 h25 h24 h23 h22 h21 h20 h19 h18 h17 h16 h15 h14 h13 h12 h11 h10 h9 h8 h7 h6 h5 h4 h3 h2 h1 h0
      replace b27 := b27 _ (List.mem_singleton.2 rfl)
      generalize hγ27 : (γ 27).n = g27 at *
      clear hγ27
      clear u
      simp only [List.map_nil]
      refine PlanW.done ?_
      have hb3 := bl_tt hwc
      have hb1 := hb3 _ hb0
      clear hcp
      go_wp2
      go_ret
      exact ⟨by rw [hr.out] <;> rfl, hb1⟩
  · simp only [rdErr.insR, if_neg h1] at hr
    obtain ⟨bA, hA⟩ : ∃ b, inR r.v.lo 0 30000 = b := ⟨_, rfl⟩
    have hcp := Lib.hid fun W : World => hA ▸ c_within r.v.lo 0 30000 W
    rw [hA] at hr
    replace hA := Lib.hid hA
    have h1' : (r.kind == 1) = false := by simp [h1]
    replace h1 := Lib.hid h1
    cases bA
    all_goals
      simp only [Bool.false_and, Bool.true_and] at hr
      go_enter Tryz.func122, Tryz.ntmps122
      have k0 := hk
      have hb0 := bl_refl w
      have Q0 := k0.lt
      go_upto_region 1 with fail
      apply absB2 (w0 := w) (g0 := g) (g1 := w.heap.size)
      iterate 3 (focus exact zL)
      try clear hb3
      try clear hb0
      try clear k0
      try clear k1
      intro wa hb0 k0 k1
      (try simp only [List.setIfInBounds_toArray, List.set_cons_zero, List.set_cons_succ] at k0 k1)
      have Lk0 := k0.later
      have Fk0 := k0.laterF
      have Qk0 := k0.lt
      have Lk1 := k1.later
      have Fk1 := k1.laterF
      have Qk1 := k1.lt
      go_upto_region 4 with (first | (go_at_call 75; (with_reducible refine (c_within _ _ _ _).mono ?_); rintro e w3 ⟨rfl, rfl⟩) | (go_at_call 123; (with_reducible refine (c_isBeacon wd A nb c r.idx _ hnb).mono ?_); rintro e w3 ⟨rfl, hb3⟩; replace hb3 := bl_tt hb3))
      apply absB2 (w0 := w) (g0 := g) (g1 := w.heap.size)
      iterate 3 (focus exact zL)
      try clear hb3
      try clear Lk0
      try clear Fk0
      try clear Qk0
      try clear Lk1
      try clear Fk1
      try clear Qk1
      try clear hb0
      try clear k0
      try clear k1
      intro wb hb0 k0 k1
      (try simp only [List.setIfInBounds_toArray, List.set_cons_zero, List.set_cons_succ] at k0 k1)
      have Lk0 := k0.later
      have Fk0 := k0.laterF
      have Qk0 := k0.lt
      have Lk1 := k1.later
      have Fk1 := k1.laterF
      have Qk1 := k1.lt
      refine wp_any (w0 := wb) ⟨[], [], [some 18, some 19, some 20, some 21, some 22, some 23, some 24, some 25, some 26, some 27, some 28, some 29, some 30, some 31, some 32, some 33, some 34, some 35, some 36, some 37, some 38, some 39, some 40, some 41, some 42, some 43, some 44, some 45, some 46, some 5], [[], [0], [0, 1], [0, 1, 2], [], [0, 1, 2, 3, 4], [], [6], [6, 7], [], [0, 1, 2, 3, 4, 5, 6, 7, 8, 9], [0, 1, 2, 3, 4, 5, 6, 7, 8, 9, 10], [0, 1, 2, 3, 4, 5, 6, 7, 8, 9, 10, 11], [0, 1, 2, 3, 4, 5, 6, 7, 8, 9, 10, 11, 12], [0, 1, 2, 3, 4, 5, 6, 7, 8, 9, 10, 11, 12, 13], [0, 1, 2, 3, 4, 5, 6, 7, 8, 9, 10, 11], [0, 1, 2, 3, 4, 5, 6, 7, 8, 9, 10, 11, 12, 13, 14, 15], [0, 1, 2, 3, 4, 5, 6, 7, 8, 9, 10, 11, 12, 13, 14, 15, 16], [0, 1, 2, 3, 4, 5, 6, 7, 8, 9, 10, 11, 12, 13, 14, 15, 16, 17], [], [19], [19, 20], [], [22], [22, 23], [19, 20, 21, 22, 23, 24], [0, 1, 2, 3, 4, 5, 6, 7, 8, 9, 10, 11, 12, 13, 14, 15, 16, 17, 18, 19, 20, 21, 22, 23, 24, 25], [0, 1, 2, 3, 4, 5, 6, 7, 8, 9, 10, 11, 12, 13, 14, 15, 16, 17, 18, 19, 20, 21, 22, 23, 24, 25, 26], [0, 1, 2, 3, 4, 5, 6, 7, 8, 9, 10, 11, 12, 13, 14, 15, 16, 17, 18, 19, 20, 21, 22, 23, 24, 25, 26, 27], [0, 1, 2, 3, 4, 5, 6, 7, 8, 9, 10, 11, 12, 13, 14, 15, 16, 17, 18, 19, 20, 21, 22, 23, 24, 25, 26, 27, 28]], [[], [0], [1], [2], [], [4], [], [6], [7], [], [8, 9], [10], [11], [11, 12], [11, 13], [11], [11, 14, 15], [11, 16], [17], [], [19], [20], [], [22], [23], [21, 24], [25], [3, 5, 18, 26], [27], [27, 28]]⟩ (fun _ => []) (by kernel_rfl) (by kernel_rfl) (by (exact zE)) (fun u => by simp only [putD, Act.put, List.setIfInBounds_toArray, List.set_cons_zero, List.set_cons_succ, Nat.zero_add, Nat.reduceAdd]; rfl) ?_
      apply RGW.on (i := 0) rfl
      · exact zG
      · intro γ u W hcur hd
        clear hd
        (try dsimp only)
        exact ⟨rfl, zS⟩
      · exact zC
      · rfl
      dsimp only [nA, cA]
      apply RGW.on (i := 1) rfl
      · exact zG
      · intro γ u W hcur hd
        obtain ⟨⟨h0, -, -⟩, -⟩ := hd
        dsimp only at h0
        (try simp only [h0])
        exact ⟨rfl, zS⟩
      · exact zC
      · rfl
      dsimp only [nA, cA]
      apply RGW.call (i := 2) rfl
      · exact zG
      · intro γ u W hcur hd
        obtain ⟨⟨h1, -, -⟩, -⟩ := hd
        dsimp only at h1
        (try simp only [h1])
        refine ⟨rfl, fun K hK => ?_⟩
        go_simp
        (go_at_call 75; (first | (with_reducible refine (hcp.out _).mono ?_) | (with_reducible refine (c_within _ _ _ _).mono ?_)); rintro e w3 ⟨rfl, rfl⟩)
        (try dsimp only)
        exact hK.out _ _ rfl (by (exact zE))
      · exact zC
      · rfl
      dsimp only [nA, cA]
      apply RGW.call (i := 3) rfl
      · exact zG
      · intro γ u W hcur hd
        obtain ⟨⟨h2, -, -⟩, -⟩ := hd
        dsimp only at h2
        (try simp only [h2])
        refine ⟨rfl, fun K hK => ?_⟩
        go_simp
        (go_at_call 49; (with_reducible refine (c_unless _ _ _).mono ?_); rintro e w3 ⟨rfl, rfl⟩)
        (try dsimp only)
        exact hK.out _ _ rfl (by (exact zE))
      · exact zC
      · rfl
      dsimp only [nA, cA]
      apply RGW.on (i := 4) rfl
      · exact zG
      · intro γ u W hcur hd
        clear hd
        (try dsimp only)
        exact ⟨rfl, zS⟩
      · exact zC
      · rfl
      dsimp only [nA, cA]
      apply RGW.call (i := 5) rfl
      · exact zG
      · intro γ u W hcur hd
        obtain ⟨⟨h4, -, -⟩, -⟩ := hd
        dsimp only at h4
        (try simp only [h4])
        refine ⟨rfl, fun K hK => ?_⟩
        go_simp
        (go_at_call 49; (with_reducible refine (c_unless _ _ _).mono ?_); rintro e w3 ⟨rfl, rfl⟩)
        (try dsimp only)
        exact hK.out _ _ rfl (by (exact zE))
      · exact zC
      · rfl
      dsimp only [nA, cA]
      apply RGW.on (i := 6) rfl
      · exact zG
      · intro γ u W hcur hd
        clear hd
        (try dsimp only)
        exact ⟨rfl, zS⟩
      · exact zC
      · rfl
      dsimp only [nA, cA]
      apply RGW.on (i := 7) rfl
      · exact zG
      · intro γ u W hcur hd
        obtain ⟨⟨h6, -, -⟩, -⟩ := hd
        dsimp only at h6
        (try simp only [h6])
        exact ⟨rfl, zS⟩
      · exact zC
      · rfl
      dsimp only [nA, cA]
      apply RGW.on (i := 8) rfl
      · exact zG
      · intro γ u W hcur hd
        obtain ⟨⟨h7, -, -⟩, -⟩ := hd
        dsimp only at h7
        (try simp only [h7])
        exact ⟨rfl, zS⟩
      · exact zC
      · rfl
      dsimp only [nA, cA]
      apply RGW.on (i := 9) rfl
      · exact zG
      · intro γ u W hcur hd
        clear hd
        (try dsimp only)
        exact ⟨rfl, zS⟩
      · exact zC
      · rfl
      dsimp only [nA, cA]
      apply RGW.call (i := 10) rfl
      · exact zG
      · intro γ u W hcur hd
        obtain ⟨⟨h8, -, -⟩, ⟨h9, -, -⟩, -⟩ := hd
        dsimp only at h8 h9
        (try simp only [h8, h9])
        refine ⟨rfl, fun K hK => ?_⟩
        go_simp
        (go_at_call 75; (first | (with_reducible refine (hcp.out _).mono ?_) | (with_reducible refine (c_within _ _ _ _).mono ?_)); rintro e w3 ⟨rfl, rfl⟩)
        (try dsimp only)
        exact hK.out _ _ rfl (by (exact zE))
      · exact zC
      · rfl
      dsimp only [nA, cA]
      apply RGW.on (i := 11) rfl
      · exact zG
      · intro γ u W hcur hd
        obtain ⟨⟨h10, -, -⟩, -⟩ := hd
        dsimp only at h10
        (try simp only [h10])
        exact ⟨rfl, zS⟩
      · exact zC
      · rfl
      dsimp only [nA, cA]
      first
      | apply RGW.on (i := 12) rfl
        · exact zG
        · intro γ u W hcur hd
          obtain ⟨⟨h11, -, -⟩, -⟩ := hd
          dsimp only at h11
          (try simp only [h11])
          refine ⟨?_, ?_⟩
          · (simp [Region.wanted, yielded, undef, *]; done)
          exact zS
        · exact zC
        · rfl
      | apply RGW.off (i := 12) rfl
        · exact zG
        · intro γ u W hcur hd
          obtain ⟨⟨h11, -, -⟩, -⟩ := hd
          dsimp only at h11
          (try simp only [h11])
          simp [Region.wanted, yielded, undef, *]
        · rfl
      dsimp only [nA, cA]
      first
      | apply RGW.on (i := 13) rfl
        · exact zG
        · intro γ u W hcur hd
          obtain ⟨⟨h11, -, -⟩, ⟨h12, -, -⟩, -⟩ := hd
          dsimp only at h11 h12
          (try simp only [h11, h12])
          refine ⟨?_, ?_⟩
          · (simp [Region.wanted, yielded, undef, *]; done)
          exact zS
        · exact zC
        · rfl
      | apply RGW.off (i := 13) rfl
        · exact zG
        · intro γ u W hcur hd
          obtain ⟨⟨h11, -, -⟩, ⟨h12, -, -⟩, -⟩ := hd
          dsimp only at h11 h12
          (try simp only [h11, h12])
          simp [Region.wanted, yielded, undef, *]
        · rfl
      dsimp only [nA, cA]
      first
      | apply RGW.on (i := 14) rfl
        · exact zG
        · intro γ u W hcur hd
          obtain ⟨⟨h11, -, -⟩, ⟨h13, -, -⟩, -⟩ := hd
          dsimp only at h11 h13
          (try simp only [h11, h13])
          refine ⟨?_, ?_⟩
          · (simp [Region.wanted, yielded, undef, *]; done)
          exact zS
        · exact zC
        · rfl
      | apply RGW.off (i := 14) rfl
        · exact zG
        · intro γ u W hcur hd
          obtain ⟨⟨h11, -, -⟩, ⟨h13, -, -⟩, -⟩ := hd
          dsimp only at h11 h13
          (try simp only [h11, h13])
          simp [Region.wanted, yielded, undef, *]
        · rfl
      dsimp only [nA, cA]
      first
      | apply RGW.on (i := 15) rfl
        · exact zG
        · intro γ u W hcur hd
          obtain ⟨⟨h11, -, -⟩, -⟩ := hd
          dsimp only at h11
          (try simp only [h11])
          refine ⟨?_, ?_⟩
          · (simp [Region.wanted, yielded, undef, *]; done)
          exact zS
        · exact zC
        · rfl
      | apply RGW.off (i := 15) rfl
        · exact zG
        · intro γ u W hcur hd
          obtain ⟨⟨h11, -, -⟩, -⟩ := hd
          dsimp only at h11
          (try simp only [h11])
          simp [Region.wanted, yielded, undef, *]
        · rfl
      dsimp only [nA, cA]
      first
      | apply RGW.call (i := 16) rfl
        · exact zG
        · intro γ u W hcur hd
          obtain ⟨⟨h11, -, -⟩, ⟨h14, -, -⟩, ⟨h15, -, -⟩, -⟩ := hd
          dsimp only at h11 h14 h15
          (try simp only [h11, h14, h15])
          refine ⟨?_, fun K hK => ?_⟩
          · (simp [Region.wanted, yielded, undef, *]; done)
          go_simp
          (go_at_call 75; (first | (with_reducible refine (hcp.out _).mono ?_) | (with_reducible refine (c_within _ _ _ _).mono ?_)); rintro e w3 ⟨rfl, rfl⟩)
          (try dsimp only)
          exact hK.out _ _ rfl (by (exact zE))
        · exact zC
        · rfl
      | apply RGW.off (i := 16) rfl
        · exact zG
        · intro γ u W hcur hd
          obtain ⟨⟨h11, -, -⟩, ⟨h14, -, -⟩, ⟨h15, -, -⟩, -⟩ := hd
          dsimp only at h11 h14 h15
          (try simp only [h11, h14, h15])
          simp [Region.wanted, yielded, undef, *]
        · rfl
      dsimp only [nA, cA]
      apply RGW.on (i := 17) rfl
      · exact zG
      · intro γ u W hcur hd
        obtain ⟨⟨h11, -, -⟩, ⟨h16, -, -⟩, -⟩ := hd
        dsimp only at h11 h16
        (try simp only [h11, h16])
        exact ⟨rfl, zS⟩
      · exact zC
      · rfl
      dsimp only [nA, cA]
      apply RGW.call (i := 18) rfl
      · exact zG
      · intro γ u W hcur hd
        obtain ⟨⟨h17, -, -⟩, -⟩ := hd
        dsimp only at h17
        (try simp only [h17])
        refine ⟨rfl, fun K hK => ?_⟩
        go_simp
        (go_at_call 49; (with_reducible refine (c_unless _ _ _).mono ?_); rintro e w3 ⟨rfl, rfl⟩)
        (try dsimp only)
        exact hK.out _ _ rfl (by (exact zE))
      · exact zC
      · rfl
      dsimp only [nA, cA]
      apply RGW.on (i := 19) rfl
      · exact zG
      · intro γ u W hcur hd
        clear hd
        (try dsimp only)
        exact ⟨rfl, zS⟩
      · exact zC
      · rfl
      dsimp only [nA, cA]
      apply RGW.on (i := 20) rfl
      · exact zG
      · intro γ u W hcur hd
        obtain ⟨⟨h19, -, -⟩, -⟩ := hd
        dsimp only at h19
        (try simp only [h19])
        exact ⟨rfl, zS⟩
      · exact zC
      · rfl
      dsimp only [nA, cA]
      apply RGW.on (i := 21) rfl
      · exact zG
      · intro γ u W hcur hd
        obtain ⟨⟨h20, -, -⟩, -⟩ := hd
        dsimp only at h20
        (try simp only [h20])
        exact ⟨rfl, zS⟩
      · exact zC
      · rfl
      dsimp only [nA, cA]
      apply RGW.on (i := 22) rfl
      · exact zG
      · intro γ u W hcur hd
        clear hd
        (try dsimp only)
        exact ⟨rfl, zS⟩
      · exact zC
      · rfl
      dsimp only [nA, cA]
      apply RGW.on (i := 23) rfl
      · exact zG
      · intro γ u W hcur hd
        obtain ⟨⟨h22, -, -⟩, -⟩ := hd
        dsimp only at h22
        (try simp only [h22])
        exact ⟨rfl, zS⟩
      · exact zC
      · rfl
      dsimp only [nA, cA]
      apply RGW.on (i := 24) rfl
      · exact zG
      · intro γ u W hcur hd
        obtain ⟨⟨h23, -, -⟩, -⟩ := hd
        dsimp only at h23
        (try simp only [h23])
        exact ⟨rfl, zS⟩
      · exact zC
      · rfl
      dsimp only [nA, cA]
      apply RGW.on (i := 25) rfl
      · exact zG
      · intro γ u W hcur hd
        obtain ⟨⟨h21, -, -⟩, ⟨h24, -, -⟩, -⟩ := hd
        dsimp only at h21 h24
        (try simp only [h21, h24])
        exact ⟨rfl, zS⟩
      · exact zC
      · rfl
      dsimp only [nA, cA]
      apply RGW.call (i := 26) rfl
      · exact zG
      · intro γ u W hcur hd
        obtain ⟨⟨h25, -, -⟩, -⟩ := hd
        dsimp only at h25
        (try simp only [h25])
        refine ⟨rfl, fun K hK => ?_⟩
        go_simp
        (go_at_call 49; (with_reducible refine (c_unless _ _ _).mono ?_); rintro e w3 ⟨rfl, rfl⟩)
        (try dsimp only)
        exact hK.out _ _ rfl (by (exact zE))
      · exact zC
      · rfl
      dsimp only [nA, cA]
      apply RGW.bslice (i := 27) rfl
      · exact zG
      · intro γ u W hcur hd
        obtain ⟨⟨h3, -, -⟩, ⟨h5, -, -⟩, ⟨h18, -, -⟩, ⟨h26, -, -⟩, -⟩ := hd
        dsimp only at h3 h5 h18 h26
        (try simp only [h3, h5, h18, h26])
        refine ⟨rfl, fun K hK => ?_⟩
        go_simp
        exact hK.out _ _ rfl rfl
      · exact zC
      · rfl
      · rfl
      dsimp only [nA, cA]
      apply RGW.call (i := 28) rfl
      · exact zG
      · intro γ u W hcur hd
        obtain ⟨⟨h27, r27, -⟩, -⟩ := hd
        dsimp only at h27 r27
        have L27 := r27.cell
        (try simp only [h27])
        refine ⟨rfl, fun K hK => ?_⟩
        go_simp
        (go_at_call 48; (with_reducible refine (c_first4 (by assumption)).mono ?_); rintro e w3 ⟨rfl, rfl⟩)
        (try dsimp only)
        exact hK.out _ _ rfl (by (exact zE))
      · exact zC
      · rfl
      dsimp only [nA, cA]
      apply RGW.on (i := 29) rfl
      · exact zG
      · intro γ u W hcur hd
        obtain ⟨⟨h27, r27, -⟩, ⟨h28, -, -⟩, -⟩ := hd
        dsimp only at h27 h28 r27
        have L27 := r27.cell
        (try simp only [h27, h28])
        exact ⟨rfl, zS⟩
      · exact zC
      · rfl
      dsimp only [nA, cA]
      refine RGW.fin (fun γ u wc hwc hd hdis => ?_)
      obtain ⟨⟨h0, -, -⟩, ⟨h1, -, -⟩, ⟨h2, -, -⟩, ⟨h3, -, -⟩, ⟨h4, -, -⟩, ⟨h5, -, -⟩, ⟨h6, -, -⟩, ⟨h7, -, -⟩, ⟨h8, -, -⟩, ⟨h9, -, -⟩, ⟨h10, -, -⟩, ⟨h11, -, -⟩, ⟨h12, -, -⟩, ⟨h13, -, -⟩, ⟨h14, -, -⟩, ⟨h15, -, -⟩, ⟨h16, -, -⟩, ⟨h17, -, -⟩, ⟨h18, -, -⟩, ⟨h19, -, -⟩, ⟨h20, -, -⟩, ⟨h21, -, -⟩, ⟨h22, -, -⟩, ⟨h23, -, -⟩, ⟨h24, -, -⟩, ⟨h25, -, -⟩, ⟨h26, -, -⟩, ⟨h27, r27, b27⟩, ⟨h28, -, -⟩, ⟨h29, -, -⟩, -⟩ := hd
      dsimp only at h0 h1 h2 h3 h4 h5 h6 h7 h8 h9 h10 h11 h12 h13 h14 h15 h16 h17 h18 h19 h20 h21 h22 h23 h24 h25 h26 h27 h28 h29 r27 b27
      clear hdis
      simp only [h0, h1, h2, h3, h4, h5, h6, h7, h8, h9, h10, h11, h12, h13, h14, h15, h16, h17, h18, h19, h20, h21, h22, h23, h24, h25, h26, h27, h28, h29]
      clear h29 h28 h27 h26 h25 h24 h23 h22 h21 h20 h19 h18 h17 h16 h15 h14 h13 h12 h11 h10 h9 h8 h7 h6 h5 h4 h3 h2 h1 h0
      replace b27 := b27 _ (List.mem_singleton.2 rfl)
      generalize hγ27 : (γ 27).n = g27 at *
      clear hγ27
      clear u
      simp only [List.map_nil]
      refine PlanW.done ?_
      have hb3 := bl_tt hwc
      have hb1 := hb3 _ hb0
      clear hcp
      go_wp2
      go_ret
      exact ⟨by rw [hr.out] <;> rfl, hb1⟩
/-- A reading list's errors. -/
def readsE (n : Nt) (l : List Rd) : Int := fstE [netErr n, unl (decide ((l.length : Int) ≤ 8)) 8]
def readsChk (n : Nt) (l : List Rd) : Int × Int := if readsE n l = 0 then eachS (fun _ r => rdErr n.bs.length r) l 0 else (0, readsE n l)
def readsErr (n : Nt) (l : List Rd) : Int := (readsChk n l).2
set_option maxHeartbeats 4000000 in
theorem c_CheckReadings (n : Nt) (l : List Rd) (A A' : Option Addr) (c c' : Nat) (w : World) (hn : NtIn n A c w) (hl : Sl cRd 4 w A' l) (hll : l.length ≤ 1000) (hlb : n.bs.length ≤ 1000) :
    Calls Tryz.prog 103 #[vNt n.world (.slice A n.bs.length c), .slice A' l.length c'] w (Ret (.tuple #[.int .i64 (readsChk n l).1, .int .i64 (readsChk n l).2]) w) := by
  have hco := Lib.hid fun (W : World) (hb : Below w.heap.size w W) => c_open n A c W (hn.below hb)
  have hme : Hid (readsE n l = fstE [netErr n, unl (decide ((l.length : Int) ≤ 8)) 8]) := rfl
  have hs1 : Hid (readsE n l = 0 → readsChk n l = eachS (fun _ r => rdErr n.bs.length r) l 0) := fun h => by simp [readsChk, h]
  have hs3 : Hid (readsE n l ≠ 0 → readsChk n l = (0, readsE n l)) := fun h => by simp [readsChk, h]
  have hev := Lib.hid fun (W : World) (hb : Below w.heap.size w W) (g : Nat) (t : TypeId) (hk : Blk W g t (aON n.world (.slice A n.bs.length c))) =>
    c_eachR 122 #[.pointer (some ⟨g, 0, none⟩)] (fun _ r => rdErr n.bs.length r) A' l c' W (by omega) (enters_of Tryz.func122 (by kernel_rfl) rfl)
      (fun k x _ W' hb' => c_rdErr n.world A n.bs.length c x k g t W' hlb (hk.below hb')) (hl.below hb)
  clear hn hl
  generalize n.bs.length = nl at *
  generalize l.length = ll at *
  go_enter Tryz.func103, Tryz.ntmps103
  go_wp2_with fail
  refine Calls.mono (hco.out _ ?_) ?_
  · solve_by_elim (maxDepth := 60) only [bl_al, bl_drew, bl_drewN, bl_refl, *]
  rintro e w3 ⟨rfl, hb3⟩
  replace hb3 := bl_tt hb3
  apply absX1 (w0 := w) (w := w3) (g0 := w.heap.size)
  iterate 2 (focus exact zL)
  try clear hb3
  try clear hb0
  try clear k0
  intro wa hb0 k0
  (try simp only [List.setIfInBounds_toArray, List.set_cons_zero, List.set_cons_succ] at k0)
  have Lk0 := k0.later
  have Fk0 := k0.laterF
  have Qk0 := k0.lt
  go_upto_region 2 with fail
  apply absB2 (w0 := w) (g0 := w.heap.size) (g1 := wa.heap.size)
  iterate 3 (focus exact zL)
  try clear hb3
  try clear Lk0
  try clear Fk0
  try clear Qk0
  try clear hb0
  try clear k0
  try clear k4
  intro wb hb0 k0 k4
  (try simp only [List.setIfInBounds_toArray, List.set_cons_zero, List.set_cons_succ] at k0 k4)
  have Lk0 := k0.later
  have Fk0 := k0.laterF
  have Qk0 := k0.lt
  have Lk4 := k4.later
  have Fk4 := k4.laterF
  have Qk4 := k4.lt
  go_upto_region 3 with (first | (go_at_call 49; (with_reducible refine (c_unless _ _ _).mono ?_); rintro e w3 ⟨rfl, rfl⟩) | (go_at_call 48; (with_reducible refine (c_first2 (Blk.new _ _ _)).mono ?_); rintro e w3 ⟨rfl, rfl⟩))
  apply absB2 (w0 := w) (g0 := w.heap.size) (g1 := wa.heap.size)
  iterate 3 (focus exact zL)
  try clear hb3
  try clear Lk0
  try clear Fk0
  try clear Qk0
  try clear Lk4
  try clear Fk4
  try clear Qk4
  try clear hb0
  try clear k0
  try clear k4
  intro wc hb0 k0 k4
  (try simp only [List.setIfInBounds_toArray, List.set_cons_zero, List.set_cons_succ] at k0 k4)
  have Lk0 := k0.later
  have Fk0 := k0.laterF
  have Qk0 := k0.lt
  have Lk4 := k4.later
  have Fk4 := k4.laterF
  have Qk4 := k4.lt
  rw [← hme.out]
  by_cases h0 : readsE n l = 0
  · have h0' : (readsE n l != 0) = false := by simp [h0]
    replace h0 := Lib.hid h0
    go_wp2_with fail
    refine Calls.mono (hev.out _ hb0 _ _ k4) ?_
    rintro e w3 ⟨rfl, hb3⟩
    replace hb3 := bl_tt hb3
    have hb1 := hb3 _ hb0
    go_wp2
    go_ret2
    exact ⟨by rw [hs1.out h0.out] <;> rfl, hb1⟩
  · have h0' : (readsE n l != 0) = true := by simp [h0]
    replace h0 := Lib.hid h0
    go_wp2
    go_ret2
    exact ⟨by rw [hs3.out h0.out] <;> rfl, hb0⟩
set_option maxHeartbeats 4000000 in
theorem c_readingsErr (n : Nt) (l : List Rd) (A A' : Option Addr) (c c' : Nat) (w : World) (hn : NtIn n A c w) (hl : Sl cRd 4 w A' l) (hll : l.length ≤ 1000) (hlb : n.bs.length ≤ 1000) :
    Calls Tryz.prog 85 #[vNt n.world (.slice A n.bs.length c), .slice A' l.length c'] w (Ret (.int .i64 (readsErr n l)) w) := by
  have hcr := Lib.hid fun (W : World) (hb : Below w.heap.size w W) => c_CheckReadings n l A A' c c' W (hn.below hb) (hl.below hb) hll hlb
  clear hn hl
  unfold readsErr
  generalize n.bs.length = nl at *
  generalize l.length = ll at *
  go_enter Tryz.func85, Tryz.ntmps85
  go_wp2_with fail
  refine Calls.mono (hcr.out _ ?_) ?_
  · solve_by_elim (maxDepth := 60) only [bl_al, bl_drew, bl_drewN, bl_refl, *]
  rintro e w3 ⟨rfl, hb3⟩
  replace hb3 := bl_tt hb3
  have hb1 := hb3 w (by (exact zE))
  go_wp2
  go_ret
  exact ⟨rfl, hb1⟩
end Go.Proofs.YtephimmamkafoaaGreat
namespace Go.Proofs.YtephimmamkafoaaGreat
open Go.RowKit Go.Shelf
attribute [local go_sem] bl_al bl_drew bl_drewN bl_refl bx_al bx_drew bx_drewN bx_refl index_b0 index_b1 index_b2 index_p0 index_p1 index_p2
set_option maxRecDepth 20000
def Bx.side (a : Bx) (i : Int) : Rg := if i = 0 then a.x else if i = 1 then a.y else a.z
def bcAt (bs : List Bc) (i : Int) : Pl := ((bs[i.toNat]?).map (·.pl)).getD ⟨0, 0, 0⟩
def measS (bs : List Bc) (a : Bx) (r : Rd) : Rg × Rg := if r.kind = 1 then (a.side r.idx, r.v) else (squaresS a (bcAt bs r.idx), ⟨r.v.lo * r.v.lo, r.v.hi * r.v.hi⟩)
/-- A reading that is valid. -/
structure Rd.ok (bs : List Bc) (r : Rd) : Prop where
  v : r.v.in 30000
  axis : r.kind = 1 → r.idx = 0 ∨ r.idx = 1 ∨ r.idx = 2
  bc : r.kind ≠ 1 → ∃ (k : Nat) (x : Bc), r.idx = (k : Int) ∧ bs[k]? = some x ∧ x.pl.in 10000
theorem sq_bd3 {x : Int} (h1 : -30000 ≤ x) (h2 : x ≤ 30000) : 0 ≤ x * x ∧ x * x ≤ 900000000 := by
  refine ⟨by by_cases h : 0 ≤ x; exact Int.mul_nonneg h h; exact Int.mul_nonneg_of_nonpos_of_nonpos (by omega) (by omega), ?_⟩
  by_cases h : 0 ≤ x
  · exact (mul_bd h h2 h h2).2
  · have := (mul_bd (a := -x) (b := -x) (m := 30000) (n := 30000) (by omega) (by omega) (by omega) (by omega)).2
    rw [Int.neg_mul_neg] at this
    exact this
set_option maxHeartbeats 4000000 in
theorem c_meas1 (wd a : Bx) (s : Value) (r : Rd) (w : World) (h1 : r.kind = 1) (hi : r.idx = 0 ∨ r.idx = 1 ∨ r.idx = 2) :
    Calls Tryz.prog 91 #[vON wd s, vBx a, vRd r] w (Ret (.tuple #[vRg (a.side r.idx), vRg r.v]) w) := by
  have h1' : (r.kind == 1) = true := by simp [h1]
  replace h1 := Lib.hid h1
  rcases hi with hi | hi | hi
  all_goals
    go_enter Tryz.func91, Tryz.ntmps91
    go_wp2
    apply absB5 (w0 := w) (g0 := w.heap.size) (g1 := w.heap.size + 1) (g2 := w.heap.size + 2) (g3 := w.heap.size + 3) (g4 := w.heap.size + 4)
    iterate 6 (focus exact zL)
    try clear hb3
    try clear hb0
    try clear k0
    try clear k1
    try clear k2
    try clear k3
    try clear k4
    intro wa hb0 k0 k1 k2 k3 k4
    (try simp only [List.setIfInBounds_toArray, List.set_cons_zero, List.set_cons_succ] at k0 k1 k2 k3 k4)
    have Lk0 := k0.later
    have Fk0 := k0.laterF
    have Qk0 := k0.lt
    have Lk1 := k1.later
    have Fk1 := k1.laterF
    have Qk1 := k1.lt
    have Lk2 := k2.later
    have Fk2 := k2.laterF
    have Qk2 := k2.lt
    have Lk3 := k3.later
    have Fk3 := k3.laterF
    have Qk3 := k3.lt
    have Lk4 := k4.later
    have Fk4 := k4.laterF
    have Qk4 := k4.lt
    refine wp_any (w0 := wa) ⟨[6, 7], [4, 5], [some 12, some 13, some 14, some 15, some 16, some 17, none, none], [[], [0], [0, 1], [0, 1, 2], [], [4], [0, 1, 2, 3], [0, 1, 2, 3, 4, 5, 6]], [[], [0], [1], [2], [], [4], [], []]⟩ (fun _ => [w.heap.size + 3, w.heap.size + 4]) (by kernel_rfl) (by kernel_rfl) (by (exact zE)) (fun u => by simp only [putD, Act.put, List.setIfInBounds_toArray, List.set_cons_zero, List.set_cons_succ, Nat.zero_add, Nat.reduceAdd]; rfl) ?_
    apply RGW.on (i := 0) rfl
    · exact zG
    · intro γ u W hcur hd
      clear hd
      (try dsimp only)
      exact ⟨rfl, zS⟩
    · exact zC
    · rfl
    dsimp only [nA, cA]
    apply RGW.on (i := 1) rfl
    · exact zG
    · intro γ u W hcur hd
      obtain ⟨⟨h0, -, -⟩, -⟩ := hd
      dsimp only at h0
      (try simp only [h0])
      exact ⟨rfl, zS⟩
    · exact zC
    · rfl
    dsimp only [nA, cA]
    apply RGW.on (i := 2) rfl
    · exact zG
    · intro γ u W hcur hd
      obtain ⟨⟨h1, -, -⟩, -⟩ := hd
      dsimp only at h1
      (try simp only [h1])
      exact ⟨rfl, zS⟩
    · exact zC
    · rfl
    dsimp only [nA, cA]
    apply RGW.on (i := 3) rfl
    · exact zG
    · intro γ u W hcur hd
      obtain ⟨⟨h2, -, -⟩, -⟩ := hd
      dsimp only at h2
      (try simp only [h2])
      exact ⟨rfl, zS⟩
    · exact zC
    · rfl
    dsimp only [nA, cA]
    apply RGW.onL (i := 4) rfl
    · exact zG
    · intro γ u Wm W hcur hd hX
      clear hd
      (try dsimp only)
      exact ⟨rfl, zS⟩
    · exact zC
    dsimp only [nA, cA]
    apply RGW.onL (i := 5) rfl
    · exact zG
    · intro γ u Wm W hcur hd hX
      obtain ⟨⟨h4, -, -⟩, -⟩ := hd
      dsimp only at h4
      (try simp only [h4])
      have Mk0 := (Blk.below k0 hcur).laterN _ _ hX
      have Mk1 := (Blk.below k1 hcur).laterN _ _ hX
      have Mk2 := (Blk.below k2 hcur).laterN _ _ hX
      have Mk3 := (Blk.below k3 hcur).laterN _ _ hX
      have Mk4 := (Blk.below k4 hcur).laterN _ _ hX
      exact ⟨rfl, zS⟩
    · exact zC
    dsimp only [nA, cA]
    refine RGW.skip (i := 6) rfl rfl ?_
    dsimp only [nA, cA]
    refine RGW.skip (i := 7) rfl rfl ?_
    dsimp only [nA, cA]
    refine RGW.fin (fun γ u wb hwb hd hdis => ?_)
    obtain ⟨⟨h0, -, -⟩, ⟨h1, -, -⟩, ⟨h2, -, -⟩, ⟨h3, -, -⟩, ⟨h4, -, -⟩, ⟨h5, -, -⟩, -⟩ := hd
    dsimp only at h0 h1 h2 h3 h4 h5
    clear hdis
    simp only [h0, h1, h2, h3, h4, h5]
    clear h5 h4 h3 h2 h1 h0
    clear u
    simp only [List.map_cons, List.map_nil]
    apply PlanW.step
    · exact zG
    · rfl
    intro K hK
    refine wp_store_keep (X := [w.heap.size + 3, w.heap.size + 4]) (w0 := wb) rfl rfl rfl (by with_reducible first | exact bx_refl _ _ | assumption) (by with_reducible first | assumption | (apply Blk.below (hb := hwb); assumption)) (by simp) (by kernel_rfl) (by rfl) (by simp [Value.oneCell']) (fun hres1 hcur => ?_)
    refine hK.out _ _ hcur (fun _ => ?_)
    clear hK K
    try simp only [Act.put, List.setIfInBounds_toArray, List.set_cons_zero, List.set_cons_succ]
    apply PlanW.step
    · exact zG
    · rfl
    intro K hK
    refine wp_store_keep (X := [w.heap.size + 3, w.heap.size + 4]) (w0 := wb) rfl rfl rfl (by with_reducible first | exact bx_refl _ _ | assumption) (by with_reducible first | assumption | (apply Blk.below (hb := hwb); assumption)) (by simp) (by kernel_rfl) (by rfl) (by simp [Value.oneCell']) (fun hres2 hcur => ?_)
    refine hK.out _ _ hcur (fun _ => ?_)
    clear hK K
    try simp only [Act.put, List.setIfInBounds_toArray, List.set_cons_zero, List.set_cons_succ]
    refine PlanW.done ?_
    have hb3 := bl_tt hwb
    go_wp2
    apply absPB5 (w0 := w) (g0 := w.heap.size) (g1 := w.heap.size + 1) (g2 := w.heap.size + 2) (g3 := w.heap.size + 3) (g4 := w.heap.size + 4)
    iterate 6 (focus exact zL)
    try clear hb3
    try clear Lk0
    try clear Fk0
    try clear Qk0
    try clear Lk1
    try clear Fk1
    try clear Qk1
    try clear Lk2
    try clear Fk2
    try clear Qk2
    try clear Lk3
    try clear Fk3
    try clear Qk3
    try clear Lk4
    try clear Fk4
    try clear Qk4
    try clear hb0
    try clear k0
    try clear k1
    try clear k2
    try clear k3
    try clear k4
    intro wf hb0 k0 k1 k2 k3 k4
    (try simp only [List.setIfInBounds_toArray, List.set_cons_zero, List.set_cons_succ] at k0 k1 k2 k3 k4)
    have hr1 := k3.cell
    have hr2 := k4.cell
    refine bodyPost_ret (v := .tuple #[vRg (a.side r.idx), vRg r.v]) (by simp [results, Tryz.results91, go_sem, hr1, hr2, hi, Bx.side]) rfl ⟨by first | rfl | simp only [hi], hb0⟩
set_option maxHeartbeats 4000000 in
theorem c_meas0 (wd a : Bx) (bs : List Bc) (A : Option Addr) (c : Nat) (r : Rd) (w : World) (h1 : r.kind ≠ 1) (hs : Sl cBc 4 w A bs) (hlb : bs.length ≤ 1000) (ha : a.in 10000) (hv : r.v.in 30000)
    (k : Nat) (x : Bc) (hk : r.idx = (k : Int)) (hx : bs[k]? = some x) (hp : x.pl.in 10000) :
    Calls Tryz.prog 91 #[vON wd (.slice A bs.length c), vBx a, vRd r] w (Ret (.tuple #[vRg (squaresS a x.pl), .agg #[.int .i64 (r.v.lo * r.v.lo), .int .i64 (r.v.hi * r.v.hi)]]) w) := by
  have h1' : (r.kind == 1) = false := by simp [h1]
  replace h1 := Lib.hid h1
  obtain ⟨v1, v2, v3, v4⟩ := hv
  obtain ⟨s1, s2⟩ := sq_bd3 v1 v2
  obtain ⟨s3, s4⟩ := sq_bd3 v3 v4
  have hkl : k < bs.length := (List.getElem?_eq_some_iff.1 hx).1
  obtain ⟨b, off, rfl, hc⟩ := hs k x hx
  have c1 := later (hc 1 _ rfl)
  have c2 := later (hc 2 _ rfl)
  have c3 := later (hc 3 _ rfl)
  clear hc hs hx
  have hsq := Lib.hid fun W : World => c_squares a x.pl W ha hp
  clear ha hp
  generalize bs.length = nl at *
  go_enter Tryz.func91, Tryz.ntmps91
  go_upto_region 3 with fail
  apply absB5 (w0 := w) (g0 := w.heap.size) (g1 := w.heap.size + 1) (g2 := w.heap.size + 2) (g3 := w.heap.size + 3) (g4 := w.heap.size + 4)
  iterate 6 (focus exact zL)
  try clear hb3
  try clear hb0
  try clear k0
  try clear k1
  try clear k2
  try clear k3
  try clear k4
  intro wz hb0 k0 k1 k2 k3 k4
  (try simp only [List.setIfInBounds_toArray, List.set_cons_zero, List.set_cons_succ] at k0 k1 k2 k3 k4)
  have Lk0 := k0.later
  have Fk0 := k0.laterF
  have Qk0 := k0.lt
  have Lk1 := k1.later
  have Fk1 := k1.laterF
  have Qk1 := k1.lt
  have Lk2 := k2.later
  have Fk2 := k2.laterF
  have Qk2 := k2.lt
  have Lk3 := k3.later
  have Fk3 := k3.laterF
  have Qk3 := k3.lt
  have Lk4 := k4.later
  have Fk4 := k4.laterF
  have Qk4 := k4.lt
  have e3 : wz.heap.size ≠ w.heap.size + 3 := by have := k4.lt; omega
  have e4 : wz.heap.size ≠ w.heap.size + 4 := by have := k4.lt; omega
  go_upto_region 4 with fail
  apply absB6 (w0 := w) (g0 := w.heap.size) (g1 := w.heap.size + 1) (g2 := w.heap.size + 2) (g3 := w.heap.size + 3) (g4 := w.heap.size + 4) (g5 := wz.heap.size)
  iterate 7 (focus exact zL)
  try clear hb3
  try clear Lk0
  try clear Fk0
  try clear Qk0
  try clear Lk1
  try clear Fk1
  try clear Qk1
  try clear Lk2
  try clear Fk2
  try clear Qk2
  try clear Lk3
  try clear Fk3
  try clear Qk3
  try clear Lk4
  try clear Fk4
  try clear Qk4
  try clear hb0
  try clear k0
  try clear k1
  try clear k2
  try clear k3
  try clear k4
  try clear k5
  intro wa hb0 k0 k1 k2 k3 k4 k5
  (try simp only [List.setIfInBounds_toArray, List.set_cons_zero, List.set_cons_succ] at k0 k1 k2 k3 k4 k5)
  have Lk0 := k0.later
  have Fk0 := k0.laterF
  have Qk0 := k0.lt
  have Lk1 := k1.later
  have Fk1 := k1.laterF
  have Qk1 := k1.lt
  have Lk2 := k2.later
  have Fk2 := k2.laterF
  have Qk2 := k2.lt
  have Lk3 := k3.later
  have Fk3 := k3.laterF
  have Qk3 := k3.lt
  have Lk4 := k4.later
  have Fk4 := k4.laterF
  have Qk4 := k4.lt
  have Lk5 := k5.later
  have Fk5 := k5.laterF
  have Qk5 := k5.lt
  have C1 := fun W (h : Below wa.heap.size wa W) => c1 W (bl_tr hb0 h)
  have C2 := fun W (h : Below wa.heap.size wa W) => c2 W (bl_tr hb0 h)
  have C3 := fun W (h : Below wa.heap.size wa W) => c3 W (bl_tr hb0 h)
  clear c1 c2 c3
  refine wp_any (w0 := wa) ⟨[22, 23], [11, 12, 13, 14, 15, 16, 17, 18, 19, 20, 21], [some 20, some 21, some 22, some 23, some 24, some 25, some 26, some 27, some 28, some 29, some 30, some 31, some 32, some 33, some 34, some 35, some 36, some 37, some 38, some 39, some 40, some 41, none, none], [[], [], [1], [1, 2], [], [4], [1, 2, 3, 4, 5], [1, 2, 3, 4, 5, 6], [1, 2, 3, 4, 5, 6, 7], [1, 2, 3, 4, 5, 6, 7, 8], [0, 1, 2, 3, 4, 5, 6, 7, 8, 9], [], [11], [], [13], [11, 12, 13, 14], [], [16], [], [18], [16, 17, 18, 19], [11, 12, 13, 14, 15, 16, 17, 18, 19, 20], [0, 1, 2, 3, 4, 5, 6, 7, 8, 9, 10], [0, 1, 2, 3, 4, 5, 6, 7, 8, 9, 10, 11, 12, 13, 14, 15, 16, 17, 18, 19, 20, 21, 22]], [[], [], [1], [2], [], [4], [3, 5], [6], [7], [8], [0, 9], [], [11], [], [13], [12, 14], [], [16], [], [18], [17, 19], [15, 20], [], []]⟩ (fun _ => [w.heap.size + 3, w.heap.size + 4]) (by kernel_rfl) (by kernel_rfl) (by (exact zE)) (fun u => by simp only [putD, Act.put, List.setIfInBounds_toArray, List.set_cons_zero, List.set_cons_succ, Nat.zero_add, Nat.reduceAdd]; rfl) ?_
  apply RGW.on (i := 0) rfl
  · exact zG
  · intro γ u W hcur hd
    clear hd
    (try dsimp only)
    exact ⟨rfl, zS⟩
  · exact zC
  · rfl
  dsimp only [nA, cA]
  apply RGW.on (i := 1) rfl
  · exact zG
  · intro γ u W hcur hd
    clear hd
    (try dsimp only)
    exact ⟨rfl, zS⟩
  · exact zC
  · rfl
  dsimp only [nA, cA]
  apply RGW.on (i := 2) rfl
  · exact zG
  · intro γ u W hcur hd
    obtain ⟨⟨h1, -, -⟩, -⟩ := hd
    dsimp only at h1
    (try simp only [h1])
    exact ⟨rfl, zS⟩
  · exact zC
  · rfl
  dsimp only [nA, cA]
  apply RGW.on (i := 3) rfl
  · exact zG
  · intro γ u W hcur hd
    obtain ⟨⟨h2, -, -⟩, -⟩ := hd
    dsimp only at h2
    (try simp only [h2])
    exact ⟨rfl, zS⟩
  · exact zC
  · rfl
  dsimp only [nA, cA]
  apply RGW.on (i := 4) rfl
  · exact zG
  · intro γ u W hcur hd
    clear hd
    (try dsimp only)
    exact ⟨rfl, zS⟩
  · exact zC
  · rfl
  dsimp only [nA, cA]
  apply RGW.on (i := 5) rfl
  · exact zG
  · intro γ u W hcur hd
    obtain ⟨⟨h4, -, -⟩, -⟩ := hd
    dsimp only at h4
    (try simp only [h4])
    exact ⟨rfl, zS⟩
  · exact zC
  · rfl
  dsimp only [nA, cA]
  apply RGW.on (i := 6) rfl
  · exact zG
  · intro γ u W hcur hd
    obtain ⟨⟨h3, -, -⟩, ⟨h5, -, -⟩, -⟩ := hd
    dsimp only at h3 h5
    (try simp only [h3, h5])
    exact ⟨rfl, zS⟩
  · exact zC
  · rfl
  dsimp only [nA, cA]
  apply RGW.on (i := 7) rfl
  · exact zG
  · intro γ u W hcur hd
    obtain ⟨⟨h6, -, -⟩, -⟩ := hd
    dsimp only at h6
    (try simp only [h6])
    exact ⟨rfl, zS⟩
  · exact zC
  · rfl
  dsimp only [nA, cA]
  apply RGW.on (i := 8) rfl
  · exact zG
  · intro γ u W hcur hd
    obtain ⟨⟨h7, -, -⟩, -⟩ := hd
    dsimp only at h7
    (try simp only [h7])
    exact ⟨rfl, zS⟩
  · exact zC
  · rfl
  dsimp only [nA, cA]
  apply RGW.call (i := 9) rfl
  · exact zG
  · intro γ u W hcur hd
    obtain ⟨⟨h8, -, -⟩, -⟩ := hd
    dsimp only at h8
    (try simp only [h8])
    refine ⟨rfl, fun K hK => ?_⟩
    go_simp
    (go_at_call 71; (with_reducible refine (c_at x.pl _).mono ?_); rintro e w3 ⟨rfl, hb3⟩; replace hb3 := bl_tt hb3)
    (try dsimp only)
    exact hK.out _ _ rfl (by (exact zE))
  · exact zC
  · rfl
  dsimp only [nA, cA]
  apply RGW.call (i := 10) rfl
  · exact zG
  · intro γ u W hcur hd
    obtain ⟨⟨h0, -, -⟩, ⟨h9, -, -⟩, -⟩ := hd
    dsimp only at h0 h9
    (try simp only [h0, h9])
    refine ⟨rfl, fun K hK => ?_⟩
    go_simp
    (go_at_call 107; (with_reducible refine (hsq.out _).mono ?_); rintro e w3 ⟨rfl, hb3⟩; replace hb3 := bl_tt hb3)
    (try dsimp only)
    exact hK.out _ _ rfl (by (exact zE))
  · exact zC
  · rfl
  dsimp only [nA, cA]
  apply RGW.onL (i := 11) rfl
  · exact zG
  · intro γ u Wm W hcur hd hX
    clear hd
    (try dsimp only)
    exact ⟨rfl, zS⟩
  · exact zC
  dsimp only [nA, cA]
  apply RGW.onL (i := 12) rfl
  · exact zG
  · intro γ u Wm W hcur hd hX
    obtain ⟨⟨h11, -, -⟩, -⟩ := hd
    dsimp only at h11
    (try simp only [h11])
    have Mk0 := (Blk.below k0 hcur).laterN _ _ hX
    have Mk1 := (Blk.below k1 hcur).laterN _ _ hX
    have Mk2 := (Blk.below k2 hcur).laterN _ _ hX
    have Mk3 := (Blk.below k3 hcur).laterN _ _ hX
    have Mk4 := (Blk.below k4 hcur).laterN _ _ hX
    have Mk5 := (Blk.below k5 hcur).laterN _ _ hX
    exact ⟨rfl, zS⟩
  · exact zC
  dsimp only [nA, cA]
  apply RGW.onL (i := 13) rfl
  · exact zG
  · intro γ u Wm W hcur hd hX
    clear hd
    (try dsimp only)
    exact ⟨rfl, zS⟩
  · exact zC
  dsimp only [nA, cA]
  apply RGW.onL (i := 14) rfl
  · exact zG
  · intro γ u Wm W hcur hd hX
    obtain ⟨⟨h13, -, -⟩, -⟩ := hd
    dsimp only at h13
    (try simp only [h13])
    have Mk0 := (Blk.below k0 hcur).laterN _ _ hX
    have Mk1 := (Blk.below k1 hcur).laterN _ _ hX
    have Mk2 := (Blk.below k2 hcur).laterN _ _ hX
    have Mk3 := (Blk.below k3 hcur).laterN _ _ hX
    have Mk4 := (Blk.below k4 hcur).laterN _ _ hX
    have Mk5 := (Blk.below k5 hcur).laterN _ _ hX
    exact ⟨rfl, zS⟩
  · exact zC
  dsimp only [nA, cA]
  apply RGW.onL (i := 15) rfl
  · exact zG
  · intro γ u Wm W hcur hd hX
    obtain ⟨⟨h12, -, -⟩, ⟨h14, -, -⟩, -⟩ := hd
    dsimp only at h12 h14
    (try simp only [h12, h14])
    exact ⟨rfl, zS⟩
  · exact zC
  dsimp only [nA, cA]
  apply RGW.onL (i := 16) rfl
  · exact zG
  · intro γ u Wm W hcur hd hX
    clear hd
    (try dsimp only)
    exact ⟨rfl, zS⟩
  · exact zC
  dsimp only [nA, cA]
  apply RGW.onL (i := 17) rfl
  · exact zG
  · intro γ u Wm W hcur hd hX
    obtain ⟨⟨h16, -, -⟩, -⟩ := hd
    dsimp only at h16
    (try simp only [h16])
    have Mk0 := (Blk.below k0 hcur).laterN _ _ hX
    have Mk1 := (Blk.below k1 hcur).laterN _ _ hX
    have Mk2 := (Blk.below k2 hcur).laterN _ _ hX
    have Mk3 := (Blk.below k3 hcur).laterN _ _ hX
    have Mk4 := (Blk.below k4 hcur).laterN _ _ hX
    have Mk5 := (Blk.below k5 hcur).laterN _ _ hX
    exact ⟨rfl, zS⟩
  · exact zC
  dsimp only [nA, cA]
  apply RGW.onL (i := 18) rfl
  · exact zG
  · intro γ u Wm W hcur hd hX
    clear hd
    (try dsimp only)
    exact ⟨rfl, zS⟩
  · exact zC
  dsimp only [nA, cA]
  apply RGW.onL (i := 19) rfl
  · exact zG
  · intro γ u Wm W hcur hd hX
    obtain ⟨⟨h18, -, -⟩, -⟩ := hd
    dsimp only at h18
    (try simp only [h18])
    have Mk0 := (Blk.below k0 hcur).laterN _ _ hX
    have Mk1 := (Blk.below k1 hcur).laterN _ _ hX
    have Mk2 := (Blk.below k2 hcur).laterN _ _ hX
    have Mk3 := (Blk.below k3 hcur).laterN _ _ hX
    have Mk4 := (Blk.below k4 hcur).laterN _ _ hX
    have Mk5 := (Blk.below k5 hcur).laterN _ _ hX
    exact ⟨rfl, zS⟩
  · exact zC
  dsimp only [nA, cA]
  apply RGW.onL (i := 20) rfl
  · exact zG
  · intro γ u Wm W hcur hd hX
    obtain ⟨⟨h17, -, -⟩, ⟨h19, -, -⟩, -⟩ := hd
    dsimp only at h17 h19
    (try simp only [h17, h19])
    exact ⟨rfl, zS⟩
  · exact zC
  dsimp only [nA, cA]
  apply RGW.onL (i := 21) rfl
  · exact zG
  · intro γ u Wm W hcur hd hX
    obtain ⟨⟨h15, -, -⟩, ⟨h20, -, -⟩, -⟩ := hd
    dsimp only at h15 h20
    (try simp only [h15, h20])
    exact ⟨rfl, zS⟩
  · exact zC
  dsimp only [nA, cA]
  refine RGW.skip (i := 22) rfl rfl ?_
  dsimp only [nA, cA]
  refine RGW.skip (i := 23) rfl rfl ?_
  dsimp only [nA, cA]
  refine RGW.fin (fun γ u wb hwb hd hdis => ?_)
  obtain ⟨⟨h0, -, -⟩, ⟨h1, -, -⟩, ⟨h2, -, -⟩, ⟨h3, -, -⟩, ⟨h4, -, -⟩, ⟨h5, -, -⟩, ⟨h6, -, -⟩, ⟨h7, -, -⟩, ⟨h8, -, -⟩, ⟨h9, -, -⟩, ⟨h10, -, -⟩, ⟨h11, -, -⟩, ⟨h12, -, -⟩, ⟨h13, -, -⟩, ⟨h14, -, -⟩, ⟨h15, -, -⟩, ⟨h16, -, -⟩, ⟨h17, -, -⟩, ⟨h18, -, -⟩, ⟨h19, -, -⟩, ⟨h20, -, -⟩, ⟨h21, -, -⟩, -⟩ := hd
  dsimp only at h0 h1 h2 h3 h4 h5 h6 h7 h8 h9 h10 h11 h12 h13 h14 h15 h16 h17 h18 h19 h20 h21
  clear hdis
  simp only [h0, h1, h2, h3, h4, h5, h6, h7, h8, h9, h10, h11, h12, h13, h14, h15, h16, h17, h18, h19, h20, h21]
  clear h21 h20 h19 h18 h17 h16 h15 h14 h13 h12 h11 h10 h9 h8 h7 h6 h5 h4 h3 h2 h1 h0
  clear u
  simp only [List.map_cons, List.map_nil]
  apply PlanW.step
  · exact zG
  · rfl
  intro K hK
  refine wp_store_keep (X := [w.heap.size + 3, w.heap.size + 4]) (w0 := wb) rfl rfl rfl (by with_reducible first | exact bx_refl _ _ | assumption) (by with_reducible first | assumption | (apply Blk.below (hb := hwb); assumption)) (by simp) (by kernel_rfl) (by rfl) (by simp [Value.oneCell']) (fun hres1 hcur => ?_)
  refine hK.out _ _ hcur (fun _ => ?_)
  clear hK K
  try simp only [Act.put, List.setIfInBounds_toArray, List.set_cons_zero, List.set_cons_succ]
  apply PlanW.step
  · exact zG
  · rfl
  intro K hK
  refine wp_store_keep (X := [w.heap.size + 3, w.heap.size + 4]) (w0 := wb) rfl rfl rfl (by with_reducible first | exact bx_refl _ _ | assumption) (by with_reducible first | assumption | (apply Blk.below (hb := hwb); assumption)) (by simp) (by kernel_rfl) (by rfl) (by simp [Value.oneCell']) (fun hres2 hcur => ?_)
  refine hK.out _ _ hcur (fun _ => ?_)
  clear hK K
  try simp only [Act.put, List.setIfInBounds_toArray, List.set_cons_zero, List.set_cons_succ]
  refine PlanW.done ?_
  have hb3 := bl_tt hwb
  go_wp2
  apply absPB6 (w0 := w) (g0 := w.heap.size) (g1 := w.heap.size + 1) (g2 := w.heap.size + 2) (g3 := w.heap.size + 3) (g4 := w.heap.size + 4) (g5 := wz.heap.size)
  iterate 7 (focus exact zL)
  try clear hb3
  try clear Lk0
  try clear Fk0
  try clear Qk0
  try clear Lk1
  try clear Fk1
  try clear Qk1
  try clear Lk2
  try clear Fk2
  try clear Qk2
  try clear Lk3
  try clear Fk3
  try clear Qk3
  try clear Lk4
  try clear Fk4
  try clear Qk4
  try clear Lk5
  try clear Fk5
  try clear Qk5
  try clear hb0
  try clear k0
  try clear k1
  try clear k2
  try clear k3
  try clear k4
  try clear k5
  intro wf hb0 k0 k1 k2 k3 k4 k5
  (try simp only [List.setIfInBounds_toArray, List.set_cons_zero, List.set_cons_succ] at k0 k1 k2 k3 k4 k5)
  have hr1 := k3.cell
  have hr2 := k4.cell
  refine bodyPost_ret (v := .tuple #[vRg (squaresS a x.pl), .agg #[.int .i64 (r.v.lo * r.v.lo), .int .i64 (r.v.hi * r.v.hi)]]) (by simp [results, Tryz.results91, go_sem, hr1, hr2]) rfl ⟨rfl, hb0⟩
end Go.Proofs.YtephimmamkafoaaGreat
