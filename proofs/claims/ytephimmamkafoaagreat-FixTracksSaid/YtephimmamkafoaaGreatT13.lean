/-
  Walks: the depth for ranges of pressure and density.
  The document's examples: what the specification answers at them.
  Walks: copies of nets, readings and votes.
  Walk: whether two lists of numbers are equal.
-/
import Derived.Test.YtephimmamkafoaaGreatT2
import Derived.Test.YtephimmamkafoaaGreatT4
import Derived.Test.YtephimmamkafoaaGreatT11
import Derived.Test.YtephimmamkafoaaGreatT12
import Derived.Test.YtephimmamkafoaaGreatT10
import Derived.ArgAppend
import Derived.Laws.OwnMore
import Derived.Test.YtephimmamkafoaaGreatT3
set_option linter.unusedSimpArgs false
set_option linter.unusedVariables false
namespace Go.Proofs.YtephimmamkafoaaGreat
open Go.RowKit Go.Shelf
attribute [local go_sem] bl_al bl_drew bl_drewN bl_refl bx_al bx_drew bx_drewN bx_refl
set_option maxRecDepth 20000
def insd (r : Rg) (lo hi : Int) : Bool := inR r.lo lo hi && inR r.hi lo hi
def depthErr (p d : Rg) : Int := fstE [unl (insd p 0 1000000 && insd d 1 2000) 2, unl (decide (p.lo ≤ p.hi) && decide (d.lo ≤ d.hi)) 9]
def depth (p d : Rg) : Rg := ⟨p.lo * 1000 / d.hi, (p.hi * 1000 + d.lo - 1) / d.lo⟩
def depthS (p d : Rg) : Rg × Int := if depthErr p d = 0 then (depth p d, 0) else (⟨0, 0⟩, depthErr p d)
set_option maxHeartbeats 1000000 in
theorem c_insd (r : Rg) (lo hi : Int) (w : World) : Calls Tryz.prog 84 #[vRg r, .int .i64 lo, .int .i64 hi] w (Ret (.bool (insd r lo hi)) w) := by
  unfold insd
  cases hA : inR r.lo lo hi
  all_goals
    replace hA := Lib.hid hA
    go_enter Tryz.func84, Tryz.ntmps84
    go_wp2_with (go_at_call 75; (with_reducible refine (c_within _ _ _ _).mono ?_); rintro e w3 ⟨rfl, rfl⟩; (try rw [hA.out]))
    go_ret
    exact ⟨by simp, by solve_by_elim (maxDepth := 60) only [bl_al, bl_drew, bl_drewN, bl_refl, *]⟩
set_option maxHeartbeats 4000000 in
theorem c_DepthIn (p d : Rg) (w : World) : Calls Tryz.prog 36 #[vRg p, vRg d] w (Ret (.tuple #[vRg (depthS p d).1, .int .i64 (depthS p d).2]) w) := by
  have hs1 : Hid (depthErr p d = 0 → depthS p d = (depth p d, 0)) := fun h => by simp [depthS, h]
  have hs2 : Hid (depthErr p d ≠ 0 → depthS p d = (⟨0, 0⟩, depthErr p d)) := fun h => by simp [depthS, h]
  have hdz : Hid (depthErr p d = 0 → (insd p 0 1000000 = true ∧ insd d 1 2000 = true)) := fun h => by
    unfold depthErr at h
    by_cases h1 : (insd p 0 1000000 && insd d 1 2000) = true
    · simpa using h1
    · simp [fstE, unl, h1] at h
  have hde : Hid (depthErr p d = fstE [unl (insd p 0 1000000 && insd d 1 2000) 2, unl (decide (p.lo ≤ p.hi) && decide (d.lo ≤ d.hi)) 9]) := rfl
  obtain ⟨bA, hA⟩ : ∃ b, insd p 0 1000000 = b := ⟨_, rfl⟩
  obtain ⟨bB, hB⟩ : ∃ b, decide (p.lo ≤ p.hi) = b := ⟨_, rfl⟩
  have hcp := Lib.hid fun W : World => hA ▸ c_insd p 0 1000000 W
  rw [hA, hB] at hde
  replace hA := Lib.hid hA
  cases bA
  all_goals cases bB
  all_goals
    replace hde : Hid (depthErr p d = _) := Lib.hid hde.out
    simp only [Bool.false_and, Bool.true_and] at hde
    go_enter Tryz.func36, Tryz.ntmps36
    go_wp2
    apply absB3 (w0 := w) (g0 := w.heap.size) (g1 := w.heap.size + 1) (g2 := w.heap.size + 2)
    iterate 4 (focus ((with_reducible (repeat' (first | assumption | apply jA | apply jB | apply jC | apply jD | apply jE | apply jF | apply hb3 | apply jG | apply jH | apply jI | apply jJ | apply jK | apply hb3x | (apply jL; first | (simp; done) | rfl) | apply jM | apply jN | apply jO | apply jP | apply jQ | apply jR | apply jS | apply jT (hb := hb3 _ (jA _)) | omega | (simp; done) | (simp; omega) | (dsimp only; omega)))); done))
    intro wb hb0' k0' k1' k2'
    (try simp only [List.setIfInBounds_toArray, List.set_cons_zero, List.set_cons_succ] at k0' k1' k2')
    try clear hb3
    try clear hb0
    try clear k0
    try clear k1
    try clear k2
    have hb0 := hb0'; clear hb0'
    have k0 := k0'; clear k0'
    have k1 := k1'; clear k1'
    have k2 := k2'; clear k2'
    have Lk0 := k0.later
    have Fk0 := k0.laterF
    have Qk0 := k0.lt
    have Lk1 := k1.later
    have Fk1 := k1.laterF
    have Qk1 := k1.lt
    have Lk2 := k2.later
    have Fk2 := k2.laterF
    have Qk2 := k2.lt
    refine wp_any (w0 := wb) ⟨[], [], [some 8, some 9, some 10, some 11, some 12, some 13, some 14, some 15, some 16, some 17, some 18, some 19, some 20, some 21, some 22, some 23, some 24, some 25, some 26, some 27, some 28, some 29, some 30, some 31, some 7], [[], [], [0, 1], [0, 1, 2], [0, 1, 2, 3], [0, 1, 2, 3], [0, 1, 2, 3, 4, 5], [0, 1, 2, 3, 4, 5, 6], [0, 1, 2, 3, 4, 5, 6, 7], [], [9], [], [11], [9, 10, 11, 12], [0, 1, 2, 3, 4, 5, 6, 7, 8, 9, 10, 11, 12, 13], [0, 1, 2, 3, 4, 5, 6, 7, 8, 9, 10, 11, 12, 13, 14], [0, 1, 2, 3, 4, 5, 6, 7, 8, 9, 10, 11, 12, 13, 14, 15], [0, 1, 2, 3, 4, 5, 6, 7, 8, 9, 10, 11, 12, 13, 14], [0, 1, 2, 3, 4, 5, 6, 7, 8, 9, 10, 11, 12, 13, 14, 17], [0, 1, 2, 3, 4, 5, 6, 7, 8, 9, 10, 11, 12, 13, 14, 15, 16, 17, 18], [0, 1, 2, 3, 4, 5, 6, 7, 8, 9, 10, 11, 12, 13, 14, 15, 16, 17, 18, 19], [0, 1, 2, 3, 4, 5, 6, 7, 8, 9, 10, 11, 12, 13, 14, 15, 16, 17, 18, 19, 20], [0, 1, 2, 3, 4, 5, 6, 7, 8, 9, 10, 11, 12, 13, 14, 15, 16, 17, 18, 19, 20, 21], [0, 1, 2, 3, 4, 5, 6, 7, 8, 9, 10, 11, 12, 13, 14, 15, 16, 17, 18, 19, 20, 21, 22], [0, 1, 2, 3, 4, 5, 6, 7, 8, 9, 10, 11, 12, 13, 14, 15, 16, 17, 18, 19, 20, 21, 22, 23]], [[], [], [0, 1], [2], [3], [3], [3, 4, 5], [3, 6], [7], [], [9], [], [11], [10, 12], [13], [14], [14, 15], [14], [14, 17], [14, 16, 18], [14, 19], [20], [8, 21], [22], [22, 23]]⟩ (fun _ => []) (by kernel_rfl) (by kernel_rfl) (by (with_reducible (repeat' (first | assumption | apply jA | apply jB | apply jC | apply jD | apply jE | apply jF | apply hb3 | omega | (simp; done) | (simp; omega) | (dsimp only; omega))))) (fun u => by simp only [putD, Act.put, List.setIfInBounds_toArray, List.set_cons_zero, List.set_cons_succ, Nat.zero_add, Nat.reduceAdd]; rfl) ?_
    apply RGW.on (i := 0) rfl
    · (simp only [gA, gB, gC] <;> rfl)
    · intro γ u W hcur hd
      clear hd
      (try dsimp only)
      refine ⟨rfl, ?_⟩
      go_simp <;> (try go_bits) <;> with_reducible rfl
    · exact fun _ _ _ => rfl
    · rfl
    dsimp only [nA, cA]
    apply RGW.on (i := 1) rfl
    · (simp only [gA, gB, gC] <;> rfl)
    · intro γ u W hcur hd
      clear hd
      (try dsimp only)
      refine ⟨rfl, ?_⟩
      go_simp <;> (try go_bits) <;> with_reducible rfl
    · exact fun _ _ _ => rfl
    · rfl
    dsimp only [nA, cA]
    apply RGW.call (i := 2) rfl
    · (simp only [gA, gB, gC] <;> rfl)
    · intro γ u W hcur hd
      obtain ⟨⟨h0, -, -⟩, ⟨h1, -, -⟩, -⟩ := hd
      dsimp only at h0 h1
      (try simp only [h0, h1])
      refine ⟨rfl, fun K hK => ?_⟩
      go_simp
      (go_at_call 84; (first | (with_reducible refine (hcp.out _).mono ?_) | (with_reducible refine (c_insd d 1 2000 _).mono ?_)); rintro e w3 ⟨rfl, hb3⟩; replace hb3 := bl_tt hb3)
      (try dsimp only)
      exact hK.out _ _ rfl (by (with_reducible (repeat' (first | assumption | apply jA | apply jB | apply jC | apply jD | apply jE | apply jF | apply hb3 | omega | (simp; done) | (simp; omega) | (dsimp only; omega)))))
    · exact fun _ _ _ => rfl
    · rfl
    dsimp only [nA, cA]
    apply RGW.on (i := 3) rfl
    · (simp only [gA, gB, gC] <;> rfl)
    · intro γ u W hcur hd
      obtain ⟨⟨h2, -, -⟩, -⟩ := hd
      dsimp only at h2
      (try simp only [h2])
      refine ⟨rfl, ?_⟩
      go_simp <;> (try go_bits) <;> with_reducible rfl
    · exact fun _ _ _ => rfl
    · rfl
    dsimp only [nA, cA]
    first
    | apply RGW.on (i := 4) rfl
      · (simp only [gA, gB, gC] <;> rfl)
      · intro γ u W hcur hd
        obtain ⟨⟨h3, -, -⟩, -⟩ := hd
        dsimp only at h3
        (try simp only [h3])
        refine ⟨?_, ?_⟩
        · (simp [Region.wanted, yielded, undef, *]; done)
        go_simp <;> (try go_bits) <;> with_reducible rfl
      · exact fun _ _ _ => rfl
      · rfl
    | apply RGW.off (i := 4) rfl
      · (simp only [gA, gB, gC] <;> rfl)
      · intro γ u W hcur hd
        obtain ⟨⟨h3, -, -⟩, -⟩ := hd
        dsimp only at h3
        (try simp only [h3])
        simp [Region.wanted, yielded, undef, *]
      · rfl
    dsimp only [nA, cA]
    first
    | apply RGW.on (i := 5) rfl
      · (simp only [gA, gB, gC] <;> rfl)
      · intro γ u W hcur hd
        obtain ⟨⟨h3, -, -⟩, -⟩ := hd
        dsimp only at h3
        (try simp only [h3])
        refine ⟨?_, ?_⟩
        · (simp [Region.wanted, yielded, undef, *]; done)
        go_simp <;> (try go_bits) <;> with_reducible rfl
      · exact fun _ _ _ => rfl
      · rfl
    | apply RGW.off (i := 5) rfl
      · (simp only [gA, gB, gC] <;> rfl)
      · intro γ u W hcur hd
        obtain ⟨⟨h3, -, -⟩, -⟩ := hd
        dsimp only at h3
        (try simp only [h3])
        simp [Region.wanted, yielded, undef, *]
      · rfl
    dsimp only [nA, cA]
    first
    | apply RGW.call (i := 6) rfl
      · (simp only [gA, gB, gC] <;> rfl)
      · intro γ u W hcur hd
        obtain ⟨⟨h3, -, -⟩, ⟨h4, -, -⟩, ⟨h5, -, -⟩, -⟩ := hd
        dsimp only at h3 h4 h5
        (try simp only [h3, h4, h5])
        refine ⟨?_, fun K hK => ?_⟩
        · (simp [Region.wanted, yielded, undef, *]; done)
        go_simp
        (go_at_call 84; (first | (with_reducible refine (hcp.out _).mono ?_) | (with_reducible refine (c_insd d 1 2000 _).mono ?_)); rintro e w3 ⟨rfl, hb3⟩; replace hb3 := bl_tt hb3)
        (try dsimp only)
        exact hK.out _ _ rfl (by (with_reducible (repeat' (first | assumption | apply jA | apply jB | apply jC | apply jD | apply jE | apply jF | apply hb3 | omega | (simp; done) | (simp; omega) | (dsimp only; omega)))))
      · exact fun _ _ _ => rfl
      · rfl
    | apply RGW.off (i := 6) rfl
      · (simp only [gA, gB, gC] <;> rfl)
      · intro γ u W hcur hd
        obtain ⟨⟨h3, -, -⟩, ⟨h4, -, -⟩, ⟨h5, -, -⟩, -⟩ := hd
        dsimp only at h3 h4 h5
        (try simp only [h3, h4, h5])
        simp [Region.wanted, yielded, undef, *]
      · rfl
    dsimp only [nA, cA]
    apply RGW.on (i := 7) rfl
    · (simp only [gA, gB, gC] <;> rfl)
    · intro γ u W hcur hd
      obtain ⟨⟨h3, -, -⟩, ⟨h6, -, -⟩, -⟩ := hd
      dsimp only at h3 h6
      (try simp only [h3, h6])
      refine ⟨rfl, ?_⟩
      go_simp <;> (try go_bits) <;> with_reducible rfl
    · exact fun _ _ _ => rfl
    · rfl
    dsimp only [nA, cA]
    apply RGW.call (i := 8) rfl
    · (simp only [gA, gB, gC] <;> rfl)
    · intro γ u W hcur hd
      obtain ⟨⟨h7, -, -⟩, -⟩ := hd
      dsimp only at h7
      (try simp only [h7])
      refine ⟨rfl, fun K hK => ?_⟩
      go_simp
      (go_at_call 49; (with_reducible refine (c_unless _ _ _).mono ?_); rintro e w3 ⟨rfl, rfl⟩)
      (try dsimp only)
      exact hK.out _ _ rfl (by (with_reducible (repeat' (first | assumption | apply jA | apply jB | apply jC | apply jD | apply jE | apply jF | apply hb3 | omega | (simp; done) | (simp; omega) | (dsimp only; omega)))))
    · exact fun _ _ _ => rfl
    · rfl
    dsimp only [nA, cA]
    apply RGW.on (i := 9) rfl
    · (simp only [gA, gB, gC] <;> rfl)
    · intro γ u W hcur hd
      clear hd
      (try dsimp only)
      refine ⟨rfl, ?_⟩
      go_simp <;> (try go_bits) <;> with_reducible rfl
    · exact fun _ _ _ => rfl
    · rfl
    dsimp only [nA, cA]
    apply RGW.on (i := 10) rfl
    · (simp only [gA, gB, gC] <;> rfl)
    · intro γ u W hcur hd
      obtain ⟨⟨h9, -, -⟩, -⟩ := hd
      dsimp only at h9
      (try simp only [h9])
      refine ⟨rfl, ?_⟩
      go_simp <;> (try go_bits) <;> with_reducible rfl
    · exact fun _ _ _ => rfl
    · rfl
    dsimp only [nA, cA]
    apply RGW.on (i := 11) rfl
    · (simp only [gA, gB, gC] <;> rfl)
    · intro γ u W hcur hd
      clear hd
      (try dsimp only)
      refine ⟨rfl, ?_⟩
      go_simp <;> (try go_bits) <;> with_reducible rfl
    · exact fun _ _ _ => rfl
    · rfl
    dsimp only [nA, cA]
    apply RGW.on (i := 12) rfl
    · (simp only [gA, gB, gC] <;> rfl)
    · intro γ u W hcur hd
      obtain ⟨⟨h11, -, -⟩, -⟩ := hd
      dsimp only at h11
      (try simp only [h11])
      refine ⟨rfl, ?_⟩
      go_simp <;> (try go_bits) <;> with_reducible rfl
    · exact fun _ _ _ => rfl
    · rfl
    dsimp only [nA, cA]
    apply RGW.on (i := 13) rfl
    · (simp only [gA, gB, gC] <;> rfl)
    · intro γ u W hcur hd
      obtain ⟨⟨h10, -, -⟩, ⟨h12, -, -⟩, -⟩ := hd
      dsimp only at h10 h12
      (try simp only [h10, h12])
      refine ⟨rfl, ?_⟩
      go_simp <;> (try go_bits) <;> with_reducible rfl
    · exact fun _ _ _ => rfl
    · rfl
    dsimp only [nA, cA]
    apply RGW.on (i := 14) rfl
    · (simp only [gA, gB, gC] <;> rfl)
    · intro γ u W hcur hd
      obtain ⟨⟨h13, -, -⟩, -⟩ := hd
      dsimp only at h13
      (try simp only [h13])
      refine ⟨rfl, ?_⟩
      go_simp <;> (try go_bits) <;> with_reducible rfl
    · exact fun _ _ _ => rfl
    · rfl
    dsimp only [nA, cA]
    first
    | apply RGW.on (i := 15) rfl
      · (simp only [gA, gB, gC] <;> rfl)
      · intro γ u W hcur hd
        obtain ⟨⟨h14, -, -⟩, -⟩ := hd
        dsimp only at h14
        (try simp only [h14])
        refine ⟨?_, ?_⟩
        · (simp [Region.wanted, yielded, undef, *]; done)
        go_simp <;> (try go_bits) <;> with_reducible rfl
      · exact fun _ _ _ => rfl
      · rfl
    | apply RGW.off (i := 15) rfl
      · (simp only [gA, gB, gC] <;> rfl)
      · intro γ u W hcur hd
        obtain ⟨⟨h14, -, -⟩, -⟩ := hd
        dsimp only at h14
        (try simp only [h14])
        simp [Region.wanted, yielded, undef, *]
      · rfl
    dsimp only [nA, cA]
    first
    | apply RGW.on (i := 16) rfl
      · (simp only [gA, gB, gC] <;> rfl)
      · intro γ u W hcur hd
        obtain ⟨⟨h14, -, -⟩, ⟨h15, -, -⟩, -⟩ := hd
        dsimp only at h14 h15
        (try simp only [h14, h15])
        refine ⟨?_, ?_⟩
        · (simp [Region.wanted, yielded, undef, *]; done)
        go_simp <;> (try go_bits) <;> with_reducible rfl
      · exact fun _ _ _ => rfl
      · rfl
    | apply RGW.off (i := 16) rfl
      · (simp only [gA, gB, gC] <;> rfl)
      · intro γ u W hcur hd
        obtain ⟨⟨h14, -, -⟩, ⟨h15, -, -⟩, -⟩ := hd
        dsimp only at h14 h15
        (try simp only [h14, h15])
        simp [Region.wanted, yielded, undef, *]
      · rfl
    dsimp only [nA, cA]
    first
    | apply RGW.on (i := 17) rfl
      · (simp only [gA, gB, gC] <;> rfl)
      · intro γ u W hcur hd
        obtain ⟨⟨h14, -, -⟩, -⟩ := hd
        dsimp only at h14
        (try simp only [h14])
        refine ⟨?_, ?_⟩
        · (simp [Region.wanted, yielded, undef, *]; done)
        go_simp <;> (try go_bits) <;> with_reducible rfl
      · exact fun _ _ _ => rfl
      · rfl
    | apply RGW.off (i := 17) rfl
      · (simp only [gA, gB, gC] <;> rfl)
      · intro γ u W hcur hd
        obtain ⟨⟨h14, -, -⟩, -⟩ := hd
        dsimp only at h14
        (try simp only [h14])
        simp [Region.wanted, yielded, undef, *]
      · rfl
    dsimp only [nA, cA]
    first
    | apply RGW.on (i := 18) rfl
      · (simp only [gA, gB, gC] <;> rfl)
      · intro γ u W hcur hd
        obtain ⟨⟨h14, -, -⟩, ⟨h17, -, -⟩, -⟩ := hd
        dsimp only at h14 h17
        (try simp only [h14, h17])
        refine ⟨?_, ?_⟩
        · (simp [Region.wanted, yielded, undef, *]; done)
        go_simp <;> (try go_bits) <;> with_reducible rfl
      · exact fun _ _ _ => rfl
      · rfl
    | apply RGW.off (i := 18) rfl
      · (simp only [gA, gB, gC] <;> rfl)
      · intro γ u W hcur hd
        obtain ⟨⟨h14, -, -⟩, ⟨h17, -, -⟩, -⟩ := hd
        dsimp only at h14 h17
        (try simp only [h14, h17])
        simp [Region.wanted, yielded, undef, *]
      · rfl
    dsimp only [nA, cA]
    first
    | apply RGW.on (i := 19) rfl
      · (simp only [gA, gB, gC] <;> rfl)
      · intro γ u W hcur hd
        obtain ⟨⟨h14, -, -⟩, ⟨h16, -, -⟩, ⟨h18, -, -⟩, -⟩ := hd
        dsimp only at h14 h16 h18
        (try simp only [h14, h16, h18])
        refine ⟨?_, ?_⟩
        · (simp [Region.wanted, yielded, undef, *]; done)
        go_simp <;> (try go_bits) <;> with_reducible rfl
      · exact fun _ _ _ => rfl
      · rfl
    | apply RGW.off (i := 19) rfl
      · (simp only [gA, gB, gC] <;> rfl)
      · intro γ u W hcur hd
        obtain ⟨⟨h14, -, -⟩, ⟨h16, -, -⟩, ⟨h18, -, -⟩, -⟩ := hd
        dsimp only at h14 h16 h18
        (try simp only [h14, h16, h18])
        simp [Region.wanted, yielded, undef, *]
      · rfl
    dsimp only [nA, cA]
    apply RGW.on (i := 20) rfl
    · (simp only [gA, gB, gC] <;> rfl)
    · intro γ u W hcur hd
      obtain ⟨⟨h14, -, -⟩, ⟨h19, -, -⟩, -⟩ := hd
      dsimp only at h14 h19
      (try simp only [h14, h19])
      refine ⟨rfl, ?_⟩
      go_simp <;> (try go_bits) <;> with_reducible rfl
    · exact fun _ _ _ => rfl
    · rfl
    dsimp only [nA, cA]
    apply RGW.call (i := 21) rfl
    · (simp only [gA, gB, gC] <;> rfl)
    · intro γ u W hcur hd
      obtain ⟨⟨h20, -, -⟩, -⟩ := hd
      dsimp only at h20
      (try simp only [h20])
      refine ⟨rfl, fun K hK => ?_⟩
      go_simp
      (go_at_call 49; (with_reducible refine (c_unless _ _ _).mono ?_); rintro e w3 ⟨rfl, rfl⟩)
      (try dsimp only)
      exact hK.out _ _ rfl (by (with_reducible (repeat' (first | assumption | apply jA | apply jB | apply jC | apply jD | apply jE | apply jF | apply hb3 | omega | (simp; done) | (simp; omega) | (dsimp only; omega)))))
    · exact fun _ _ _ => rfl
    · rfl
    dsimp only [nA, cA]
    apply RGW.bslice (i := 22) rfl
    · (simp only [gA, gB, gC] <;> rfl)
    · intro γ u W hcur hd
      obtain ⟨⟨h8, -, -⟩, ⟨h21, -, -⟩, -⟩ := hd
      dsimp only at h8 h21
      (try simp only [h8, h21])
      refine ⟨rfl, fun K hK => ?_⟩
      go_simp
      exact hK.out _ _ rfl rfl
    · exact fun _ _ _ => rfl
    · rfl
    · rfl
    dsimp only [nA, cA]
    apply RGW.call (i := 23) rfl
    · (simp only [gA, gB, gC] <;> rfl)
    · intro γ u W hcur hd
      obtain ⟨⟨h22, r22, -⟩, -⟩ := hd
      dsimp only at h22 r22
      have L22 := r22.cell
      (try simp only [h22])
      refine ⟨rfl, fun K hK => ?_⟩
      go_simp
      (go_at_call 48; (with_reducible refine (c_first2 (by assumption)).mono ?_); rintro e w3 ⟨rfl, rfl⟩)
      (try dsimp only)
      exact hK.out _ _ rfl (by (with_reducible (repeat' (first | assumption | apply jA | apply jB | apply jC | apply jD | apply jE | apply jF | apply hb3 | omega | (simp; done) | (simp; omega) | (dsimp only; omega)))))
    · exact fun _ _ _ => rfl
    · rfl
    dsimp only [nA, cA]
    apply RGW.on (i := 24) rfl
    · (simp only [gA, gB, gC] <;> rfl)
    · intro γ u W hcur hd
      obtain ⟨⟨h22, r22, -⟩, ⟨h23, -, -⟩, -⟩ := hd
      dsimp only at h22 h23 r22
      have L22 := r22.cell
      (try simp only [h22, h23])
      refine ⟨rfl, ?_⟩
      go_simp <;> (try go_bits) <;> with_reducible rfl
    · exact fun _ _ _ => rfl
    · rfl
    dsimp only [nA, cA]
    refine RGW.fin (fun γ u wc hwc hd hdis => ?_)
    obtain ⟨⟨h0, -, -⟩, ⟨h1, -, -⟩, ⟨h2, -, -⟩, ⟨h3, -, -⟩, ⟨h4, -, -⟩, ⟨h5, -, -⟩, ⟨h6, -, -⟩, ⟨h7, -, -⟩, ⟨h8, -, -⟩, ⟨h9, -, -⟩, ⟨h10, -, -⟩, ⟨h11, -, -⟩, ⟨h12, -, -⟩, ⟨h13, -, -⟩, ⟨h14, -, -⟩, ⟨h15, -, -⟩, ⟨h16, -, -⟩, ⟨h17, -, -⟩, ⟨h18, -, -⟩, ⟨h19, -, -⟩, ⟨h20, -, -⟩, ⟨h21, -, -⟩, ⟨h22, r22, b22⟩, ⟨h23, -, -⟩, ⟨h24, -, -⟩, -⟩ := hd
    dsimp only at h0 h1 h2 h3 h4 h5 h6 h7 h8 h9 h10 h11 h12 h13 h14 h15 h16 h17 h18 h19 h20 h21 h22 h23 h24 r22 b22
    clear hdis
    simp only [h0, h1, h2, h3, h4, h5, h6, h7, h8, h9, h10, h11, h12, h13, h14, h15, h16, h17, h18, h19, h20, h21, h22, h23, h24]
    clear h24 h23 h22 h21 h20 h19 h18 h17 h16 h15 h14 h13 h12 h11 h10 h9 h8 h7 h6 h5 h4 h3 h2 h1 h0
    replace b22 := b22 _ (List.mem_singleton.2 rfl)
    generalize hγ22 : (γ 22).n = g22 at *
    clear hγ22
    clear u
    simp only [List.map_nil]
    refine PlanW.done ?_
    have hb3 := bl_tt hwc
    apply absTB3 (w0 := w) (g0 := w.heap.size) (g1 := w.heap.size + 1) (g2 := w.heap.size + 2)
    iterate 4 (focus ((with_reducible (repeat' (first | assumption | apply jA | apply jB | apply jC | apply jD | apply jE | apply jF | apply hb3 | apply jG | apply jH | apply jI | apply jJ | apply jK | apply hb3x | (apply jL; first | (simp; done) | rfl) | apply jM | apply jN | apply jO | apply jP | apply jQ | apply jR | apply jS | apply jT (hb := hb3 _ (jA _)) | omega | (simp; done) | (simp; omega) | (dsimp only; omega)))); done))
    intro wd hb0' k0' k1' k2'
    (try simp only [List.setIfInBounds_toArray, List.set_cons_zero, List.set_cons_succ] at k0' k1' k2')
    try clear hb3
    try clear Lk0
    try clear Fk0
    try clear Qk0
    try clear Lk1
    try clear Fk1
    try clear Qk1
    try clear Lk2
    try clear Fk2
    try clear Qk2
    try clear hb0
    try clear k0
    try clear k1
    try clear k2
    have hb0 := hb0'; clear hb0'
    have k0 := k0'; clear k0'
    have k1 := k1'; clear k1'
    have k2 := k2'; clear k2'
    have Lk0 := k0.later
    have Fk0 := k0.laterF
    have Qk0 := k0.lt
    have Lk1 := k1.later
    have Fk1 := k1.laterF
    have Qk1 := k1.lt
    have Lk2 := k2.later
    have Fk2 := k2.laterF
    have Qk2 := k2.lt
    rw [← hde.out]
    by_cases h0 : depthErr p d = 0
    · obtain ⟨i1, i2⟩ := hdz.out h0
      simp only [insd, Bool.and_eq_true, inR_iff] at i1 i2
      obtain ⟨⟨a1, a2⟩, a3, a4⟩ := i1
      obtain ⟨⟨c1, c2⟩, c3, c4⟩ := i2
      have d1 : d.hi ≠ 0 := by omega
      have d2 : d.lo ≠ 0 := by omega
      have h0' : (depthErr p d != 0) = false := by simp [h0]
      replace h0 := Lib.hid h0
      go_wp2
      refine wp_any (w0 := wd) ⟨[17, 18], [], [some 36, some 37, some 38, some 39, some 40, some 41, some 42, some 43, some 44, some 45, some 46, some 47, some 48, some 49, some 50, some 51, some 52, none, none], [[], [0], [0, 1], [], [3], [0, 1, 2, 3, 4], [], [6], [6, 7], [], [9], [6, 7, 8, 9, 10], [6, 7, 8, 9, 10, 11], [], [13], [6, 7, 8, 9, 10, 11, 12, 13, 14], [0, 1, 2, 3, 4, 5, 6, 7, 8, 9, 10, 11, 12, 13, 14, 15], [0, 1, 2, 3, 4, 5, 6, 7, 8, 9, 10, 11, 12, 13, 14, 15, 16], [0, 1, 2, 3, 4, 5, 6, 7, 8, 9, 10, 11, 12, 13, 14, 15, 16, 17]], [[], [0], [1], [], [3], [2, 4], [], [6], [7], [], [9], [8, 10], [11], [], [13], [12, 14], [5, 15], [], []]⟩ (fun _ => [w.heap.size + 2]) (by kernel_rfl) (by kernel_rfl) (by (with_reducible (repeat' (first | assumption | apply jA | apply jB | apply jC | apply jD | apply jE | apply jF | apply hb3 | omega | (simp; done) | (simp; omega) | (dsimp only; omega))))) (fun u => by simp only [putD, Act.put, List.setIfInBounds_toArray, List.set_cons_zero, List.set_cons_succ, Nat.zero_add, Nat.reduceAdd]; rfl) ?_
      apply RGW.on (i := 0) rfl
      · (simp only [gA, gB, gC] <;> rfl)
      · intro γ u W hcur hd
        clear hd
        (try dsimp only)
        refine ⟨rfl, ?_⟩
        go_simp <;> (try go_bits) <;> with_reducible rfl
      · exact fun _ _ _ => rfl
      · rfl
      dsimp only [nA, cA]
      apply RGW.on (i := 1) rfl
      · (simp only [gA, gB, gC] <;> rfl)
      · intro γ u W hcur hd
        obtain ⟨⟨h0, -, -⟩, -⟩ := hd
        dsimp only at h0
        (try simp only [h0])
        refine ⟨rfl, ?_⟩
        go_simp <;> (try go_bits) <;> with_reducible rfl
      · exact fun _ _ _ => rfl
      · rfl
      dsimp only [nA, cA]
      apply RGW.on (i := 2) rfl
      · (simp only [gA, gB, gC] <;> rfl)
      · intro γ u W hcur hd
        obtain ⟨⟨h1, -, -⟩, -⟩ := hd
        dsimp only at h1
        (try simp only [h1])
        refine ⟨rfl, ?_⟩
        go_simp <;> (try go_bits) <;> with_reducible rfl
      · exact fun _ _ _ => rfl
      · rfl
      dsimp only [nA, cA]
      apply RGW.on (i := 3) rfl
      · (simp only [gA, gB, gC] <;> rfl)
      · intro γ u W hcur hd
        clear hd
        (try dsimp only)
        refine ⟨rfl, ?_⟩
        go_simp <;> (try go_bits) <;> with_reducible rfl
      · exact fun _ _ _ => rfl
      · rfl
      dsimp only [nA, cA]
      apply RGW.on (i := 4) rfl
      · (simp only [gA, gB, gC] <;> rfl)
      · intro γ u W hcur hd
        obtain ⟨⟨h3, -, -⟩, -⟩ := hd
        dsimp only at h3
        (try simp only [h3])
        refine ⟨rfl, ?_⟩
        go_simp <;> (try go_bits) <;> with_reducible rfl
      · exact fun _ _ _ => rfl
      · rfl
      dsimp only [nA, cA]
      apply RGW.on (i := 5) rfl
      · (simp only [gA, gB, gC] <;> rfl)
      · intro γ u W hcur hd
        obtain ⟨⟨h2, -, -⟩, ⟨h4, -, -⟩, -⟩ := hd
        dsimp only at h2 h4
        (try simp only [h2, h4])
        refine ⟨rfl, ?_⟩
        go_simp <;> (try go_bits) <;> with_reducible rfl
      · exact fun _ _ _ => rfl
      · rfl
      dsimp only [nA, cA]
      apply RGW.on (i := 6) rfl
      · (simp only [gA, gB, gC] <;> rfl)
      · intro γ u W hcur hd
        clear hd
        (try dsimp only)
        refine ⟨rfl, ?_⟩
        go_simp <;> (try go_bits) <;> with_reducible rfl
      · exact fun _ _ _ => rfl
      · rfl
      dsimp only [nA, cA]
      apply RGW.on (i := 7) rfl
      · (simp only [gA, gB, gC] <;> rfl)
      · intro γ u W hcur hd
        obtain ⟨⟨h6, -, -⟩, -⟩ := hd
        dsimp only at h6
        (try simp only [h6])
        refine ⟨rfl, ?_⟩
        go_simp <;> (try go_bits) <;> with_reducible rfl
      · exact fun _ _ _ => rfl
      · rfl
      dsimp only [nA, cA]
      apply RGW.on (i := 8) rfl
      · (simp only [gA, gB, gC] <;> rfl)
      · intro γ u W hcur hd
        obtain ⟨⟨h7, -, -⟩, -⟩ := hd
        dsimp only at h7
        (try simp only [h7])
        refine ⟨rfl, ?_⟩
        go_simp <;> (try go_bits) <;> with_reducible rfl
      · exact fun _ _ _ => rfl
      · rfl
      dsimp only [nA, cA]
      apply RGW.on (i := 9) rfl
      · (simp only [gA, gB, gC] <;> rfl)
      · intro γ u W hcur hd
        clear hd
        (try dsimp only)
        refine ⟨rfl, ?_⟩
        go_simp <;> (try go_bits) <;> with_reducible rfl
      · exact fun _ _ _ => rfl
      · rfl
      dsimp only [nA, cA]
      apply RGW.on (i := 10) rfl
      · (simp only [gA, gB, gC] <;> rfl)
      · intro γ u W hcur hd
        obtain ⟨⟨h9, -, -⟩, -⟩ := hd
        dsimp only at h9
        (try simp only [h9])
        refine ⟨rfl, ?_⟩
        go_simp <;> (try go_bits) <;> with_reducible rfl
      · exact fun _ _ _ => rfl
      · rfl
      dsimp only [nA, cA]
      apply RGW.on (i := 11) rfl
      · (simp only [gA, gB, gC] <;> rfl)
      · intro γ u W hcur hd
        obtain ⟨⟨h8, -, -⟩, ⟨h10, -, -⟩, -⟩ := hd
        dsimp only at h8 h10
        (try simp only [h8, h10])
        refine ⟨rfl, ?_⟩
        go_simp <;> (try go_bits) <;> with_reducible rfl
      · exact fun _ _ _ => rfl
      · rfl
      dsimp only [nA, cA]
      apply RGW.on (i := 12) rfl
      · (simp only [gA, gB, gC] <;> rfl)
      · intro γ u W hcur hd
        obtain ⟨⟨h11, -, -⟩, -⟩ := hd
        dsimp only at h11
        (try simp only [h11])
        refine ⟨rfl, ?_⟩
        go_simp <;> (try go_bits) <;> with_reducible rfl
      · exact fun _ _ _ => rfl
      · rfl
      dsimp only [nA, cA]
      apply RGW.on (i := 13) rfl
      · (simp only [gA, gB, gC] <;> rfl)
      · intro γ u W hcur hd
        clear hd
        (try dsimp only)
        refine ⟨rfl, ?_⟩
        go_simp <;> (try go_bits) <;> with_reducible rfl
      · exact fun _ _ _ => rfl
      · rfl
      dsimp only [nA, cA]
      apply RGW.on (i := 14) rfl
      · (simp only [gA, gB, gC] <;> rfl)
      · intro γ u W hcur hd
        obtain ⟨⟨h13, -, -⟩, -⟩ := hd
        dsimp only at h13
        (try simp only [h13])
        refine ⟨rfl, ?_⟩
        go_simp <;> (try go_bits) <;> with_reducible rfl
      · exact fun _ _ _ => rfl
      · rfl
      dsimp only [nA, cA]
      apply RGW.on (i := 15) rfl
      · (simp only [gA, gB, gC] <;> rfl)
      · intro γ u W hcur hd
        obtain ⟨⟨h12, -, -⟩, ⟨h14, -, -⟩, -⟩ := hd
        dsimp only at h12 h14
        (try simp only [h12, h14])
        refine ⟨rfl, ?_⟩
        go_simp <;> (try go_bits) <;> with_reducible rfl
      · exact fun _ _ _ => rfl
      · rfl
      dsimp only [nA, cA]
      apply RGW.on (i := 16) rfl
      · (simp only [gA, gB, gC] <;> rfl)
      · intro γ u W hcur hd
        obtain ⟨⟨h5, -, -⟩, ⟨h15, -, -⟩, -⟩ := hd
        dsimp only at h5 h15
        (try simp only [h5, h15])
        refine ⟨rfl, ?_⟩
        go_simp <;> (try go_bits) <;> with_reducible rfl
      · exact fun _ _ _ => rfl
      · rfl
      dsimp only [nA, cA]
      refine RGW.skip (i := 17) rfl rfl ?_
      dsimp only [nA, cA]
      refine RGW.skip (i := 18) rfl rfl ?_
      dsimp only [nA, cA]
      refine RGW.fin (fun γ u we hwe hd hdis => ?_)
      obtain ⟨⟨h0, -, -⟩, ⟨h1, -, -⟩, ⟨h2, -, -⟩, ⟨h3, -, -⟩, ⟨h4, -, -⟩, ⟨h5, -, -⟩, ⟨h6, -, -⟩, ⟨h7, -, -⟩, ⟨h8, -, -⟩, ⟨h9, -, -⟩, ⟨h10, -, -⟩, ⟨h11, -, -⟩, ⟨h12, -, -⟩, ⟨h13, -, -⟩, ⟨h14, -, -⟩, ⟨h15, -, -⟩, ⟨h16, -, -⟩, -⟩ := hd
      dsimp only at h0 h1 h2 h3 h4 h5 h6 h7 h8 h9 h10 h11 h12 h13 h14 h15 h16
      clear hdis
      simp only [h0, h1, h2, h3, h4, h5, h6, h7, h8, h9, h10, h11, h12, h13, h14, h15, h16]
      clear h16 h15 h14 h13 h12 h11 h10 h9 h8 h7 h6 h5 h4 h3 h2 h1 h0
      clear u
      simp only [List.map_cons, List.map_nil]
      apply PlanW.step
      · (simp only [gA, gB, gC] <;> rfl)
      · rfl
      intro K hK
      refine wp_store_keep (X := [w.heap.size + 2]) (w0 := we) rfl rfl rfl (by with_reducible first | exact bx_refl _ _ | assumption) (by with_reducible first | assumption | (apply Blk.below (hb := hwe); assumption)) (by simp) (by kernel_rfl) (by rfl) (by simp [Value.oneCell']) (fun hres1 hcur => ?_)
      refine hK.out _ _ hcur (fun _ => ?_)
      clear hK K
      try simp only [Act.put, List.setIfInBounds_toArray, List.set_cons_zero, List.set_cons_succ]
      apply PlanW.step
      · (simp only [gA, gB, gC] <;> rfl)
      · rfl
      intro K hK
      go_simp
      refine hK.out _ _ (by (with_reducible (repeat' (first | assumption | apply jG | apply jH | apply jI | apply jJ | apply jK | apply hb3x | omega | (simp; done) | (simp; omega) | (dsimp only; omega))))) (fun hcur => ?_)
      clear hK K
      try simp only [Act.put, List.setIfInBounds_toArray, List.set_cons_zero, List.set_cons_succ]
      refine PlanW.done ?_
      have hb3 := bl_tt hwe
      have hr := hres1.cell
      have hb1 := hb3 _ hb0
      go_wp2
      refine bodyPost_ret (v := .tuple #[vRg (depthS p d).1, .int .i64 (depthS p d).2]) (by rw [hs1.out h0.out]; simp [results, Tryz.results36, go_sem, hr, depth]) rfl ⟨rfl, ?_⟩
      exact hcur.below (by simp) hb1
    · have h0' : (depthErr p d != 0) = true := by simp [h0]
      replace h0 := Lib.hid h0
      go_wp2
      apply absPB3 (w0 := w) (g0 := w.heap.size) (g1 := w.heap.size + 1) (g2 := w.heap.size + 2)
      iterate 4 (focus ((with_reducible (repeat' (first | assumption | apply jA | apply jB | apply jC | apply jD | apply jE | apply jF | apply hb3 | apply jG | apply jH | apply jI | apply jJ | apply jK | apply hb3x | (apply jL; first | (simp; done) | rfl) | apply jM | apply jN | apply jO | apply jP | apply jQ | apply jR | apply jS | apply jT (hb := hb3 _ (jA _)) | omega | (simp; done) | (simp; omega) | (dsimp only; omega)))); done))
      intro wf hb0' k0' k1' k2'
      (try simp only [List.setIfInBounds_toArray, List.set_cons_zero, List.set_cons_succ] at k0' k1' k2')
      try clear hb3
      try clear Lk0
      try clear Fk0
      try clear Qk0
      try clear Lk1
      try clear Fk1
      try clear Qk1
      try clear Lk2
      try clear Fk2
      try clear Qk2
      try clear hb0
      try clear k0
      try clear k1
      try clear k2
      have hb0 := hb0'; clear hb0'
      have k0 := k0'; clear k0'
      have k1 := k1'; clear k1'
      have k2 := k2'; clear k2'
      have hr := k2.cell
      refine bodyPost_ret (v := .tuple #[vRg (depthS p d).1, .int .i64 (depthS p d).2]) (by rw [hs2.out h0.out]; simp [results, Tryz.results36, go_sem, hr]) rfl ⟨rfl, hb0⟩
end Go.Proofs.YtephimmamkafoaaGreat
namespace Go.Proofs.YtephimmamkafoaaGreat
open Go.RowKit
def net0 : Nt := ⟨⟨⟨-10, 10⟩, ⟨-10, 10⟩, ⟨0, 20⟩⟩, [⟨⟨#[97]⟩, ⟨0, 0, 0⟩⟩, ⟨⟨#[98]⟩, ⟨6, 0, 0⟩⟩]⟩
def start0 : Bx := ⟨⟨0, 4⟩, ⟨0, 0⟩, ⟨3, 3⟩⟩
def move0 : Mv := ⟨2, ⟨⟨1, 3⟩, ⟨0, 1⟩, ⟨-1, 0⟩⟩⟩
def field0 : Bx := ⟨⟨0, 6⟩, ⟨0, 0⟩, ⟨0, 4⟩⟩
def reads0 : List Rd := [⟨0, 0, ⟨5, 5⟩⟩, ⟨0, 1, ⟨5, 5⟩⟩, ⟨1, 2, ⟨0, 1⟩⟩]
def asks0 : List Rd := [⟨0, 1, ⟨3, 7⟩⟩, ⟨0, 1, ⟨1, 3⟩⟩, ⟨1, 0, ⟨4, 9⟩⟩]
def ivN : Nat → Int → List Int
  | 0, _ => []
  | n + 1, lo => lo :: ivN n (lo + 1)
theorem iv_eq : ∀ (n : Nat) (lo hi : Int), (hi + 1 - lo).toNat = n → iv lo hi = ivN n lo
  | 0, lo, hi, h => by rw [iv_nil (by omega)]; rfl
  | n + 1, lo, hi, h => by rw [iv_cons (by omega), iv_eq n (lo + 1) hi (by omega)]; rfl
def ptsN (b : Bx) : List Pl := (ivN (b.x.hi + 1 - b.x.lo).toNat b.x.lo).flatMap fun x => (ivN (b.y.hi + 1 - b.y.lo).toNat b.y.lo).flatMap fun y => (ivN (b.z.hi + 1 - b.z.lo).toNat b.z.lo).map fun z => ⟨x, y, z⟩
theorem pts_eq (b : Bx) : b.pts = ptsN b := by
  unfold Bx.pts R1 R2 R3 ptsN
  rw [iv_eq _ b.x.lo b.x.hi rfl, iv_eq _ b.y.lo b.y.hi rfl, iv_eq _ b.z.lo b.z.hi rfl]
theorem ev_carried : movedS net0 start0 move0 (carried net0.world start0 move0) = (⟨⟨2, 10⟩, ⟨0, 2⟩, ⟨1, 3⟩⟩, 0) := by decide +kernel
theorem ev_depth : depthS ⟨10, 11⟩ ⟨1000, 1100⟩ = (⟨9, 11⟩, 0) := by decide +kernel
theorem ev_wrong : wrongS net0 field0 reads0 = ([0], ⟨1, 0, 0⟩, 0) := by
  unfold wrongS wrongBest
  rw [pts_eq]
  decide +kernel
theorem ev_voted : votedS net0 field0 ⟨reads0, 1⟩ = (⟨⟨1, 5⟩, ⟨0, 0⟩, ⟨0, 4⟩⟩, 3, 0) := by
  unfold votedS votesB
  rw [pts_eq]
  decide +kernel
theorem ev_ans : ansS net0 start0 asks0 = [2, 0, 1] ∧ wrongE net0 start0 asks0 = 0 := by decide +kernel
end Go.Proofs.YtephimmamkafoaaGreat
namespace Go.Proofs.YtephimmamkafoaaGreat
open Go.RowKit Go.Shelf
attribute [local go_sem] bl_al bl_drew bl_drewN bl_refl bx_al bx_drew bx_drewN bx_refl
set_option maxRecDepth 20000
theorem flat_at {α : Type} {cs : α → List Value} {sz : Nat} (hcs : ∀ x, (cs x).length = sz) : ∀ {l : List α} {j : Nat} {u : Value}, (l.flatMap cs)[j]? = some u → ∃ k x i, l[k]? = some x ∧ (cs x)[i]? = some u ∧ j = k * sz + i
  | [], j, u, h => by simp at h
  | y :: l, j, u, h => by
    rw [List.flatMap_cons, List.getElem?_append] at h
    by_cases hj : j < (cs y).length
    · rw [if_pos hj] at h
      exact ⟨0, y, j, rfl, h, by simp⟩
    · rw [if_neg hj] at h
      obtain ⟨k, x, i, h1, h2, h3⟩ := flat_at hcs h
      refine ⟨k + 1, x, i, by simpa using h1, h2, ?_⟩
      rw [hcs] at h3 hj
      rw [Nat.add_mul]
      omega
theorem flat_len' {α : Type} {cs : α → List Value} {sz : Nat} (hcs : ∀ x, (cs x).length = sz) (l : List α) : (l.flatMap cs).length = l.length * sz := flat_len cs sz hcs l
theorem flat_get {α : Type} {cs : α → List Value} {sz : Nat} (hcs : ∀ x, (cs x).length = sz) : ∀ {l : List α} {k i : Nat} {x : α} {u : Value}, l[k]? = some x → (cs x)[i]? = some u → (l.flatMap cs)[k * sz + i]? = some u
  | [], k, i, x, u, h, _ => by simp at h
  | y :: l, 0, i, x, u, h, hu => by
    simp at h
    subst h
    have := (List.getElem?_eq_some_iff.1 hu).1
    rw [List.flatMap_cons, List.getElem?_append, if_pos (by omega)]
    simpa using hu
  | y :: l, k + 1, i, x, u, h, hu => by
    rw [List.flatMap_cons, List.getElem?_append, hcs, if_neg (by rw [Nat.add_mul]; omega)]
    have := flat_get hcs (l := l) (k := k) (by simpa using h) hu
    rw [← this]
    congr 1
    rw [Nat.add_mul]
    omega
theorem own_slC {α : Type} {cs : α → List Value} {sz : Nat} (hcs : ∀ x, (cs x).length = sz) (h0 : 0 < sz) {W : World} {b c : Nat} {e : TypeId} {A : Option Addr} {l : List α} (h : W.ownsRow b e sz (.slice A l.length c) l.length (l.flatMap cs)) : Sl cs sz W A l := by
  intro k x hx
  have hk := (List.getElem?_eq_some_iff.1 hx).1
  rcases h.2 with ⟨_, e0⟩ | ⟨g, cap, cur, e1, _, e3, _, _, _, e4⟩
  · omega
  · injection e1 with e1 _ _
    refine ⟨g, 0, e1, fun j v hv => ?_⟩
    have h5 := flat_get hcs hx hv
    rw [← e4, List.getElem?_take] at h5
    split at h5
    · simp only [World.cell?, e3, Nat.zero_add, Nat.zero_le, if_true]
      simpa using h5
    · simp at h5
section
variable {P : Program} {α : Type} {cs : α → List Value} {w : World} {t e g size bytes : Nat} {i : TypeInfo} {z : Value} {A : Option Addr} {l : List α} {c : Nat}
/-- 'append([]T{}, l...)': a slice of the call's own with l's elements. -/
theorem run_copy (ty : TypeId) (ht : P.underlying t = some (.slice e)) (hi : P.info? e = some i) (hz : i.zero = some z) (hsize : i.size = size) (hby : i.bytes = bytes) (hzs : z.cells.size = size) (hsz : 0 < size)
    (hcs : ∀ x, (cs x).length = size) (h1 : ∀ x, ∀ u ∈ cs x, u.oneCell' = true) (hs : Sl cs size w A l) (hl : l.length ≤ 1000) (hb : bytes ≤ 1000) (hg : Blk w g e #[]) :
    ∃ A2 c2 w', (Builtin.append_ #[t, t] ty #[.slice (some ⟨g, 0, none⟩) 0 0, .slice A l.length c]).run P w = .ok (.slice A2 l.length c2) w' ∧ w'.ownsRow g e size (.slice A2 l.length c2) l.length (l.flatMap cs) ∧ Below w.heap.size w w' := by
  by_cases h0 : l = []
  · subst h0
    refine ⟨some ⟨g, 0, none⟩, 0, w, ?_, ⟨by simp, .inr ⟨g, 0, #[], rfl, Nat.le_refl _, hg, by simp, by unfold maxLen; omega, by simp, by simp⟩⟩, bl_refl w⟩
    cases A with
    | none => simp [Builtin.append_, run_underlying ht, sizeOf, typeInfo, hi, Builtin.lenOf, Builtin.firstCells, storeCells, loadCells, loadCellsFrom]
    | some ad => simp [Builtin.append_, run_underlying ht, sizeOf, typeInfo, hi, Builtin.lenOf, Builtin.firstCells, storeCells, loadCells, loadCellsFrom]
  · obtain ⟨x, l', rfl⟩ : ∃ x l', l = x :: l' := by
      cases l with
      | nil => exact absurd rfl h0
      | cons x l' => exact ⟨x, l', rfl⟩
    obtain ⟨b, off, hA, -⟩ := hs 0 x rfl
    subst hA
    have hbd : (0 + (x :: l').length) * bytes ≤ 140737488355328 := by
      have := Nat.mul_le_mul hl hb
      rw [Nat.zero_add]
      omega
    obtain ⟨v', w', r1, r2, r3⟩ := run_append_arg_grows (P := P) w t ty e i z size bytes ht hi hz hsize hby hzs hsz ⟨g, 0, none⟩ 0 0 [] (by simp) (by simp) ⟨b, off, none⟩ (x :: l').length c ((x :: l').flatMap cs) (flat_len' hcs _)
      (fun j u hj => by
        obtain ⟨k, y, i', h2, h3, h4⟩ := flat_at hcs hj
        obtain ⟨b', off', e1, hc⟩ := hs k y h2
        injection e1 with e1
        injection e1 with e1 e2 _
        subst e1 e2
        have := hc i' u h3
        rw [h4]
        have hadd : (⟨b, off, none⟩ : Addr).add (k * size + i') = ⟨b, off + k * size + i', none⟩ := by unfold Addr.add; split <;> simp_all [Nat.add_assoc]
        rw [hadd]
        exact this) (by simp) (by unfold maxLen; omega) hbd
    have hw := hg.lt
    rw [Nat.zero_add, List.nil_append] at r2
    rcases r2.2 with ⟨_, e0⟩ | ⟨g2, cap, cur, e1, e2, e3⟩
    · simp at e0
    · subst e1
      exact ⟨_, _, w', r1, own_mono (by omega) r2, ⟨r3.os, r3.tape, r3.output, r3.size, fun k hk => r3.block k hk (by simp)⟩⟩
theorem wp_copy {o : Oper} {a : Act} {K : Act → World → Prop} {Q : Exit → Act → World → Prop} (s x : Operand) (ho : o.op = .call { callee := .builtin .append, args := #[s, x], argTypes := #[t, t] })
    (ht : P.underlying t = some (.slice e)) (hi : P.info? e = some i) (hz : i.zero = some z) (hsize : i.size = size) (hby : i.bytes = bytes) (hzs : z.cells.size = size) (hsz : 0 < size)
    (hcs : ∀ x, (cs x).length = size) (h1 : ∀ x, ∀ u ∈ cs x, u.oneCell' = true) (hs' : a.eval s = .slice (some ⟨g, 0, none⟩) 0 0) (hx : a.eval x = .slice A l.length c) (hs : Sl cs size w A l) (hl : l.length ≤ 1000) (hb : bytes ≤ 1000) (hg : Blk w g e #[])
    (h : ∀ A2 c2 w', w'.ownsRow g e size (.slice A2 l.length c2) l.length (l.flatMap cs) → Below w.heap.size w w' → K (a.put o.dst (.slice A2 l.length c2)) w') : o.wp P a w K Q := by
  obtain ⟨A2, c2, w', hr, h2, h3⟩ := run_copy (P := P) o.type ht hi hz hsize hby hzs hsz hcs h1 hs hl hb hg (c := c)
  unfold Oper.wp execOp
  simp only [ho, resolve, invoke, builtin, Sem.run_bind, Sem.run_pure, Result.andThen_ok, List.map_toArray, List.map_cons, List.map_nil, hs', hx, hr]
  exact h _ _ _ h2 h3
end
theorem infoRd : (Tryz.prog.info? 87).map (fun i => (i.zero, i.size, i.bytes)) = some (some (.agg #[.int .i64 0, .int .i64 0, .int .i64 0, .int .i64 0]), 4, 32) := by kernel_rfl
theorem infoBc : (Tryz.prog.info? 142).map (fun i => (i.zero, i.size, i.bytes)) = some (some (.agg #[.string ByteArray.empty, .int .i64 0, .int .i64 0, .int .i64 0]), 4, 40) := by kernel_rfl
/-- A slice of the call's own with these elements. -/
def RetC {α : Type} (cs : α → List Value) (e : TypeId) (sz : Nat) (l : List α) (w : World) (x : Ending) (w' : World) : Prop :=
  ∃ A c, x = .returned (.slice A l.length c) ∧ Below w.heap.size w w' ∧ w'.ownsRow w.heap.size e sz (.slice A l.length c) l.length (l.flatMap cs)
set_option maxHeartbeats 4000000 in
theorem r_CopyReadings (l : List Rd) (A : Option Addr) (c : Nat) (w : World) (hl : Sl cRd 4 w A l) (hll : l.length ≤ 1000) :
    Calls Tryz.prog 98 #[.slice A l.length c] w (RetC cRd 87 4 l w) := by
  obtain ⟨i0, hi0, hz0, hz1, hz2⟩ := info_parts infoRd
  have Hl := Lib.hid hl
  clear hl
  go_enter Tryz.func98, Tryz.ntmps98
  go_wp2_with (at_builtin; refine wpList_plain rfl fun K hK => wp_copy _ _ rfl Tryz.underlying45 hi0 hz0 hz1 hz2 rfl (by decide) (fun _ => rfl) (fun x u hu => by simp [cRd] at hu; rcases hu with h | h | h | h <;> subst h <;> rfl) rfl rfl (Hl.out.below (bl_al _ (bl_refl w))) hll (by decide) (Blk.new w _ _) ?_; intro A2 c2 w4 hox hb4; refine hK _ _ ?_; clear hK)
  go_ret
  exact ⟨A2, c2, rfl, bl_tr (bl_al _ (bl_refl w)) hb4, hox⟩
set_option maxHeartbeats 4000000 in
theorem r_CopyNet (n : Nt) (A : Option Addr) (c : Nat) (w : World) (hn : NtIn n A c w) :
    Calls Tryz.prog 10 #[vNt n.world (.slice A n.bs.length c)] w (fun x w' => ∃ A2 c2, x = .returned (vNt n.world (.slice A2 n.bs.length c2)) ∧ Below w.heap.size w w' ∧ NtIn n A2 c2 w') := by
  obtain ⟨i0, hi0, hz0, hz1, hz2⟩ := info_parts infoBc
  have Hn := Lib.hid hn
  have hll := hn.len
  clear hn
  go_enter Tryz.func10, Tryz.ntmps10
  go_wp2
  apply absB2 (w0 := w) (g0 := w.heap.size) (g1 := w.heap.size + 1)
  iterate 3 (focus ((with_reducible (repeat' (first | assumption | apply jA | apply jB | apply jC | apply jD | apply jE | apply jF | apply hb3 | apply jG | apply jH | apply jI | apply jJ | apply jK | apply hb3x | (apply jL; first | (simp; done) | rfl) | apply jM | apply jN | apply jO | apply jP | apply jQ | apply jR | apply jS | apply jT (hb := hb3 _ (jA _)) | omega | (simp; done) | (simp; omega) | (dsimp only; omega)))); done))
  intro wa hb0' k0' k1'
  (try simp only [List.setIfInBounds_toArray, List.set_cons_zero, List.set_cons_succ] at k0' k1')
  try clear hb3
  try clear hb0
  try clear k0
  try clear k1
  have hb0 := hb0'; clear hb0'
  have k0 := k0'; clear k0'
  have k1 := k1'; clear k1'
  have Lk0 := k0.later
  have Fk0 := k0.laterF
  have Qk0 := k0.lt
  have Lk1 := k1.later
  have Fk1 := k1.laterF
  have Qk1 := k1.lt
  refine wp_any (w0 := wa) ⟨[7], [], [some 3, some 4, some 5, some 6, some 7, some 8, some 9, none], [[], [0], [], [], [3], [2, 3, 4], [0, 1, 2, 3, 4, 5], [0, 1, 2, 3, 4, 5, 6]], [[], [0], [], [], [3], [2, 4], [1, 2, 5], []]⟩ (fun _ => [w.heap.size + 1]) (by kernel_rfl) (by kernel_rfl) (by (with_reducible (repeat' (first | assumption | apply jA | apply jB | apply jC | apply jD | apply jE | apply jF | apply hb3 | omega | (simp; done) | (simp; omega) | (dsimp only; omega))))) (fun u => by simp only [putD, Act.put, List.setIfInBounds_toArray, List.set_cons_zero, List.set_cons_succ, Nat.zero_add, Nat.reduceAdd]; rfl) ?_
  apply RGW.on (i := 0) rfl
  · (simp only [gA, gB, gC] <;> rfl)
  · intro γ u W hcur hd
    clear hd
    (try dsimp only)
    refine ⟨rfl, ?_⟩
    go_simp <;> (try go_bits) <;> with_reducible rfl
  · exact fun _ _ _ => rfl
  · rfl
  dsimp only [nA, cA]
  apply RGW.on (i := 1) rfl
  · (simp only [gA, gB, gC] <;> rfl)
  · intro γ u W hcur hd
    obtain ⟨⟨h0, -, -⟩, -⟩ := hd
    dsimp only at h0
    (try simp only [h0])
    refine ⟨rfl, ?_⟩
    go_simp <;> (try go_bits) <;> with_reducible rfl
  · exact fun _ _ _ => rfl
  · rfl
  dsimp only [nA, cA]
  apply RGW.bslice (i := 2) rfl
  · (simp only [gA, gB, gC] <;> rfl)
  · intro γ u W hcur hd
    clear hd
    (try dsimp only)
    refine ⟨rfl, fun K hK => ?_⟩
    go_simp
    exact hK.out _ _ rfl rfl
  · exact fun _ _ _ => rfl
  · rfl
  · rfl
  dsimp only [nA, cA]
  apply RGW.on (i := 3) rfl
  · (simp only [gA, gB, gC] <;> rfl)
  · intro γ u W hcur hd
    clear hd
    (try dsimp only)
    refine ⟨rfl, ?_⟩
    go_simp <;> (try go_bits) <;> with_reducible rfl
  · exact fun _ _ _ => rfl
  · rfl
  dsimp only [nA, cA]
  apply RGW.on (i := 4) rfl
  · (simp only [gA, gB, gC] <;> rfl)
  · intro γ u W hcur hd
    obtain ⟨⟨h3, -, -⟩, -⟩ := hd
    dsimp only at h3
    (try simp only [h3])
    refine ⟨rfl, ?_⟩
    go_simp <;> (try go_bits) <;> with_reducible rfl
  · exact fun _ _ _ => rfl
  · rfl
  dsimp only [nA, cA]
  apply RGW.gh (⟨fun γ => .slice (γ 5).A n.bs.length (γ 5).c, fun γ W => W.ownsRow (w.heap.size + 2) 142 4 (.slice (γ 5).A n.bs.length (γ 5).c) n.bs.length (n.bs.flatMap cBc), fun _ => []⟩) (i := 5) rfl
  · (simp only [gA, gB, gC] <;> rfl)
  · intro γ u W hcur hd
    obtain ⟨⟨h2, r2, b2⟩, ⟨h4, -, -⟩, -⟩ := hd
    dsimp only at h2 h4 r2 b2
    have L2 := r2.cell
    (try simp only [h2, h4])
    refine ⟨rfl, fun K hK => ?_⟩
    (refine wp_copy _ _ rfl Tryz.underlying26 hi0 hz0 hz1 hz2 rfl (by decide) (fun _ => rfl) (fun x u hu => by simp [cBc] at hu; rcases hu with h | h | h | h <;> subst h <;> rfl) rfl rfl ((Hn.out.sl.below hb0).below hcur) hll (by decide) r2 ?_; intro A2 c2 w4 hox hb4; exact hK.out ⟨0, undef, A2, c2⟩ _ _ (by simp [up]) hb4 (by simpa [up] using own_mono (Nat.le_trans Qk1 (b2 _ (List.mem_singleton.2 rfl)).1) hox) (by simp))
  · intro γ γ' hg
    try dsimp only
    have e2 := hg 2 (by decide)
    have e5 := hg 5 (by decide)
    simp only [e2, e5]
    try exact ⟨trivial, fun _ h => h⟩
  · intro γ W W' hbl hR
    first | exact hR.below hbl | exact own_below hR hbl | exact trivial | exact ⟨hR.1.below hbl, hR.2⟩
  · rfl
  dsimp only [nA, cA]
  apply RGW.on (i := 6) rfl
  · (simp only [gA, gB, gC] <;> rfl)
  · intro γ u W hcur hd
    obtain ⟨⟨h1, -, -⟩, ⟨h2, r2, -⟩, ⟨h5, r5, -⟩, -⟩ := hd
    dsimp only at h1 h2 h5 r2 r5
    have L2 := r2.cell
    (try simp only [h1, h2, h5])
    refine ⟨rfl, ?_⟩
    go_simp <;> (try go_bits) <;> with_reducible rfl
  · intro γ γ' hg
    try dsimp only
    have e2 := hg 2 (by decide)
    have e5 := hg 5 (by decide)
    simp only [e2, e5]
  · rfl
  dsimp only [nA, cA]
  refine RGW.skip (i := 7) rfl rfl ?_
  dsimp only [nA, cA]
  refine RGW.fin (fun γ u wb hwb hd hdis => ?_)
  obtain ⟨⟨h0, -, -⟩, ⟨h1, -, -⟩, ⟨h2, r2, b2⟩, ⟨h3, -, -⟩, ⟨h4, -, -⟩, ⟨h5, r5, b5⟩, ⟨h6, -, -⟩, -⟩ := hd
  dsimp only at h0 h1 h2 h3 h4 h5 h6 r2 r5 b2 b5
  clear hdis
  simp only [h0, h1, h2, h3, h4, h5, h6]
  clear h6 h5 h4 h3 h2 h1 h0
  replace b2 := b2 _ (List.mem_singleton.2 rfl)
  generalize hγ2 : (γ 2).n = g2 at *
  clear hγ2
  clear u
  simp only [List.map_cons, List.map_nil]
  apply PlanW.step
  · (simp only [gA, gB, gC] <;> rfl)
  · rfl
  intro K hK
  refine wp_store_keep (X := [w.heap.size + 1]) (w0 := wb) rfl rfl rfl (by with_reducible first | exact bx_refl _ _ | assumption) (by with_reducible first | assumption | (apply Blk.below (hb := hwb); assumption)) (by simp) (by kernel_rfl) (by rfl) (by simp [Value.oneCell']) (fun hres1 hcur => ?_)
  refine hK.out _ _ hcur (fun _ => ?_)
  clear hK K
  try simp only [Act.put, List.setIfInBounds_toArray, List.set_cons_zero, List.set_cons_succ]
  refine PlanW.done ?_
  have hb3 := bl_tt hwb
  have hox := Lib.hid r5
  clear r5
  generalize (γ 5).A = A2 at *
  generalize (γ 5).c = c2 at *
  have hb1 := hb3 _ hb0
  go_wp2
  have hr := hres1.cell
  have hbe := bx_below hb1 hcur (by simp)
  refine bodyPost_ret (v := vNt n.world (.slice A2 n.bs.length c2)) (by simp [results, Tryz.results10, go_sem, hr]) rfl ⟨A2, c2, rfl, hbe, ?_⟩
  have h3 := own_bx hox.out hcur (by simp)
  refine ⟨Hn.out.len, ?_, Hn.out.nm, own_slC (cs := cBc) (fun _ => rfl) (by decide) h3⟩
  rcases h3.2 with ⟨e, h⟩ | ⟨_, _, _, e, _, _, h, _⟩
  · omega
  · injection e with _ _ e
    omega
end Go.Proofs.YtephimmamkafoaaGreat
namespace Go.Proofs.YtephimmamkafoaaGreat
open Go.RowKit
attribute [local go_sem] bl_al bl_drew bl_drewN bl_refl bx_al bx_drew bx_drewN bx_refl
set_option maxRecDepth 20000
/-- Whether two lists of numbers are equal. -/
def intsB (a b : List Int) : Bool := decide (a = b)
theorem take_step {a b : List Int} {k : Nat} {x : Int} (ha : a[k]? = some x) (hb : b[k]? = some x) (h : a.take k = b.take k) : a.take (k + 1) = b.take (k + 1) := by
  rw [List.take_add_one, List.take_add_one, ha, hb, h]
set_option maxHeartbeats 4000000 in
theorem r_Ints (a b : List Int) (A B : Option Addr) (c d : Nat) (w : World) (ha : Sl cI 1 w A a) (hb : Sl cI 1 w B b) (h1 : a.length ≤ 1000) (h2 : b.length ≤ 1000) :
    Calls Tryz.prog 42 #[.slice A a.length c, .slice B b.length d] w (Ret (.bool (intsB a b)) w) := by
  have Ha := Lib.hid ha
  have Hb := Lib.hid hb
  clear ha hb
  by_cases hl : a.length = b.length
  · obtain ⟨n, Hn⟩ : ∃ n, Hid (a.length = n) := ⟨_, rfl⟩
    have Hm : Hid (b.length = n) := Lib.hid (by rw [← hl]; exact Hn.out)
    rw [Hn.out] at h1 ⊢
    rw [Hm.out]
    clear hl h2
    go_enter Tryz.func42, Tryz.ntmps42
    go_wp2
    go_loopw [5] (fun i wr => ∃ k : Nat, k ≤ n ∧ i = .int .i64 k ∧ Below w.heap.size w wr ∧ a.take k = b.take k) (fun i _ => n - (intOf i).toNat)
    case atStart => exact ⟨0, Nat.zero_le _, rfl, Below.refl _ _, rfl⟩
    case round =>
      obtain ⟨k, hk, rfl, hbw, hi⟩ := hrel
      replace hi := Lib.hid hi
      by_cases hlt : k < n
      · have hx : a[k]? = some (a[k]'(by rw [Hn.out]; exact hlt)) := List.getElem?_eq_getElem _
        generalize a[k]'(by rw [Hn.out]; exact hlt) = x at hx
        have hy : b[k]? = some (b[k]'(by rw [Hm.out]; exact hlt)) := List.getElem?_eq_getElem _
        generalize b[k]'(by rw [Hm.out]; exact hlt) = y at hy
        obtain ⟨ba, oa, hA, hca⟩ := Ha.out k x hx
        obtain ⟨bb, ob, hB, hcb⟩ := Hb.out k y hy
        have c0 : ∀ W, Below wr.heap.size wr W → W.cell? ⟨ba, oa + k, none⟩ = some (.int .i64 x) := later (by have := kcell hbw (hca 0 _ rfl); simpa using this)
        have c1 : ∀ W, Below wr.heap.size wr W → W.cell? ⟨bb, ob + k, none⟩ = some (.int .i64 y) := later (by have := kcell hbw (hcb 0 _ rfl); simpa using this)
        clear hca hcb
        have hnx : Hid (x = y → a.take (k + 1) = b.take (k + 1)) := fun h => take_step hx (h ▸ hy) hi.out
        have hno : Hid (x ≠ y → intsB a b = false) := fun h => by
          unfold intsB
          rw [decide_eq_false_iff_not]
          intro e
          rw [e, hy] at hx
          exact h (by injection hx with hx; exact hx.symm)
        clear hx hy
        subst hA hB
        go_wp2
        refine wp_any (w0 := wr) ⟨[], [], [some 17, some 18, some 19, some 20, some 21, some 22, some 23, some 24, some 25], [[], [], [0, 1], [0, 1, 2], [], [], [4, 5], [4, 5, 6], [0, 1, 2, 3, 4, 5, 6, 7]], [[], [], [0, 1], [2], [], [], [4, 5], [6], [3, 7]]⟩ (fun _ => []) (by kernel_rfl) (by kernel_rfl) (by (with_reducible (repeat' (first | assumption | apply jA | apply jB | apply jC | apply jD | apply jE | apply jF | apply hb3 | omega | (simp; done) | (simp; omega) | (dsimp only; omega))))) (fun u => by simp only [putD, Act.put, List.setIfInBounds_toArray, List.set_cons_zero, List.set_cons_succ, Nat.zero_add, Nat.reduceAdd]; rfl) ?_
        apply RGW.on (i := 0) rfl
        · (simp only [gA, gB, gC] <;> rfl)
        · intro γ u W hcur hd
          clear hd
          (try dsimp only)
          refine ⟨rfl, ?_⟩
          go_simp <;> (try go_bits) <;> with_reducible rfl
        · exact fun _ _ _ => rfl
        · rfl
        dsimp only [nA, cA]
        apply RGW.on (i := 1) rfl
        · (simp only [gA, gB, gC] <;> rfl)
        · intro γ u W hcur hd
          clear hd
          (try dsimp only)
          refine ⟨rfl, ?_⟩
          go_simp <;> (try go_bits) <;> with_reducible rfl
        · exact fun _ _ _ => rfl
        · rfl
        dsimp only [nA, cA]
        apply RGW.on (i := 2) rfl
        · (simp only [gA, gB, gC] <;> rfl)
        · intro γ u W hcur hd
          obtain ⟨⟨h0, -, -⟩, ⟨h1, -, -⟩, -⟩ := hd
          dsimp only at h0 h1
          (try simp only [h0, h1])
          refine ⟨rfl, ?_⟩
          go_simp <;> (try go_bits) <;> with_reducible rfl
        · exact fun _ _ _ => rfl
        · rfl
        dsimp only [nA, cA]
        apply RGW.on (i := 3) rfl
        · (simp only [gA, gB, gC] <;> rfl)
        · intro γ u W hcur hd
          obtain ⟨⟨h2, -, -⟩, -⟩ := hd
          dsimp only at h2
          (try simp only [h2])
          refine ⟨rfl, ?_⟩
          go_simp <;> (try go_bits) <;> with_reducible rfl
        · exact fun _ _ _ => rfl
        · rfl
        dsimp only [nA, cA]
        apply RGW.on (i := 4) rfl
        · (simp only [gA, gB, gC] <;> rfl)
        · intro γ u W hcur hd
          clear hd
          (try dsimp only)
          refine ⟨rfl, ?_⟩
          go_simp <;> (try go_bits) <;> with_reducible rfl
        · exact fun _ _ _ => rfl
        · rfl
        dsimp only [nA, cA]
        apply RGW.on (i := 5) rfl
        · (simp only [gA, gB, gC] <;> rfl)
        · intro γ u W hcur hd
          clear hd
          (try dsimp only)
          refine ⟨rfl, ?_⟩
          go_simp <;> (try go_bits) <;> with_reducible rfl
        · exact fun _ _ _ => rfl
        · rfl
        dsimp only [nA, cA]
        apply RGW.on (i := 6) rfl
        · (simp only [gA, gB, gC] <;> rfl)
        · intro γ u W hcur hd
          obtain ⟨⟨h4, -, -⟩, ⟨h5, -, -⟩, -⟩ := hd
          dsimp only at h4 h5
          (try simp only [h4, h5])
          refine ⟨rfl, ?_⟩
          go_simp <;> (try go_bits) <;> with_reducible rfl
        · exact fun _ _ _ => rfl
        · rfl
        dsimp only [nA, cA]
        apply RGW.on (i := 7) rfl
        · (simp only [gA, gB, gC] <;> rfl)
        · intro γ u W hcur hd
          obtain ⟨⟨h6, -, -⟩, -⟩ := hd
          dsimp only at h6
          (try simp only [h6])
          refine ⟨rfl, ?_⟩
          go_simp <;> (try go_bits) <;> with_reducible rfl
        · exact fun _ _ _ => rfl
        · rfl
        dsimp only [nA, cA]
        apply RGW.on (i := 8) rfl
        · (simp only [gA, gB, gC] <;> rfl)
        · intro γ u W hcur hd
          obtain ⟨⟨h3, -, -⟩, ⟨h7, -, -⟩, -⟩ := hd
          dsimp only at h3 h7
          (try simp only [h3, h7])
          refine ⟨rfl, ?_⟩
          go_simp <;> (try go_bits) <;> with_reducible rfl
        · exact fun _ _ _ => rfl
        · rfl
        dsimp only [nA, cA]
        refine RGW.fin (fun γ u wj hwj hd hdis => ?_)
        obtain ⟨⟨h0, -, -⟩, ⟨h1, -, -⟩, ⟨h2, -, -⟩, ⟨h3, -, -⟩, ⟨h4, -, -⟩, ⟨h5, -, -⟩, ⟨h6, -, -⟩, ⟨h7, -, -⟩, ⟨h8, -, -⟩, -⟩ := hd
        dsimp only at h0 h1 h2 h3 h4 h5 h6 h7 h8
        clear hdis
        simp only [h0, h1, h2, h3, h4, h5, h6, h7, h8]
        clear h8 h7 h6 h5 h4 h3 h2 h1 h0
        clear u
        simp only [List.map_nil]
        refine PlanW.done ?_
        have hb3 := bl_tt hwj
        have hbj := bl_tr hbw hwj
        by_cases hxy : x = y
        · have e : (x != y) = false := by simp [hxy]
          have h' := Lib.hid (hnx.out hxy)
          clear hxy hnx hno
          go_wp2
          go_roundw
          case rel => exact ⟨k + 1, by omega, by go_num, hbj, h'.out⟩
          case measure => simp [intOf]; omega
        · have e : (x != y) = true := by simp [hxy]
          have h' := Lib.hid (hno.out hxy)
          clear hxy hnx hno
          go_wp2
          go_ret
          exact ⟨by rw [h'.out] <;> rfl, hbj⟩
      · go_wp2
        go_ret
        have hkn : k = n := by omega
        have e : intsB a b = true := by
          unfold intsB
          rw [decide_eq_true_eq]
          have := hi.out
          rw [hkn, List.take_of_length_le (by rw [Hn.out]; exact Nat.le_refl _), List.take_of_length_le (by rw [Hm.out]; exact Nat.le_refl _)] at this
          exact this
        exact ⟨by rw [e] <;> rfl, hbw⟩
  · have e : Hid (intsB a b = false) := by
      refine Lib.hid ?_
      unfold intsB
      rw [decide_eq_false_iff_not]
      intro h
      exact hl (by rw [h])
    have e' : ((a.length : Int) != (b.length : Int)) = true := by simp; omega
    clear hl
    generalize a.length = n at *
    generalize b.length = m at *
    go_enter Tryz.func42, Tryz.ntmps42
    go_wp2
    go_ret
    exact ⟨by rw [e.out] <;> rfl, bl_refl _⟩
end Go.Proofs.YtephimmamkafoaaGreat
