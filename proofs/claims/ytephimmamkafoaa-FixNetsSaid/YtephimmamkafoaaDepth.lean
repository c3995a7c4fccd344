/-
  Walks: the depth for ranges of pressure and density.
-/
import Derived.Test.YtephimmamkafoaaAbs
import Derived.Test.YtephimmamkafoaaHas
namespace Go.Proofs.Ytephimmamkafoaa
set_option linter.unusedSimpArgs false
set_option linter.unusedVariables false
open Go.RowKit Go.Shelf
attribute [local go_sem] bl_al bl_drew bl_drewN bl_refl bx_al bx_drew bx_drewN bx_refl
set_option maxRecDepth 20000
def insd (r : Rg) (lo hi : Int) : Bool := inR r.lo lo hi && inR r.hi lo hi
def depthErr (p d : Rg) : Int := fstE [unl (insd p 0 1000000 && insd d 1 2000) 2, unl (decide (p.lo ≤ p.hi) && decide (d.lo ≤ d.hi)) 9]
def depth (p d : Rg) : Rg := ⟨p.lo * 1000 / d.hi, (p.hi * 1000 + d.lo - 1) / d.lo⟩
def depthS (p d : Rg) : Rg × Int := if depthErr p d = 0 then (depth p d, 0) else (⟨0, 0⟩, depthErr p d)
set_option maxHeartbeats 1000000 in
theorem c_insd (r : Rg) (lo hi : Int) (w : World) : Calls Try.prog 73 #[vRg r, .int .i64 lo, .int .i64 hi] w (Ret (.bool (insd r lo hi)) w) := by
  unfold insd
  cases hA : inR r.lo lo hi
  all_goals
    replace hA := Lib.hid hA
    go_enter Try.func73, Try.ntmps73
    go_wp2_with (go_at_call 74; (with_reducible refine (c_within _ _ _ _).mono ?_); rintro e w3 ⟨rfl, rfl⟩; (try rw [hA.out]))
    go_ret
    exact ⟨by simp, by solve_by_elim (maxDepth := 60) only [bl_al, bl_drew, bl_drewN, bl_refl, *]⟩
set_option maxHeartbeats 4000000 in
theorem c_DepthIn (p d : Rg) (w : World) : Calls Try.prog 14 #[vRg p, vRg d] w (Ret (.tuple #[vRg (depthS p d).1, .int .i64 (depthS p d).2]) w) := by
  have hs1 : Hid (depthErr p d = 0 → depthS p d = (depth p d, 0)) := fun h => by simp [depthS, h]
  have hs2 : Hid (depthErr p d ≠ 0 → depthS p d = (⟨0, 0⟩, depthErr p d)) := fun h => by simp [depthS, h]
  have hdz : Hid (depthErr p d = 0 → (insd p 0 1000000 = true ∧ insd d 1 2000 = true)) := fun h => by
    unfold depthErr at h
    by_cases h1 : (insd p 0 1000000 && insd d 1 2000) = true
    · simpa using h1
    · simp [fstE, unl, h1] at h
  have hde : Hid (depthErr p d = fstE [unl (insd p 0 1000000 && insd d 1 2000) 2, unl (decide (p.lo ≤ p.hi) && decide (d.lo ≤ d.hi)) 9]) := rfl
  obtain ⟨bA, hA⟩ : ∃ b, insd p 0 1000000 = b := ⟨_, rfl⟩
  obtain ⟨bB, hB⟩ : ∃ b, decide (p.lo ≤ p.hi) = b := ⟨_, rfl⟩
  have hcp := Lib.hid fun W : World => hA ▸ c_insd p 0 1000000 W
  rw [hA, hB] at hde
  replace hA := Lib.hid hA
  cases bA
  all_goals cases bB
  all_goals
    replace hde : Hid (depthErr p d = _) := Lib.hid hde.out
    simp only [Bool.false_and, Bool.true_and] at hde
    go_enter Try.func14, Try.ntmps14
    go_wp2
    first
    | apply absB3 (w0 := w) (g0 := w.heap.size) (g1 := w.heap.size + 1) (g2 := w.heap.size + 2)
    | apply absTB3 (w0 := w) (g0 := w.heap.size) (g1 := w.heap.size + 1) (g2 := w.heap.size + 2)
    | apply absIB3 (w0 := w) (g0 := w.heap.size) (g1 := w.heap.size + 1) (g2 := w.heap.size + 2)
    iterate 4 (focus ((with_reducible (repeat' (first | assumption | apply bl_refl | apply bl_al | apply bl_drew | apply bl_drewN | (apply bl_set; case hp => (first | (simp; done) | (simp; omega) | (dsimp only; omega))) | (apply bl_row; case hg => (first | (simp; done) | (simp; omega) | omega)) | apply hb3 | apply bx_refl | (apply bx_set; case hp => (first | exact Or.inl (by simp; done) | exact Or.inr (by first | (simp; done) | (simp; omega) | (dsimp only; omega)))) | apply bx_drew | apply bx_al | apply bx_drewN | apply hb3x | (apply Blk.newAt; first | (simp; done) | rfl) | apply Blk.alloc | apply Blk.drew | apply Blk.drewN | apply Blk.set | (apply Blk.other; case hne => first | assumption | (simp; done) | (simp; omega) | omega) | apply Blk.row | (apply Blk.rowOther; case hne => first | assumption | (simp; done) | (simp; omega) | omega) | apply Blk.below (hb := hb3 _ (bl_refl _))))); done))
    intro wb hb0' k0' k1' k2'
    (try simp only [List.setIfInBounds_toArray, List.set_cons_zero, List.set_cons_succ] at k0' k1' k2')
    try clear hb3
    try clear hb0
    try clear k0
    try clear k1
    try clear k2
    have hb0 := hb0'; clear hb0'
    have k0 := k0'; clear k0'
    have k1 := k1'; clear k1'
    have k2 := k2'; clear k2'
    have Lk0 := k0.later
    have Fk0 := k0.laterF
    have Qk0 := k0.lt
    have Lk1 := k1.later
    have Fk1 := k1.laterF
    have Qk1 := k1.lt
    have Lk2 := k2.later
    have Fk2 := k2.laterF
    have Qk2 := k2.lt
    refine wp_any (w0 := wb) ⟨[], [], [some 8, some 9, some 10, some 11, some 12, some 13, some 14, some 15, some 16, some 17, some 18, some 19, some 20, some 21, some 22, some 23, some 24, some 25, some 26, some 27, some 28, some 29, some 30, some 31, some 7], [[], [], [0, 1], [0, 1, 2], [0, 1, 2, 3], [0, 1, 2, 3], [0, 1, 2, 3, 4, 5], [0, 1, 2, 3, 4, 5, 6], [0, 1, 2, 3, 4, 5, 6, 7], [], [9], [], [11], [9, 10, 11, 12], [0, 1, 2, 3, 4, 5, 6, 7, 8, 9, 10, 11, 12, 13], [0, 1, 2, 3, 4, 5, 6, 7, 8, 9, 10, 11, 12, 13, 14], [0, 1, 2, 3, 4, 5, 6, 7, 8, 9, 10, 11, 12, 13, 14, 15], [0, 1, 2, 3, 4, 5, 6, 7, 8, 9, 10, 11, 12, 13, 14], [0, 1, 2, 3, 4, 5, 6, 7, 8, 9, 10, 11, 12, 13, 14, 17], [0, 1, 2, 3, 4, 5, 6, 7, 8, 9, 10, 11, 12, 13, 14, 15, 16, 17, 18], [0, 1, 2, 3, 4, 5, 6, 7, 8, 9, 10, 11, 12, 13, 14, 15, 16, 17, 18, 19], [0, 1, 2, 3, 4, 5, 6, 7, 8, 9, 10, 11, 12, 13, 14, 15, 16, 17, 18, 19, 20], [0, 1, 2, 3, 4, 5, 6, 7, 8, 9, 10, 11, 12, 13, 14, 15, 16, 17, 18, 19, 20, 21], [0, 1, 2, 3, 4, 5, 6, 7, 8, 9, 10, 11, 12, 13, 14, 15, 16, 17, 18, 19, 20, 21, 22], [0, 1, 2, 3, 4, 5, 6, 7, 8, 9, 10, 11, 12, 13, 14, 15, 16, 17, 18, 19, 20, 21, 22, 23]], [[], [], [0, 1], [2], [3], [3], [3, 4, 5], [3, 6], [7], [], [9], [], [11], [10, 12], [13], [14], [14, 15], [14], [14, 17], [14, 16, 18], [14, 19], [20], [8, 21], [22], [22, 23]]⟩ (fun _ => []) (by kernel_rfl) (by kernel_rfl) (by (with_reducible (repeat' (first | assumption | apply bl_refl | apply bl_al | apply bl_drew | apply bl_drewN | (apply bl_set; case hp => (first | (simp; done) | (simp; omega) | (dsimp only; omega))) | (apply bl_row; case hg => (first | (simp; done) | (simp; omega) | omega)) | apply hb3)))) (fun u => by simp only [putD, Act.put, List.setIfInBounds_toArray, List.set_cons_zero, List.set_cons_succ, Nat.zero_add, Nat.reduceAdd]; rfl) ?_
    apply RGW.on (i := 0) rfl
    · (simp only [List.getElem?_toArray, List.getElem?_cons_succ, List.getElem?_cons_zero] <;> rfl)
    · intro γ u W hcur hd
      clear hd
      (try dsimp only)
      refine ⟨rfl, ?_⟩
      go_simp <;> (try go_bits) <;> with_reducible rfl
    · first
      | exact fun _ _ _ => rfl
    · rfl
    dsimp only [List.nil_append, List.cons_append]
    apply RGW.on (i := 1) rfl
    · (simp only [List.getElem?_toArray, List.getElem?_cons_succ, List.getElem?_cons_zero] <;> rfl)
    · intro γ u W hcur hd
      clear hd
      (try dsimp only)
      refine ⟨rfl, ?_⟩
      go_simp <;> (try go_bits) <;> with_reducible rfl
    · first
      | exact fun _ _ _ => rfl
    · rfl
    dsimp only [List.nil_append, List.cons_append]
    apply RGW.call (i := 2) rfl
    · (simp only [List.getElem?_toArray, List.getElem?_cons_succ, List.getElem?_cons_zero] <;> rfl)
    · intro γ u W hcur hd
      obtain ⟨⟨h0, -, -⟩, ⟨h1, -, -⟩, -⟩ := hd
      dsimp only at h0 h1
      (try simp only [h0, h1])
      refine ⟨rfl, fun K hK => ?_⟩
      go_simp
      (first | (go_at_call 73; (first | (with_reducible refine (hcp.out _).mono ?_) | (with_reducible refine (c_insd d 1 2000 _).mono ?_)); rintro e w3 ⟨rfl, hb3⟩; replace hb3 := bl_tt hb3) | (go_at_call 61; (with_reducible refine (c_unless _ _ _).mono ?_); rintro e w3 ⟨rfl, rfl⟩) | (go_at_call 60; (with_reducible refine (c_first2 (by assumption)).mono ?_); rintro e w3 ⟨rfl, rfl⟩))
      (try dsimp only)
      exact hK.out _ _ rfl (by (with_reducible (repeat' (first | assumption | apply bl_refl | apply bl_al | apply bl_drew | apply bl_drewN | (apply bl_set; case hp => (first | (simp; done) | (simp; omega) | (dsimp only; omega))) | (apply bl_row; case hg => (first | (simp; done) | (simp; omega) | omega)) | apply hb3))))
    · first
      | exact fun _ _ _ => rfl
    · rfl
    dsimp only [List.nil_append, List.cons_append]
    apply RGW.on (i := 3) rfl
    · (simp only [List.getElem?_toArray, List.getElem?_cons_succ, List.getElem?_cons_zero] <;> rfl)
    · intro γ u W hcur hd
      obtain ⟨⟨h2, -, -⟩, -⟩ := hd
      dsimp only at h2
      (try simp only [h2])
      refine ⟨rfl, ?_⟩
      go_simp <;> (try go_bits) <;> with_reducible rfl
    · first
      | exact fun _ _ _ => rfl
    · rfl
    dsimp only [List.nil_append, List.cons_append]
    first
    | apply RGW.on (i := 4) rfl
      · (simp only [List.getElem?_toArray, List.getElem?_cons_succ, List.getElem?_cons_zero] <;> rfl)
      · intro γ u W hcur hd
        obtain ⟨⟨h3, -, -⟩, -⟩ := hd
        dsimp only at h3
        (try simp only [h3])
        refine ⟨?_, ?_⟩
        · (simp [Region.wanted, yielded, *]; done)
        go_simp <;> (try go_bits) <;> with_reducible rfl
      · first
        | exact fun _ _ _ => rfl
      · rfl
    | apply RGW.off (i := 4) rfl
      · (simp only [List.getElem?_toArray, List.getElem?_cons_succ, List.getElem?_cons_zero] <;> rfl)
      · intro γ u W hcur hd
        obtain ⟨⟨h3, -, -⟩, -⟩ := hd
        dsimp only at h3
        (try simp only [h3])
        simp [Region.wanted, yielded, *]
      · rfl
    dsimp only [List.nil_append, List.cons_append]
    first
    | apply RGW.on (i := 5) rfl
      · (simp only [List.getElem?_toArray, List.getElem?_cons_succ, List.getElem?_cons_zero] <;> rfl)
      · intro γ u W hcur hd
        obtain ⟨⟨h3, -, -⟩, -⟩ := hd
        dsimp only at h3
        (try simp only [h3])
        refine ⟨?_, ?_⟩
        · (simp [Region.wanted, yielded, *]; done)
        go_simp <;> (try go_bits) <;> with_reducible rfl
      · first
        | exact fun _ _ _ => rfl
      · rfl
    | apply RGW.off (i := 5) rfl
      · (simp only [List.getElem?_toArray, List.getElem?_cons_succ, List.getElem?_cons_zero] <;> rfl)
      · intro γ u W hcur hd
        obtain ⟨⟨h3, -, -⟩, -⟩ := hd
        dsimp only at h3
        (try simp only [h3])
        simp [Region.wanted, yielded, *]
      · rfl
    dsimp only [List.nil_append, List.cons_append]
    first
    | apply RGW.call (i := 6) rfl
      · (simp only [List.getElem?_toArray, List.getElem?_cons_succ, List.getElem?_cons_zero] <;> rfl)
      · intro γ u W hcur hd
        obtain ⟨⟨h3, -, -⟩, ⟨h4, -, -⟩, ⟨h5, -, -⟩, -⟩ := hd
        dsimp only at h3 h4 h5
        (try simp only [h3, h4, h5])
        refine ⟨?_, fun K hK => ?_⟩
        · (simp [Region.wanted, yielded, *]; done)
        go_simp
        (first | (go_at_call 73; (first | (with_reducible refine (hcp.out _).mono ?_) | (with_reducible refine (c_insd d 1 2000 _).mono ?_)); rintro e w3 ⟨rfl, hb3⟩; replace hb3 := bl_tt hb3) | (go_at_call 61; (with_reducible refine (c_unless _ _ _).mono ?_); rintro e w3 ⟨rfl, rfl⟩) | (go_at_call 60; (with_reducible refine (c_first2 (by assumption)).mono ?_); rintro e w3 ⟨rfl, rfl⟩))
        (try dsimp only)
        exact hK.out _ _ rfl (by (with_reducible (repeat' (first | assumption | apply bl_refl | apply bl_al | apply bl_drew | apply bl_drewN | (apply bl_set; case hp => (first | (simp; done) | (simp; omega) | (dsimp only; omega))) | (apply bl_row; case hg => (first | (simp; done) | (simp; omega) | omega)) | apply hb3))))
      · first
        | exact fun _ _ _ => rfl
      · rfl
    | apply RGW.off (i := 6) rfl
      · (simp only [List.getElem?_toArray, List.getElem?_cons_succ, List.getElem?_cons_zero] <;> rfl)
      · intro γ u W hcur hd
        obtain ⟨⟨h3, -, -⟩, ⟨h4, -, -⟩, ⟨h5, -, -⟩, -⟩ := hd
        dsimp only at h3 h4 h5
        (try simp only [h3, h4, h5])
        simp [Region.wanted, yielded, *]
      · rfl
    dsimp only [List.nil_append, List.cons_append]
    apply RGW.on (i := 7) rfl
    · (simp only [List.getElem?_toArray, List.getElem?_cons_succ, List.getElem?_cons_zero] <;> rfl)
    · intro γ u W hcur hd
      obtain ⟨⟨h3, -, -⟩, ⟨h6, -, -⟩, -⟩ := hd
      dsimp only at h3 h6
      (try simp only [h3, h6])
      refine ⟨rfl, ?_⟩
      go_simp <;> (try go_bits) <;> with_reducible rfl
    · first
      | exact fun _ _ _ => rfl
    · rfl
    dsimp only [List.nil_append, List.cons_append]
    apply RGW.call (i := 8) rfl
    · (simp only [List.getElem?_toArray, List.getElem?_cons_succ, List.getElem?_cons_zero] <;> rfl)
    · intro γ u W hcur hd
      obtain ⟨⟨h7, -, -⟩, -⟩ := hd
      dsimp only at h7
      (try simp only [h7])
      refine ⟨rfl, fun K hK => ?_⟩
      go_simp
      (first | (go_at_call 73; (first | (with_reducible refine (hcp.out _).mono ?_) | (with_reducible refine (c_insd d 1 2000 _).mono ?_)); rintro e w3 ⟨rfl, hb3⟩; replace hb3 := bl_tt hb3) | (go_at_call 61; (with_reducible refine (c_unless _ _ _).mono ?_); rintro e w3 ⟨rfl, rfl⟩) | (go_at_call 60; (with_reducible refine (c_first2 (by assumption)).mono ?_); rintro e w3 ⟨rfl, rfl⟩))
      (try dsimp only)
      exact hK.out _ _ rfl (by (with_reducible (repeat' (first | assumption | apply bl_refl | apply bl_al | apply bl_drew | apply bl_drewN | (apply bl_set; case hp => (first | (simp; done) | (simp; omega) | (dsimp only; omega))) | (apply bl_row; case hg => (first | (simp; done) | (simp; omega) | omega)) | apply hb3))))
    · first
      | exact fun _ _ _ => rfl
    · rfl
    dsimp only [List.nil_append, List.cons_append]
    apply RGW.on (i := 9) rfl
    · (simp only [List.getElem?_toArray, List.getElem?_cons_succ, List.getElem?_cons_zero] <;> rfl)
    · intro γ u W hcur hd
      clear hd
      (try dsimp only)
      refine ⟨rfl, ?_⟩
      go_simp <;> (try go_bits) <;> with_reducible rfl
    · first
      | exact fun _ _ _ => rfl
    · rfl
    dsimp only [List.nil_append, List.cons_append]
    apply RGW.on (i := 10) rfl
    · (simp only [List.getElem?_toArray, List.getElem?_cons_succ, List.getElem?_cons_zero] <;> rfl)
    · intro γ u W hcur hd
      obtain ⟨⟨h9, -, -⟩, -⟩ := hd
      dsimp only at h9
      (try simp only [h9])
      refine ⟨rfl, ?_⟩
      go_simp <;> (try go_bits) <;> with_reducible rfl
    · first
      | exact fun _ _ _ => rfl
    · rfl
    dsimp only [List.nil_append, List.cons_append]
    apply RGW.on (i := 11) rfl
    · (simp only [List.getElem?_toArray, List.getElem?_cons_succ, List.getElem?_cons_zero] <;> rfl)
    · intro γ u W hcur hd
      clear hd
      (try dsimp only)
      refine ⟨rfl, ?_⟩
      go_simp <;> (try go_bits) <;> with_reducible rfl
    · first
      | exact fun _ _ _ => rfl
    · rfl
    dsimp only [List.nil_append, List.cons_append]
    apply RGW.on (i := 12) rfl
    · (simp only [List.getElem?_toArray, List.getElem?_cons_succ, List.getElem?_cons_zero] <;> rfl)
    · intro γ u W hcur hd
      obtain ⟨⟨h11, -, -⟩, -⟩ := hd
      dsimp only at h11
      (try simp only [h11])
      refine ⟨rfl, ?_⟩
      go_simp <;> (try go_bits) <;> with_reducible rfl
    · first
      | exact fun _ _ _ => rfl
    · rfl
    dsimp only [List.nil_append, List.cons_append]
    apply RGW.on (i := 13) rfl
    · (simp only [List.getElem?_toArray, List.getElem?_cons_succ, List.getElem?_cons_zero] <;> rfl)
    · intro γ u W hcur hd
      obtain ⟨⟨h10, -, -⟩, ⟨h12, -, -⟩, -⟩ := hd
      dsimp only at h10 h12
      (try simp only [h10, h12])
      refine ⟨rfl, ?_⟩
      go_simp <;> (try go_bits) <;> with_reducible rfl
    · first
      | exact fun _ _ _ => rfl
    · rfl
    dsimp only [List.nil_append, List.cons_append]
    apply RGW.on (i := 14) rfl
    · (simp only [List.getElem?_toArray, List.getElem?_cons_succ, List.getElem?_cons_zero] <;> rfl)
    · intro γ u W hcur hd
      obtain ⟨⟨h13, -, -⟩, -⟩ := hd
      dsimp only at h13
      (try simp only [h13])
      refine ⟨rfl, ?_⟩
      go_simp <;> (try go_bits) <;> with_reducible rfl
    · first
      | exact fun _ _ _ => rfl
    · rfl
    dsimp only [List.nil_append, List.cons_append]
    first
    | apply RGW.on (i := 15) rfl
      · (simp only [List.getElem?_toArray, List.getElem?_cons_succ, List.getElem?_cons_zero] <;> rfl)
      · intro γ u W hcur hd
        obtain ⟨⟨h14, -, -⟩, -⟩ := hd
        dsimp only at h14
        (try simp only [h14])
        refine ⟨?_, ?_⟩
        · (simp [Region.wanted, yielded, *]; done)
        go_simp <;> (try go_bits) <;> with_reducible rfl
      · first
        | exact fun _ _ _ => rfl
      · rfl
    | apply RGW.off (i := 15) rfl
      · (simp only [List.getElem?_toArray, List.getElem?_cons_succ, List.getElem?_cons_zero] <;> rfl)
      · intro γ u W hcur hd
        obtain ⟨⟨h14, -, -⟩, -⟩ := hd
        dsimp only at h14
        (try simp only [h14])
        simp [Region.wanted, yielded, *]
      · rfl
    dsimp only [List.nil_append, List.cons_append]
    first
    | apply RGW.on (i := 16) rfl
      · (simp only [List.getElem?_toArray, List.getElem?_cons_succ, List.getElem?_cons_zero] <;> rfl)
      · intro γ u W hcur hd
        obtain ⟨⟨h14, -, -⟩, ⟨h15, -, -⟩, -⟩ := hd
        dsimp only at h14 h15
        (try simp only [h14, h15])
        refine ⟨?_, ?_⟩
        · (simp [Region.wanted, yielded, *]; done)
        go_simp <;> (try go_bits) <;> with_reducible rfl
      · first
        | exact fun _ _ _ => rfl
      · rfl
    | apply RGW.off (i := 16) rfl
      · (simp only [List.getElem?_toArray, List.getElem?_cons_succ, List.getElem?_cons_zero] <;> rfl)
      · intro γ u W hcur hd
        obtain ⟨⟨h14, -, -⟩, ⟨h15, -, -⟩, -⟩ := hd
        dsimp only at h14 h15
        (try simp only [h14, h15])
        simp [Region.wanted, yielded, *]
      · rfl
    dsimp only [List.nil_append, List.cons_append]
    first
    | apply RGW.on (i := 17) rfl
      · (simp only [List.getElem?_toArray, List.getElem?_cons_succ, List.getElem?_cons_zero] <;> rfl)
      · intro γ u W hcur hd
        obtain ⟨⟨h14, -, -⟩, -⟩ := hd
        dsimp only at h14
        (try simp only [h14])
        refine ⟨?_, ?_⟩
        · (simp [Region.wanted, yielded, *]; done)
        go_simp <;> (try go_bits) <;> with_reducible rfl
      · first
        | exact fun _ _ _ => rfl
      · rfl
    | apply RGW.off (i := 17) rfl
      · (simp only [List.getElem?_toArray, List.getElem?_cons_succ, List.getElem?_cons_zero] <;> rfl)
      · intro γ u W hcur hd
        obtain ⟨⟨h14, -, -⟩, -⟩ := hd
        dsimp only at h14
        (try simp only [h14])
        simp [Region.wanted, yielded, *]
      · rfl
    dsimp only [List.nil_append, List.cons_append]
    first
    | apply RGW.on (i := 18) rfl
      · (simp only [List.getElem?_toArray, List.getElem?_cons_succ, List.getElem?_cons_zero] <;> rfl)
      · intro γ u W hcur hd
        obtain ⟨⟨h14, -, -⟩, ⟨h17, -, -⟩, -⟩ := hd
        dsimp only at h14 h17
        (try simp only [h14, h17])
        refine ⟨?_, ?_⟩
        · (simp [Region.wanted, yielded, *]; done)
        go_simp <;> (try go_bits) <;> with_reducible rfl
      · first
        | exact fun _ _ _ => rfl
      · rfl
    | apply RGW.off (i := 18) rfl
      · (simp only [List.getElem?_toArray, List.getElem?_cons_succ, List.getElem?_cons_zero] <;> rfl)
      · intro γ u W hcur hd
        obtain ⟨⟨h14, -, -⟩, ⟨h17, -, -⟩, -⟩ := hd
        dsimp only at h14 h17
        (try simp only [h14, h17])
        simp [Region.wanted, yielded, *]
      · rfl
    dsimp only [List.nil_append, List.cons_append]
    first
    | apply RGW.on (i := 19) rfl
      · (simp only [List.getElem?_toArray, List.getElem?_cons_succ, List.getElem?_cons_zero] <;> rfl)
      · intro γ u W hcur hd
        obtain ⟨⟨h14, -, -⟩, ⟨h16, -, -⟩, ⟨h18, -, -⟩, -⟩ := hd
        dsimp only at h14 h16 h18
        (try simp only [h14, h16, h18])
        refine ⟨?_, ?_⟩
        · (simp [Region.wanted, yielded, *]; done)
        go_simp <;> (try go_bits) <;> with_reducible rfl
      · first
        | exact fun _ _ _ => rfl
      · rfl
    | apply RGW.off (i := 19) rfl
      · (simp only [List.getElem?_toArray, List.getElem?_cons_succ, List.getElem?_cons_zero] <;> rfl)
      · intro γ u W hcur hd
        obtain ⟨⟨h14, -, -⟩, ⟨h16, -, -⟩, ⟨h18, -, -⟩, -⟩ := hd
        dsimp only at h14 h16 h18
        (try simp only [h14, h16, h18])
        simp [Region.wanted, yielded, *]
      · rfl
    dsimp only [List.nil_append, List.cons_append]
    apply RGW.on (i := 20) rfl
    · (simp only [List.getElem?_toArray, List.getElem?_cons_succ, List.getElem?_cons_zero] <;> rfl)
    · intro γ u W hcur hd
      obtain ⟨⟨h14, -, -⟩, ⟨h19, -, -⟩, -⟩ := hd
      dsimp only at h14 h19
      (try simp only [h14, h19])
      refine ⟨rfl, ?_⟩
      go_simp <;> (try go_bits) <;> with_reducible rfl
    · first
      | exact fun _ _ _ => rfl
    · rfl
    dsimp only [List.nil_append, List.cons_append]
    apply RGW.call (i := 21) rfl
    · (simp only [List.getElem?_toArray, List.getElem?_cons_succ, List.getElem?_cons_zero] <;> rfl)
    · intro γ u W hcur hd
      obtain ⟨⟨h20, -, -⟩, -⟩ := hd
      dsimp only at h20
      (try simp only [h20])
      refine ⟨rfl, fun K hK => ?_⟩
      go_simp
      (first | (go_at_call 73; (first | (with_reducible refine (hcp.out _).mono ?_) | (with_reducible refine (c_insd d 1 2000 _).mono ?_)); rintro e w3 ⟨rfl, hb3⟩; replace hb3 := bl_tt hb3) | (go_at_call 61; (with_reducible refine (c_unless _ _ _).mono ?_); rintro e w3 ⟨rfl, rfl⟩) | (go_at_call 60; (with_reducible refine (c_first2 (by assumption)).mono ?_); rintro e w3 ⟨rfl, rfl⟩))
      (try dsimp only)
      exact hK.out _ _ rfl (by (with_reducible (repeat' (first | assumption | apply bl_refl | apply bl_al | apply bl_drew | apply bl_drewN | (apply bl_set; case hp => (first | (simp; done) | (simp; omega) | (dsimp only; omega))) | (apply bl_row; case hg => (first | (simp; done) | (simp; omega) | omega)) | apply hb3))))
    · first
      | exact fun _ _ _ => rfl
    · rfl
    dsimp only [List.nil_append, List.cons_append]
    apply RGW.bslice (i := 22) rfl
    · (simp only [List.getElem?_toArray, List.getElem?_cons_succ, List.getElem?_cons_zero] <;> rfl)
    · intro γ u W hcur hd
      obtain ⟨⟨h8, -, -⟩, ⟨h21, -, -⟩, -⟩ := hd
      dsimp only at h8 h21
      (try simp only [h8, h21])
      refine ⟨rfl, fun K hK => ?_⟩
      go_simp
      exact hK.out _ _ rfl rfl
    · first
      | exact fun _ _ _ => rfl
    · rfl
    · rfl
    dsimp only [List.nil_append, List.cons_append]
    apply RGW.call (i := 23) rfl
    · (simp only [List.getElem?_toArray, List.getElem?_cons_succ, List.getElem?_cons_zero] <;> rfl)
    · intro γ u W hcur hd
      obtain ⟨⟨h22, r22, -⟩, -⟩ := hd
      dsimp only at h22 r22
      have L22 := r22.cell
      (try simp only [h22])
      refine ⟨rfl, fun K hK => ?_⟩
      go_simp
      (first | (go_at_call 73; (first | (with_reducible refine (hcp.out _).mono ?_) | (with_reducible refine (c_insd d 1 2000 _).mono ?_)); rintro e w3 ⟨rfl, hb3⟩; replace hb3 := bl_tt hb3) | (go_at_call 61; (with_reducible refine (c_unless _ _ _).mono ?_); rintro e w3 ⟨rfl, rfl⟩) | (go_at_call 60; (with_reducible refine (c_first2 (by assumption)).mono ?_); rintro e w3 ⟨rfl, rfl⟩))
      (try dsimp only)
      exact hK.out _ _ rfl (by (with_reducible (repeat' (first | assumption | apply bl_refl | apply bl_al | apply bl_drew | apply bl_drewN | (apply bl_set; case hp => (first | (simp; done) | (simp; omega) | (dsimp only; omega))) | (apply bl_row; case hg => (first | (simp; done) | (simp; omega) | omega)) | apply hb3))))
    · first
      | exact fun _ _ _ => rfl
      | (intro γ γ' hg
         try dsimp only
         have e22 := hg 22 (by decide)
         simp only [e22])
    · rfl
    dsimp only [List.nil_append, List.cons_append]
    apply RGW.on (i := 24) rfl
    · (simp only [List.getElem?_toArray, List.getElem?_cons_succ, List.getElem?_cons_zero] <;> rfl)
    · intro γ u W hcur hd
      obtain ⟨⟨h22, r22, -⟩, ⟨h23, -, -⟩, -⟩ := hd
      dsimp only at h22 h23 r22
      have L22 := r22.cell
      (try simp only [h22, h23])
      refine ⟨rfl, ?_⟩
      go_simp <;> (try go_bits) <;> with_reducible rfl
    · first
      | exact fun _ _ _ => rfl
      | (intro γ γ' hg
         try dsimp only
         have e22 := hg 22 (by decide)
         simp only [e22])
    · rfl
    dsimp only [List.nil_append, List.cons_append]
    refine RGW.fin (fun γ u wc hwc hd hdis => ?_)
    obtain ⟨⟨h0, -, -⟩, ⟨h1, -, -⟩, ⟨h2, -, -⟩, ⟨h3, -, -⟩, ⟨h4, -, -⟩, ⟨h5, -, -⟩, ⟨h6, -, -⟩, ⟨h7, -, -⟩, ⟨h8, -, -⟩, ⟨h9, -, -⟩, ⟨h10, -, -⟩, ⟨h11, -, -⟩, ⟨h12, -, -⟩, ⟨h13, -, -⟩, ⟨h14, -, -⟩, ⟨h15, -, -⟩, ⟨h16, -, -⟩, ⟨h17, -, -⟩, ⟨h18, -, -⟩, ⟨h19, -, -⟩, ⟨h20, -, -⟩, ⟨h21, -, -⟩, ⟨h22, r22, b22⟩, ⟨h23, -, -⟩, ⟨h24, -, -⟩, -⟩ := hd
    dsimp only at h0 h1 h2 h3 h4 h5 h6 h7 h8 h9 h10 h11 h12 h13 h14 h15 h16 h17 h18 h19 h20 h21 h22 h23 h24 r22 b22
    clear hdis
    simp only [h0, h1, h2, h3, h4, h5, h6, h7, h8, h9, h10, h11, h12, h13, h14, h15, h16, h17, h18, h19, h20, h21, h22, h23, h24]
    clear h24 h23 h22 h21 h20 h19 h18 h17 h16 h15 h14 h13 h12 h11 h10 h9 h8 h7 h6 h5 h4 h3 h2 h1 h0
    replace b22 := b22 _ (List.mem_singleton.2 rfl)
    generalize hγ22 : (γ 22).n = g22 at *
    clear hγ22
    clear u
    simp only [List.map_nil]
    refine PlanW.done ?_
    have hb3 := bl_tt hwc
    first
    | apply absB3 (w0 := w) (g0 := w.heap.size) (g1 := w.heap.size + 1) (g2 := w.heap.size + 2)
    | apply absTB3 (w0 := w) (g0 := w.heap.size) (g1 := w.heap.size + 1) (g2 := w.heap.size + 2)
    | apply absIB3 (w0 := w) (g0 := w.heap.size) (g1 := w.heap.size + 1) (g2 := w.heap.size + 2)
    iterate 4 (focus ((with_reducible (repeat' (first | assumption | apply bl_refl | apply bl_al | apply bl_drew | apply bl_drewN | (apply bl_set; case hp => (first | (simp; done) | (simp; omega) | (dsimp only; omega))) | (apply bl_row; case hg => (first | (simp; done) | (simp; omega) | omega)) | apply hb3 | apply bx_refl | (apply bx_set; case hp => (first | exact Or.inl (by simp; done) | exact Or.inr (by first | (simp; done) | (simp; omega) | (dsimp only; omega)))) | apply bx_drew | apply bx_al | apply bx_drewN | apply hb3x | (apply Blk.newAt; first | (simp; done) | rfl) | apply Blk.alloc | apply Blk.drew | apply Blk.drewN | apply Blk.set | (apply Blk.other; case hne => first | assumption | (simp; done) | (simp; omega) | omega) | apply Blk.row | (apply Blk.rowOther; case hne => first | assumption | (simp; done) | (simp; omega) | omega) | apply Blk.below (hb := hb3 _ (bl_refl _))))); done))
    intro wd hb0' k0' k1' k2'
    (try simp only [List.setIfInBounds_toArray, List.set_cons_zero, List.set_cons_succ] at k0' k1' k2')
    try clear hb3
    try clear Lk0
    try clear Fk0
    try clear Qk0
    try clear Lk1
    try clear Fk1
    try clear Qk1
    try clear Lk2
    try clear Fk2
    try clear Qk2
    try clear hb0
    try clear k0
    try clear k1
    try clear k2
    have hb0 := hb0'; clear hb0'
    have k0 := k0'; clear k0'
    have k1 := k1'; clear k1'
    have k2 := k2'; clear k2'
    have Lk0 := k0.later
    have Fk0 := k0.laterF
    have Qk0 := k0.lt
    have Lk1 := k1.later
    have Fk1 := k1.laterF
    have Qk1 := k1.lt
    have Lk2 := k2.later
    have Fk2 := k2.laterF
    have Qk2 := k2.lt
    rw [← hde.out]
    by_cases h0 : depthErr p d = 0
    · obtain ⟨i1, i2⟩ := hdz.out h0
      simp only [insd, Bool.and_eq_true, inR_iff] at i1 i2
      obtain ⟨⟨a1, a2⟩, a3, a4⟩ := i1
      obtain ⟨⟨c1, c2⟩, c3, c4⟩ := i2
      have d1 : d.hi ≠ 0 := by omega
      have d2 : d.lo ≠ 0 := by omega
      have h0' : (depthErr p d != 0) = false := by simp [h0]
      replace h0 := Lib.hid h0
      go_wp2
      refine wp_any (w0 := wd) ⟨[17, 18], [], [some 36, some 37, some 38, some 39, some 40, some 41, some 42, some 43, some 44, some 45, some 46, some 47, some 48, some 49, some 50, some 51, some 52, none, none], [[], [0], [0, 1], [], [3], [0, 1, 2, 3, 4], [], [6], [6, 7], [], [9], [6, 7, 8, 9, 10], [6, 7, 8, 9, 10, 11], [], [13], [6, 7, 8, 9, 10, 11, 12, 13, 14], [0, 1, 2, 3, 4, 5, 6, 7, 8, 9, 10, 11, 12, 13, 14, 15], [0, 1, 2, 3, 4, 5, 6, 7, 8, 9, 10, 11, 12, 13, 14, 15, 16], [0, 1, 2, 3, 4, 5, 6, 7, 8, 9, 10, 11, 12, 13, 14, 15, 16, 17]], [[], [0], [1], [], [3], [2, 4], [], [6], [7], [], [9], [8, 10], [11], [], [13], [12, 14], [5, 15], [], []]⟩ (fun _ => [w.heap.size + 2]) (by kernel_rfl) (by kernel_rfl) (by (with_reducible (repeat' (first | assumption | apply bl_refl | apply bl_al | apply bl_drew | apply bl_drewN | (apply bl_set; case hp => (first | (simp; done) | (simp; omega) | (dsimp only; omega))) | (apply bl_row; case hg => (first | (simp; done) | (simp; omega) | omega)) | apply hb3)))) (fun u => by simp only [putD, Act.put, List.setIfInBounds_toArray, List.set_cons_zero, List.set_cons_succ, Nat.zero_add, Nat.reduceAdd]; rfl) ?_
      apply RGW.on (i := 0) rfl
      · (simp only [List.getElem?_toArray, List.getElem?_cons_succ, List.getElem?_cons_zero] <;> rfl)
      · intro γ u W hcur hd
        clear hd
        (try dsimp only)
        refine ⟨rfl, ?_⟩
        go_simp <;> (try go_bits) <;> with_reducible rfl
      · first
        | exact fun _ _ _ => rfl
      · rfl
      dsimp only [List.nil_append, List.cons_append]
      apply RGW.on (i := 1) rfl
      · (simp only [List.getElem?_toArray, List.getElem?_cons_succ, List.getElem?_cons_zero] <;> rfl)
      · intro γ u W hcur hd
        obtain ⟨⟨h0, -, -⟩, -⟩ := hd
        dsimp only at h0
        (try simp only [h0])
        refine ⟨rfl, ?_⟩
        go_simp <;> (try go_bits) <;> with_reducible rfl
      · first
        | exact fun _ _ _ => rfl
      · rfl
      dsimp only [List.nil_append, List.cons_append]
      apply RGW.on (i := 2) rfl
      · (simp only [List.getElem?_toArray, List.getElem?_cons_succ, List.getElem?_cons_zero] <;> rfl)
      · intro γ u W hcur hd
        obtain ⟨⟨h1, -, -⟩, -⟩ := hd
        dsimp only at h1
        (try simp only [h1])
        refine ⟨rfl, ?_⟩
        go_simp <;> (try go_bits) <;> with_reducible rfl
      · first
        | exact fun _ _ _ => rfl
      · rfl
      dsimp only [List.nil_append, List.cons_append]
      apply RGW.on (i := 3) rfl
      · (simp only [List.getElem?_toArray, List.getElem?_cons_succ, List.getElem?_cons_zero] <;> rfl)
      · intro γ u W hcur hd
        clear hd
        (try dsimp only)
        refine ⟨rfl, ?_⟩
        go_simp <;> (try go_bits) <;> with_reducible rfl
      · first
        | exact fun _ _ _ => rfl
      · rfl
      dsimp only [List.nil_append, List.cons_append]
      apply RGW.on (i := 4) rfl
      · (simp only [List.getElem?_toArray, List.getElem?_cons_succ, List.getElem?_cons_zero] <;> rfl)
      · intro γ u W hcur hd
        obtain ⟨⟨h3, -, -⟩, -⟩ := hd
        dsimp only at h3
        (try simp only [h3])
        refine ⟨rfl, ?_⟩
        go_simp <;> (try go_bits) <;> with_reducible rfl
      · first
        | exact fun _ _ _ => rfl
      · rfl
      dsimp only [List.nil_append, List.cons_append]
      apply RGW.on (i := 5) rfl
      · (simp only [List.getElem?_toArray, List.getElem?_cons_succ, List.getElem?_cons_zero] <;> rfl)
      · intro γ u W hcur hd
        obtain ⟨⟨h2, -, -⟩, ⟨h4, -, -⟩, -⟩ := hd
        dsimp only at h2 h4
        (try simp only [h2, h4])
        refine ⟨rfl, ?_⟩
        go_simp <;> (try go_bits) <;> with_reducible rfl
      · first
        | exact fun _ _ _ => rfl
      · rfl
      dsimp only [List.nil_append, List.cons_append]
      apply RGW.on (i := 6) rfl
      · (simp only [List.getElem?_toArray, List.getElem?_cons_succ, List.getElem?_cons_zero] <;> rfl)
      · intro γ u W hcur hd
        clear hd
        (try dsimp only)
        refine ⟨rfl, ?_⟩
        go_simp <;> (try go_bits) <;> with_reducible rfl
      · first
        | exact fun _ _ _ => rfl
      · rfl
      dsimp only [List.nil_append, List.cons_append]
      apply RGW.on (i := 7) rfl
      · (simp only [List.getElem?_toArray, List.getElem?_cons_succ, List.getElem?_cons_zero] <;> rfl)
      · intro γ u W hcur hd
        obtain ⟨⟨h6, -, -⟩, -⟩ := hd
        dsimp only at h6
        (try simp only [h6])
        refine ⟨rfl, ?_⟩
        go_simp <;> (try go_bits) <;> with_reducible rfl
      · first
        | exact fun _ _ _ => rfl
      · rfl
      dsimp only [List.nil_append, List.cons_append]
      apply RGW.on (i := 8) rfl
      · (simp only [List.getElem?_toArray, List.getElem?_cons_succ, List.getElem?_cons_zero] <;> rfl)
      · intro γ u W hcur hd
        obtain ⟨⟨h7, -, -⟩, -⟩ := hd
        dsimp only at h7
        (try simp only [h7])
        refine ⟨rfl, ?_⟩
        go_simp <;> (try go_bits) <;> with_reducible rfl
      · first
        | exact fun _ _ _ => rfl
      · rfl
      dsimp only [List.nil_append, List.cons_append]
      apply RGW.on (i := 9) rfl
      · (simp only [List.getElem?_toArray, List.getElem?_cons_succ, List.getElem?_cons_zero] <;> rfl)
      · intro γ u W hcur hd
        clear hd
        (try dsimp only)
        refine ⟨rfl, ?_⟩
        go_simp <;> (try go_bits) <;> with_reducible rfl
      · first
        | exact fun _ _ _ => rfl
      · rfl
      dsimp only [List.nil_append, List.cons_append]
      apply RGW.on (i := 10) rfl
      · (simp only [List.getElem?_toArray, List.getElem?_cons_succ, List.getElem?_cons_zero] <;> rfl)
      · intro γ u W hcur hd
        obtain ⟨⟨h9, -, -⟩, -⟩ := hd
        dsimp only at h9
        (try simp only [h9])
        refine ⟨rfl, ?_⟩
        go_simp <;> (try go_bits) <;> with_reducible rfl
      · first
        | exact fun _ _ _ => rfl
      · rfl
      dsimp only [List.nil_append, List.cons_append]
      apply RGW.on (i := 11) rfl
      · (simp only [List.getElem?_toArray, List.getElem?_cons_succ, List.getElem?_cons_zero] <;> rfl)
      · intro γ u W hcur hd
        obtain ⟨⟨h8, -, -⟩, ⟨h10, -, -⟩, -⟩ := hd
        dsimp only at h8 h10
        (try simp only [h8, h10])
        refine ⟨rfl, ?_⟩
        go_simp <;> (try go_bits) <;> with_reducible rfl
      · first
        | exact fun _ _ _ => rfl
      · rfl
      dsimp only [List.nil_append, List.cons_append]
      apply RGW.on (i := 12) rfl
      · (simp only [List.getElem?_toArray, List.getElem?_cons_succ, List.getElem?_cons_zero] <;> rfl)
      · intro γ u W hcur hd
        obtain ⟨⟨h11, -, -⟩, -⟩ := hd
        dsimp only at h11
        (try simp only [h11])
        refine ⟨rfl, ?_⟩
        go_simp <;> (try go_bits) <;> with_reducible rfl
      · first
        | exact fun _ _ _ => rfl
      · rfl
      dsimp only [List.nil_append, List.cons_append]
      apply RGW.on (i := 13) rfl
      · (simp only [List.getElem?_toArray, List.getElem?_cons_succ, List.getElem?_cons_zero] <;> rfl)
      · intro γ u W hcur hd
        clear hd
        (try dsimp only)
        refine ⟨rfl, ?_⟩
        go_simp <;> (try go_bits) <;> with_reducible rfl
      · first
        | exact fun _ _ _ => rfl
      · rfl
      dsimp only [List.nil_append, List.cons_append]
      apply RGW.on (i := 14) rfl
      · (simp only [List.getElem?_toArray, List.getElem?_cons_succ, List.getElem?_cons_zero] <;> rfl)
      · intro γ u W hcur hd
        obtain ⟨⟨h13, -, -⟩, -⟩ := hd
        dsimp only at h13
        (try simp only [h13])
        refine ⟨rfl, ?_⟩
        go_simp <;> (try go_bits) <;> with_reducible rfl
      · first
        | exact fun _ _ _ => rfl
      · rfl
      dsimp only [List.nil_append, List.cons_append]
      apply RGW.on (i := 15) rfl
      · (simp only [List.getElem?_toArray, List.getElem?_cons_succ, List.getElem?_cons_zero] <;> rfl)
      · intro γ u W hcur hd
        obtain ⟨⟨h12, -, -⟩, ⟨h14, -, -⟩, -⟩ := hd
        dsimp only at h12 h14
        (try simp only [h12, h14])
        refine ⟨rfl, ?_⟩
        go_simp <;> (try go_bits) <;> with_reducible rfl
      · first
        | exact fun _ _ _ => rfl
      · rfl
      dsimp only [List.nil_append, List.cons_append]
      apply RGW.on (i := 16) rfl
      · (simp only [List.getElem?_toArray, List.getElem?_cons_succ, List.getElem?_cons_zero] <;> rfl)
      · intro γ u W hcur hd
        obtain ⟨⟨h5, -, -⟩, ⟨h15, -, -⟩, -⟩ := hd
        dsimp only at h5 h15
        (try simp only [h5, h15])
        refine ⟨rfl, ?_⟩
        go_simp <;> (try go_bits) <;> with_reducible rfl
      · first
        | exact fun _ _ _ => rfl
      · rfl
      dsimp only [List.nil_append, List.cons_append]
      refine RGW.skip (i := 17) rfl rfl ?_
      dsimp only [List.nil_append, List.cons_append]
      refine RGW.skip (i := 18) rfl rfl ?_
      dsimp only [List.nil_append, List.cons_append]
      refine RGW.fin (fun γ u we hwe hd hdis => ?_)
      obtain ⟨⟨h0, -, -⟩, ⟨h1, -, -⟩, ⟨h2, -, -⟩, ⟨h3, -, -⟩, ⟨h4, -, -⟩, ⟨h5, -, -⟩, ⟨h6, -, -⟩, ⟨h7, -, -⟩, ⟨h8, -, -⟩, ⟨h9, -, -⟩, ⟨h10, -, -⟩, ⟨h11, -, -⟩, ⟨h12, -, -⟩, ⟨h13, -, -⟩, ⟨h14, -, -⟩, ⟨h15, -, -⟩, ⟨h16, -, -⟩, -⟩ := hd
      dsimp only at h0 h1 h2 h3 h4 h5 h6 h7 h8 h9 h10 h11 h12 h13 h14 h15 h16
      clear hdis
      simp only [h0, h1, h2, h3, h4, h5, h6, h7, h8, h9, h10, h11, h12, h13, h14, h15, h16]
      clear h16 h15 h14 h13 h12 h11 h10 h9 h8 h7 h6 h5 h4 h3 h2 h1 h0
      clear u
      simp only [List.map_cons, List.map_nil]
      apply PlanW.step
      · (simp only [List.getElem?_toArray, List.getElem?_cons_succ, List.getElem?_cons_zero] <;> rfl)
      · rfl
      intro K hK
      first
      | (refine wp_store_keep (X := [w.heap.size + 2]) (w0 := we) rfl rfl rfl (by with_reducible first | exact bx_refl _ _ | assumption) (by with_reducible first | assumption | (apply Blk.below (hb := hwe); assumption)) (by simp) (by kernel_rfl) (by rfl) (by simp [Value.oneCell']) (fun hres1 hcur => ?_); refine hK.out _ _ hcur (fun _ => ?_))
      | (go_simp; refine hK.out _ _ (by (with_reducible (repeat' (first | assumption | apply bx_refl | (apply bx_set; case hp => (first | exact Or.inl (by simp; done) | exact Or.inr (by first | (simp; done) | (simp; omega) | (dsimp only; omega)))) | apply bx_drew | apply bx_al | apply bx_drewN | apply hb3x)))) (fun hcur => ?_))
      | (obtain ⟨u0, v0, z0⟩ := bx_cell0 hcur (Blk.below k0 hwe) (by simp); go_simp; refine hK.out _ _ (by (with_reducible (repeat' (first | assumption | apply bx_refl | (apply bx_set; case hp => (first | exact Or.inl (by simp; done) | exact Or.inr (by first | (simp; done) | (simp; omega) | (dsimp only; omega)))) | apply bx_drew | apply bx_al | apply bx_drewN | apply hb3x)))) (fun hcur => ?_))
      | (obtain ⟨u0, v0, z0⟩ := bx_cell0 hcur (Blk.below k1 hwe) (by simp); go_simp; refine hK.out _ _ (by (with_reducible (repeat' (first | assumption | apply bx_refl | (apply bx_set; case hp => (first | exact Or.inl (by simp; done) | exact Or.inr (by first | (simp; done) | (simp; omega) | (dsimp only; omega)))) | apply bx_drew | apply bx_al | apply bx_drewN | apply hb3x)))) (fun hcur => ?_))
      | (obtain ⟨u0, v0, z0⟩ := bx_cell0 hcur (Blk.below k2 hwe) (by simp); go_simp; refine hK.out _ _ (by (with_reducible (repeat' (first | assumption | apply bx_refl | (apply bx_set; case hp => (first | exact Or.inl (by simp; done) | exact Or.inr (by first | (simp; done) | (simp; omega) | (dsimp only; omega)))) | apply bx_drew | apply bx_al | apply bx_drewN | apply hb3x)))) (fun hcur => ?_))
      clear hK K
      try simp only [Act.put, List.setIfInBounds_toArray, List.set_cons_zero, List.set_cons_succ]
      apply PlanW.step
      · (simp only [List.getElem?_toArray, List.getElem?_cons_succ, List.getElem?_cons_zero] <;> rfl)
      · rfl
      intro K hK
      go_simp
      refine hK.out _ _ (by (with_reducible (repeat' (first | assumption | apply bx_refl | (apply bx_set; case hp => (first | exact Or.inl (by simp; done) | exact Or.inr (by first | (simp; done) | (simp; omega) | (dsimp only; omega)))) | apply bx_drew | apply bx_al | apply bx_drewN | apply hb3x)))) (fun hcur => ?_)
      clear hK K
      try simp only [Act.put, List.setIfInBounds_toArray, List.set_cons_zero, List.set_cons_succ]
      refine PlanW.done ?_
      have hb3 := bl_tt hwe
      have hr := hres1.cell
      have hb1 := hb3 _ hb0
      go_wp2
      refine bodyPost_ret (v := .tuple #[vRg (depthS p d).1, .int .i64 (depthS p d).2]) (by rw [hs1.out h0.out]; simp [results, Try.results14, go_sem, hr, depth]) rfl ⟨rfl, ?_⟩
      exact hcur.below (by simp) hb1
    · have h0' : (depthErr p d != 0) = true := by simp [h0]
      replace h0 := Lib.hid h0
      go_wp2
      first
      | apply absPB3 (w0 := w) (g0 := w.heap.size) (g1 := w.heap.size + 1) (g2 := w.heap.size + 2)
      | apply absPMB3 (w0 := w) (g0 := w.heap.size) (g1 := w.heap.size + 1) (g2 := w.heap.size + 2)
      iterate 4 (focus ((with_reducible (repeat' (first | assumption | apply bl_refl | apply bl_al | apply bl_drew | apply bl_drewN | (apply bl_set; case hp => (first | (simp; done) | (simp; omega) | (dsimp only; omega))) | (apply bl_row; case hg => (first | (simp; done) | (simp; omega) | omega)) | apply hb3 | apply bx_refl | (apply bx_set; case hp => (first | exact Or.inl (by simp; done) | exact Or.inr (by first | (simp; done) | (simp; omega) | (dsimp only; omega)))) | apply bx_drew | apply bx_al | apply bx_drewN | apply hb3x | (apply Blk.newAt; first | (simp; done) | rfl) | apply Blk.alloc | apply Blk.drew | apply Blk.drewN | apply Blk.set | (apply Blk.other; case hne => first | assumption | (simp; done) | (simp; omega) | omega) | apply Blk.row | (apply Blk.rowOther; case hne => first | assumption | (simp; done) | (simp; omega) | omega) | apply Blk.below (hb := hb3 _ (bl_refl _))))); done))
      intro wf hb0' k0' k1' k2'
      (try simp only [List.setIfInBounds_toArray, List.set_cons_zero, List.set_cons_succ] at k0' k1' k2')
      try clear hb3
      try clear Lk0
      try clear Fk0
      try clear Qk0
      try clear Lk1
      try clear Fk1
      try clear Qk1
      try clear Lk2
      try clear Fk2
      try clear Qk2
      try clear hb0
      try clear k0
      try clear k1
      try clear k2
      have hb0 := hb0'; clear hb0'
      have k0 := k0'; clear k0'
      have k1 := k1'; clear k1'
      have k2 := k2'; clear k2'
      have hr := k2.cell
      refine bodyPost_ret (v := .tuple #[vRg (depthS p d).1, .int .i64 (depthS p d).2]) (by rw [hs2.out h0.out]; simp [results, Try.results14, go_sem, hr]) rfl ⟨rfl, hb0⟩
end Go.Proofs.Ytephimmamkafoaa
