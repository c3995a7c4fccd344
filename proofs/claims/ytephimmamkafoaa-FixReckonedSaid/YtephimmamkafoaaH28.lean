/-
  Walk: the law of dead reckoning.
-/
import Derived.Test.YtephimmamkafoaaG15
import Derived.Test.YtephimmamkafoaaH25
import Derived.Test.YtephimmamkafoaaH26
import Derived.Test.YtephimmamkafoaaH27
namespace Go.Proofs.Ytephimmamkafoaa
set_option linter.unusedSimpArgs false
set_option linter.unusedVariables false
open Go.RowKit Go.Shelf
attribute [local go_sem] bl_al bl_drew bl_drewN bl_refl bx_al bx_drew bx_drewN bx_refl
set_option maxRecDepth 20000
theorem bne_ne' {x : Int} (h : x ≠ 0) : (x != 0) = true := by simp [h]
set_option maxHeartbeats 4000000 in
theorem r_isInner (s t : Bx) (w : World) : Calls Try.prog 36 #[vBx s, vBx t] w (Ret (.bool (innerB s t)) w) := by
  have hr : Hid (innerB s t = ((!decide (t.x.lo ≤ s.x.lo) && !decide (s.x.hi ≤ t.x.hi)) && ((!decide (t.y.lo ≤ s.y.lo) && !decide (s.y.hi ≤ t.y.hi)) && (!decide (t.z.lo ≤ s.z.lo) && !decide (s.z.hi ≤ t.z.hi))))) := rfl
  go_enter Try.func36, Try.ntmps36
  go_upto_region 1 with fail
  apply absB2 (w0 := w) (g0 := w.heap.size) (g1 := w.heap.size + 1)
  iterate 3 (focus ((with_reducible (repeat' (first | assumption | apply jA | apply jB | apply jC | apply jD | apply jE | apply jF | apply hb3 | apply jG | apply jH | apply jI | apply jJ | apply jK | apply hb3x | (apply jL; first | (simp; done) | rfl) | apply jM | apply jN | apply jO | apply jP | apply jQ | apply jR | apply jS | apply jT (hb := hb3 _ (jA _)) | omega | (simp; done) | (simp; omega) | (dsimp only; omega)))); done))
  intro wa hb0' k0' k1'
  (try simp only [List.setIfInBounds_toArray, List.set_cons_zero, List.set_cons_succ] at k0' k1')
  try clear hb3
  try clear hb0
  try clear k0
  try clear k1
  have hb0 := hb0'; clear hb0'
  have k0 := k0'; clear k0'
  have k1 := k1'; clear k1'
  have Lk0 := k0.later
  have Fk0 := k0.laterF
  have Qk0 := k0.lt
  have Lk1 := k1.later
  have Fk1 := k1.laterF
  have Qk1 := k1.lt
  refine wp_any (w0 := wa) ⟨[6, 7], [], [some 8, some 9, some 10, some 11, some 5, some 6, none, none], [[], [0], [], [0, 1, 2], [], [], [0, 1, 2, 3, 4, 5], [0, 1, 2, 3, 4, 5, 6]], [[], [0], [], [2], [], [], [], []]⟩ (fun γ => [(γ 4).n, (γ 5).n]) (by kernel_rfl) (by kernel_rfl) (by (with_reducible (repeat' (first | assumption | apply jA | apply jB | apply jC | apply jD | apply jE | apply jF | apply hb3 | omega | (simp; done) | (simp; omega) | (dsimp only; omega))))) (fun u => by simp only [putD, Act.put, List.setIfInBounds_toArray, List.set_cons_zero, List.set_cons_succ, Nat.zero_add, Nat.reduceAdd]; rfl) ?_
  apply RGW.on (i := 0) rfl
  · (simp only [gA, gB, gC] <;> rfl)
  · intro γ u W hcur hd
    clear hd
    (try dsimp only)
    refine ⟨rfl, ?_⟩
    go_simp <;> (try go_bits) <;> with_reducible rfl
  · exact fun _ _ _ => rfl
  · rfl
  dsimp only [nA, cA]
  apply RGW.call (i := 1) rfl
  · (simp only [gA, gB, gC] <;> rfl)
  · intro γ u W hcur hd
    obtain ⟨⟨h0, -, -⟩, -⟩ := hd
    dsimp only at h0
    (try simp only [h0])
    refine ⟨rfl, fun K hK => ?_⟩
    go_simp
    (go_at_call 32; (with_reducible refine (r_Sides s _).mono ?_); rintro e w3 ⟨rfl, hb3⟩; replace hb3 := bl_tt hb3)
    (try dsimp only)
    exact hK.out _ _ rfl (by (with_reducible (repeat' (first | assumption | apply jA | apply jB | apply jC | apply jD | apply jE | apply jF | apply hb3 | omega | (simp; done) | (simp; omega) | (dsimp only; omega)))))
  · exact fun _ _ _ => rfl
  · rfl
  dsimp only [nA, cA]
  apply RGW.on (i := 2) rfl
  · (simp only [gA, gB, gC] <;> rfl)
  · intro γ u W hcur hd
    clear hd
    (try dsimp only)
    refine ⟨rfl, ?_⟩
    go_simp <;> (try go_bits) <;> with_reducible rfl
  · exact fun _ _ _ => rfl
  · rfl
  dsimp only [nA, cA]
  apply RGW.call (i := 3) rfl
  · (simp only [gA, gB, gC] <;> rfl)
  · intro γ u W hcur hd
    obtain ⟨⟨h2, -, -⟩, -⟩ := hd
    dsimp only at h2
    (try simp only [h2])
    refine ⟨rfl, fun K hK => ?_⟩
    go_simp
    (go_at_call 32; (with_reducible refine (r_Sides t _).mono ?_); rintro e w3 ⟨rfl, hb3⟩; replace hb3 := bl_tt hb3)
    (try dsimp only)
    exact hK.out _ _ rfl (by (with_reducible (repeat' (first | assumption | apply jA | apply jB | apply jC | apply jD | apply jE | apply jF | apply hb3 | omega | (simp; done) | (simp; omega) | (dsimp only; omega)))))
  · exact fun _ _ _ => rfl
  · rfl
  dsimp only [nA, cA]
  apply RGW.alloc (i := 4) rfl
  · (simp only [gA, gB, gC] <;> rfl)
  · intro γ u W hcur hd
    clear hd
    (try dsimp only)
    refine ⟨rfl, fun K hK => ?_⟩
    go_simp
    exact hK.out _ _ rfl rfl
  · exact fun _ _ _ => rfl
  · rfl
  · rfl
  dsimp only [nA, cA]
  apply RGW.alloc (i := 5) rfl
  · (simp only [gA, gB, gC] <;> rfl)
  · intro γ u W hcur hd
    clear hd
    (try dsimp only)
    refine ⟨rfl, fun K hK => ?_⟩
    go_simp
    exact hK.out _ _ rfl rfl
  · exact fun _ _ _ => rfl
  · rfl
  · rfl
  dsimp only [nA, cA]
  refine RGW.skip (i := 6) rfl rfl ?_
  dsimp only [nA, cA]
  refine RGW.skip (i := 7) rfl rfl ?_
  dsimp only [nA, cA]
  refine RGW.fin (fun γ u wb hwb hd hdis => ?_)
  obtain ⟨⟨h0, -, -⟩, ⟨h1, -, -⟩, ⟨h2, -, -⟩, ⟨h3, -, -⟩, ⟨h4, r4, b4⟩, ⟨h5, r5, b5⟩, -⟩ := hd
  dsimp only at h0 h1 h2 h3 h4 h5 r4 r5 b4 b5
  have n4_5 := hdis 4 5 rfl rfl (Nat.lt_of_lt_of_eq (by decide : 4 < 8) (by kernel_rfl)) (Nat.lt_of_lt_of_eq (by decide : 5 < 8) (by kernel_rfl)) (by decide) _ (List.mem_singleton.2 rfl) _ (List.mem_singleton.2 rfl)
  clear hdis
  simp only [h0, h1, h2, h3, h4, h5]
  clear h5 h4 h3 h2 h1 h0
  replace b4 := b4 _ (List.mem_singleton.2 rfl)
  generalize hγ4 : (γ 4).n = g4 at *
  clear hγ4
  replace b5 := b5 _ (List.mem_singleton.2 rfl)
  generalize hγ5 : (γ 5).n = g5 at *
  clear hγ5
  clear u
  simp only [List.map_cons, List.map_nil]
  apply PlanW.step
  · (simp only [gA, gB, gC] <;> rfl)
  · rfl
  intro K hK
  refine wp_store_keep (X := [g4, g5]) (w0 := wb) rfl rfl rfl (by with_reducible first | exact bx_refl _ _ | assumption) (by with_reducible first | assumption | (apply Blk.below (hb := hwb); assumption)) (by simp) (by kernel_rfl) (by rfl) (by simp [Value.oneCell']) (fun hres1 hcur => ?_)
  refine hK.out _ _ hcur (fun _ => ?_)
  clear hK K
  try simp only [Act.put, List.setIfInBounds_toArray, List.set_cons_zero, List.set_cons_succ]
  apply PlanW.step
  · (simp only [gA, gB, gC] <;> rfl)
  · rfl
  intro K hK
  refine wp_store_keep (X := [g4, g5]) (w0 := wb) rfl rfl rfl (by with_reducible first | exact bx_refl _ _ | assumption) (by with_reducible first | assumption | (apply Blk.below (hb := hwb); assumption)) (by simp) (by kernel_rfl) (by rfl) (by simp [Value.oneCell']) (fun hres2 hcur => ?_)
  refine hK.out _ _ hcur (fun _ => ?_)
  clear hK K
  try simp only [Act.put, List.setIfInBounds_toArray, List.set_cons_zero, List.set_cons_succ]
  refine PlanW.done ?_
  have hb3 := bl_tt hwb
  apply absTB4 (w0 := w) (g0 := w.heap.size) (g1 := w.heap.size + 1) (g2 := g4) (g3 := g5)
  iterate 5 (focus ((with_reducible (repeat' (first | assumption | apply jA | apply jB | apply jC | apply jD | apply jE | apply jF | apply hb3 | apply jG | apply jH | apply jI | apply jJ | apply jK | apply hb3x | (apply jL; first | (simp; done) | rfl) | apply jM | apply jN | apply jO | apply jP | apply jQ | apply jR | apply jS | apply jT (hb := hb3 _ (jA _)) | omega | (simp; done) | (simp; omega) | (dsimp only; omega)))); done))
  intro wc hb0' k0' k1' k2' k3'
  (try simp only [List.setIfInBounds_toArray, List.set_cons_zero, List.set_cons_succ] at k0' k1' k2' k3')
  try clear hb3
  try clear Lk0
  try clear Fk0
  try clear Qk0
  try clear Lk1
  try clear Fk1
  try clear Qk1
  try clear hb0
  try clear k0
  try clear k1
  try clear k2
  try clear k3
  have hb0 := hb0'; clear hb0'
  have k0 := k0'; clear k0'
  have k1 := k1'; clear k1'
  have k2 := k2'; clear k2'
  have k3 := k3'; clear k3'
  have Lk0 := k0.later
  have Fk0 := k0.laterF
  have Qk0 := k0.lt
  have Lk1 := k1.later
  have Fk1 := k1.laterF
  have Qk1 := k1.lt
  have Lk2 := k2.later
  have Fk2 := k2.laterF
  have Qk2 := k2.lt
  have Lk3 := k3.later
  have Fk3 := k3.laterF
  have Qk3 := k3.lt
  go_wp2
  refine wp_loop_rounds 4 ?_
  rw [rounds_succ]
  cases h1 : decide (t.x.lo ≤ s.x.lo)
  case true =>
    rw [h1] at hr
    go_wp2
    refine wp_any (w0 := wc) ⟨[], [], [some 16, some 17, some 18, some 19, some 20, some 21, some 22, some 23, some 24, some 25, some 26, some 27, some 28, some 29, some 30, some 31, some 32, some 33, some 34, some 35], [[], [0], [0, 1], [0, 1, 2], [], [4], [4, 5], [4, 5, 6], [0, 1, 2, 3, 4, 5, 6, 7], [0, 1, 2, 3, 4, 5, 6, 7, 8], [0, 1, 2, 3, 4, 5, 6, 7, 8, 9], [0, 1, 2, 3, 4, 5, 6, 7, 8, 9, 10], [0, 1, 2, 3, 4, 5, 6, 7, 8, 9, 10, 11], [0, 1, 2, 3, 4, 5, 6, 7, 8, 9, 10, 11, 12], [0, 1, 2, 3, 4, 5, 6, 7, 8, 9], [0, 1, 2, 3, 4, 5, 6, 7, 8, 9, 14], [0, 1, 2, 3, 4, 5, 6, 7, 8, 9, 14, 15], [0, 1, 2, 3, 4, 5, 6, 7, 8, 9, 14, 15, 16], [0, 1, 2, 3, 4, 5, 6, 7, 8, 9, 10, 11, 12, 13, 14, 15, 16, 17], [0, 1, 2, 3, 4, 5, 6, 7, 8, 9, 10, 11, 12, 13, 14, 15, 16, 17, 18]], [[], [0], [1], [2], [], [4], [5], [6], [3, 7], [8], [9], [9, 10], [9, 11], [9, 12], [9], [9, 14], [9, 15], [9, 16], [9, 13, 17], [9, 18]]⟩ (fun _ => []) (by kernel_rfl) (by kernel_rfl) (by (with_reducible (repeat' (first | assumption | apply jA | apply jB | apply jC | apply jD | apply jE | apply jF | apply hb3 | omega | (simp; done) | (simp; omega) | (dsimp only; omega))))) (fun u => by simp only [putD, Act.put, List.setIfInBounds_toArray, List.set_cons_zero, List.set_cons_succ, Nat.zero_add, Nat.reduceAdd]; rfl) ?_
    apply RGW.on (i := 0) rfl
    · (simp only [gA, gB, gC] <;> rfl)
    · intro γ u W hcur hd
      clear hd
      (try dsimp only)
      refine ⟨rfl, ?_⟩
      go_simp <;> (try go_bits) <;> with_reducible rfl
    · exact fun _ _ _ => rfl
    · rfl
    dsimp only [nA, cA]
    apply RGW.on (i := 1) rfl
    · (simp only [gA, gB, gC] <;> rfl)
    · intro γ u W hcur hd
      obtain ⟨⟨h0, -, -⟩, -⟩ := hd
      dsimp only at h0
      (try simp only [h0])
      refine ⟨rfl, ?_⟩
      go_simp <;> (try go_bits) <;> with_reducible rfl
    · exact fun _ _ _ => rfl
    · rfl
    dsimp only [nA, cA]
    apply RGW.on (i := 2) rfl
    · (simp only [gA, gB, gC] <;> rfl)
    · intro γ u W hcur hd
      obtain ⟨⟨h1, -, -⟩, -⟩ := hd
      dsimp only at h1
      (try simp only [h1])
      refine ⟨rfl, ?_⟩
      go_simp <;> (try go_bits) <;> with_reducible rfl
    · exact fun _ _ _ => rfl
    · rfl
    dsimp only [nA, cA]
    apply RGW.on (i := 3) rfl
    · (simp only [gA, gB, gC] <;> rfl)
    · intro γ u W hcur hd
      obtain ⟨⟨h2, -, -⟩, -⟩ := hd
      dsimp only at h2
      (try simp only [h2])
      refine ⟨rfl, ?_⟩
      go_simp <;> (try go_bits) <;> with_reducible rfl
    · exact fun _ _ _ => rfl
    · rfl
    dsimp only [nA, cA]
    apply RGW.on (i := 4) rfl
    · (simp only [gA, gB, gC] <;> rfl)
    · intro γ u W hcur hd
      clear hd
      (try dsimp only)
      refine ⟨rfl, ?_⟩
      go_simp <;> (try go_bits) <;> with_reducible rfl
    · exact fun _ _ _ => rfl
    · rfl
    dsimp only [nA, cA]
    apply RGW.on (i := 5) rfl
    · (simp only [gA, gB, gC] <;> rfl)
    · intro γ u W hcur hd
      obtain ⟨⟨h4, -, -⟩, -⟩ := hd
      dsimp only at h4
      (try simp only [h4])
      refine ⟨rfl, ?_⟩
      go_simp <;> (try go_bits) <;> with_reducible rfl
    · exact fun _ _ _ => rfl
    · rfl
    dsimp only [nA, cA]
    apply RGW.on (i := 6) rfl
    · (simp only [gA, gB, gC] <;> rfl)
    · intro γ u W hcur hd
      obtain ⟨⟨h5, -, -⟩, -⟩ := hd
      dsimp only at h5
      (try simp only [h5])
      refine ⟨rfl, ?_⟩
      go_simp <;> (try go_bits) <;> with_reducible rfl
    · exact fun _ _ _ => rfl
    · rfl
    dsimp only [nA, cA]
    apply RGW.on (i := 7) rfl
    · (simp only [gA, gB, gC] <;> rfl)
    · intro γ u W hcur hd
      obtain ⟨⟨h6, -, -⟩, -⟩ := hd
      dsimp only at h6
      (try simp only [h6])
      refine ⟨rfl, ?_⟩
      go_simp <;> (try go_bits) <;> with_reducible rfl
    · exact fun _ _ _ => rfl
    · rfl
    dsimp only [nA, cA]
    apply RGW.on (i := 8) rfl
    · (simp only [gA, gB, gC] <;> rfl)
    · intro γ u W hcur hd
      obtain ⟨⟨h3, -, -⟩, ⟨h7, -, -⟩, -⟩ := hd
      dsimp only at h3 h7
      (try simp only [h3, h7])
      refine ⟨rfl, ?_⟩
      go_simp <;> (try go_bits) <;> with_reducible rfl
    · exact fun _ _ _ => rfl
    · rfl
    dsimp only [nA, cA]
    apply RGW.on (i := 9) rfl
    · (simp only [gA, gB, gC] <;> rfl)
    · intro γ u W hcur hd
      obtain ⟨⟨h8, -, -⟩, -⟩ := hd
      dsimp only at h8
      (try simp only [h8])
      refine ⟨rfl, ?_⟩
      go_simp <;> (try go_bits) <;> with_reducible rfl
    · exact fun _ _ _ => rfl
    · rfl
    dsimp only [nA, cA]
    apply RGW.off (i := 10) rfl
    · (simp only [gA, gB, gC] <;> rfl)
    · intro γ u W hcur hd
      obtain ⟨⟨h9, -, -⟩, -⟩ := hd
      dsimp only at h9
      (try simp only [h9])
      simp [Region.wanted, yielded, undef, *]
    · rfl
    dsimp only [nA, cA]
    apply RGW.off (i := 11) rfl
    · (simp only [gA, gB, gC] <;> rfl)
    · intro γ u W hcur hd
      obtain ⟨⟨h9, -, -⟩, ⟨h10, -, -⟩, -⟩ := hd
      dsimp only at h9 h10
      (try simp only [h9, h10])
      simp [Region.wanted, yielded, undef, *]
    · rfl
    dsimp only [nA, cA]
    apply RGW.off (i := 12) rfl
    · (simp only [gA, gB, gC] <;> rfl)
    · intro γ u W hcur hd
      obtain ⟨⟨h9, -, -⟩, ⟨h11, -, -⟩, -⟩ := hd
      dsimp only at h9 h11
      (try simp only [h9, h11])
      simp [Region.wanted, yielded, undef, *]
    · rfl
    dsimp only [nA, cA]
    apply RGW.off (i := 13) rfl
    · (simp only [gA, gB, gC] <;> rfl)
    · intro γ u W hcur hd
      obtain ⟨⟨h9, -, -⟩, ⟨h12, -, -⟩, -⟩ := hd
      dsimp only at h9 h12
      (try simp only [h9, h12])
      simp [Region.wanted, yielded, undef, *]
    · rfl
    dsimp only [nA, cA]
    apply RGW.off (i := 14) rfl
    · (simp only [gA, gB, gC] <;> rfl)
    · intro γ u W hcur hd
      obtain ⟨⟨h9, -, -⟩, -⟩ := hd
      dsimp only at h9
      (try simp only [h9])
      simp [Region.wanted, yielded, undef, *]
    · rfl
    dsimp only [nA, cA]
    apply RGW.off (i := 15) rfl
    · (simp only [gA, gB, gC] <;> rfl)
    · intro γ u W hcur hd
      obtain ⟨⟨h9, -, -⟩, ⟨h14, -, -⟩, -⟩ := hd
      dsimp only at h9 h14
      (try simp only [h9, h14])
      simp [Region.wanted, yielded, undef, *]
    · rfl
    dsimp only [nA, cA]
    apply RGW.off (i := 16) rfl
    · (simp only [gA, gB, gC] <;> rfl)
    · intro γ u W hcur hd
      obtain ⟨⟨h9, -, -⟩, ⟨h15, -, -⟩, -⟩ := hd
      dsimp only at h9 h15
      (try simp only [h9, h15])
      simp [Region.wanted, yielded, undef, *]
    · rfl
    dsimp only [nA, cA]
    apply RGW.off (i := 17) rfl
    · (simp only [gA, gB, gC] <;> rfl)
    · intro γ u W hcur hd
      obtain ⟨⟨h9, -, -⟩, ⟨h16, -, -⟩, -⟩ := hd
      dsimp only at h9 h16
      (try simp only [h9, h16])
      simp [Region.wanted, yielded, undef, *]
    · rfl
    dsimp only [nA, cA]
    apply RGW.off (i := 18) rfl
    · (simp only [gA, gB, gC] <;> rfl)
    · intro γ u W hcur hd
      obtain ⟨⟨h9, -, -⟩, ⟨h13, -, -⟩, ⟨h17, -, -⟩, -⟩ := hd
      dsimp only at h9 h13 h17
      (try simp only [h9, h13, h17])
      simp [Region.wanted, yielded, undef, *]
    · rfl
    dsimp only [nA, cA]
    apply RGW.on (i := 19) rfl
    · (simp only [gA, gB, gC] <;> rfl)
    · intro γ u W hcur hd
      obtain ⟨⟨h9, -, -⟩, ⟨h18, -, -⟩, -⟩ := hd
      dsimp only at h9 h18
      (try simp only [h9, h18])
      refine ⟨rfl, ?_⟩
      go_simp <;> (try go_bits) <;> with_reducible rfl
    · exact fun _ _ _ => rfl
    · rfl
    dsimp only [nA, cA]
    refine RGW.fin (fun γ u wd hwd hd hdis => ?_)
    obtain ⟨⟨h0, -, -⟩, ⟨h1, -, -⟩, ⟨h2, -, -⟩, ⟨h3, -, -⟩, ⟨h4, -, -⟩, ⟨h5, -, -⟩, ⟨h6, -, -⟩, ⟨h7, -, -⟩, ⟨h8, -, -⟩, ⟨h9, -, -⟩, ⟨h10, -, -⟩, ⟨h11, -, -⟩, ⟨h12, -, -⟩, ⟨h13, -, -⟩, ⟨h14, -, -⟩, ⟨h15, -, -⟩, ⟨h16, -, -⟩, ⟨h17, -, -⟩, ⟨h18, -, -⟩, ⟨h19, -, -⟩, -⟩ := hd
    dsimp only at h0 h1 h2 h3 h4 h5 h6 h7 h8 h9 h10 h11 h12 h13 h14 h15 h16 h17 h18 h19
    clear hdis
    simp only [h0, h1, h2, h3, h4, h5, h6, h7, h8, h9, h10, h11, h12, h13, h14, h15, h16, h17, h18, h19]
    clear h19 h18 h17 h16 h15 h14 h13 h12 h11 h10 h9 h8 h7 h6 h5 h4 h3 h2 h1 h0
    clear u
    simp only [List.map_nil]
    refine PlanW.done ?_
    have hb3 := bl_tt hwd
    go_wp2
    go_ret
    exact ⟨by rw [hr.out]; simp, bl_tr hb0 hwd⟩
  rw [h1] at hr
  cases h2 : decide (s.x.hi ≤ t.x.hi)
  case true =>
    rw [h2] at hr
    go_wp2
    refine wp_any (w0 := wc) ⟨[], [], [some 16, some 17, some 18, some 19, some 20, some 21, some 22, some 23, some 24, some 25, some 26, some 27, some 28, some 29, some 30, some 31, some 32, some 33, some 34, some 35], [[], [0], [0, 1], [0, 1, 2], [], [4], [4, 5], [4, 5, 6], [0, 1, 2, 3, 4, 5, 6, 7], [0, 1, 2, 3, 4, 5, 6, 7, 8], [0, 1, 2, 3, 4, 5, 6, 7, 8, 9], [0, 1, 2, 3, 4, 5, 6, 7, 8, 9, 10], [0, 1, 2, 3, 4, 5, 6, 7, 8, 9, 10, 11], [0, 1, 2, 3, 4, 5, 6, 7, 8, 9, 10, 11, 12], [0, 1, 2, 3, 4, 5, 6, 7, 8, 9], [0, 1, 2, 3, 4, 5, 6, 7, 8, 9, 14], [0, 1, 2, 3, 4, 5, 6, 7, 8, 9, 14, 15], [0, 1, 2, 3, 4, 5, 6, 7, 8, 9, 14, 15, 16], [0, 1, 2, 3, 4, 5, 6, 7, 8, 9, 10, 11, 12, 13, 14, 15, 16, 17], [0, 1, 2, 3, 4, 5, 6, 7, 8, 9, 10, 11, 12, 13, 14, 15, 16, 17, 18]], [[], [0], [1], [2], [], [4], [5], [6], [3, 7], [8], [9], [9, 10], [9, 11], [9, 12], [9], [9, 14], [9, 15], [9, 16], [9, 13, 17], [9, 18]]⟩ (fun _ => []) (by kernel_rfl) (by kernel_rfl) (by (with_reducible (repeat' (first | assumption | apply jA | apply jB | apply jC | apply jD | apply jE | apply jF | apply hb3 | omega | (simp; done) | (simp; omega) | (dsimp only; omega))))) (fun u => by simp only [putD, Act.put, List.setIfInBounds_toArray, List.set_cons_zero, List.set_cons_succ, Nat.zero_add, Nat.reduceAdd]; rfl) ?_
    apply RGW.on (i := 0) rfl
    · (simp only [gA, gB, gC] <;> rfl)
    · intro γ u W hcur hd
      clear hd
      (try dsimp only)
      refine ⟨rfl, ?_⟩
      go_simp <;> (try go_bits) <;> with_reducible rfl
    · exact fun _ _ _ => rfl
    · rfl
    dsimp only [nA, cA]
    apply RGW.on (i := 1) rfl
    · (simp only [gA, gB, gC] <;> rfl)
    · intro γ u W hcur hd
      obtain ⟨⟨h0, -, -⟩, -⟩ := hd
      dsimp only at h0
      (try simp only [h0])
      refine ⟨rfl, ?_⟩
      go_simp <;> (try go_bits) <;> with_reducible rfl
    · exact fun _ _ _ => rfl
    · rfl
    dsimp only [nA, cA]
    apply RGW.on (i := 2) rfl
    · (simp only [gA, gB, gC] <;> rfl)
    · intro γ u W hcur hd
      obtain ⟨⟨h1, -, -⟩, -⟩ := hd
      dsimp only at h1
      (try simp only [h1])
      refine ⟨rfl, ?_⟩
      go_simp <;> (try go_bits) <;> with_reducible rfl
    · exact fun _ _ _ => rfl
    · rfl
    dsimp only [nA, cA]
    apply RGW.on (i := 3) rfl
    · (simp only [gA, gB, gC] <;> rfl)
    · intro γ u W hcur hd
      obtain ⟨⟨h2, -, -⟩, -⟩ := hd
      dsimp only at h2
      (try simp only [h2])
      refine ⟨rfl, ?_⟩
      go_simp <;> (try go_bits) <;> with_reducible rfl
    · exact fun _ _ _ => rfl
    · rfl
    dsimp only [nA, cA]
    apply RGW.on (i := 4) rfl
    · (simp only [gA, gB, gC] <;> rfl)
    · intro γ u W hcur hd
      clear hd
      (try dsimp only)
      refine ⟨rfl, ?_⟩
      go_simp <;> (try go_bits) <;> with_reducible rfl
    · exact fun _ _ _ => rfl
    · rfl
    dsimp only [nA, cA]
    apply RGW.on (i := 5) rfl
    · (simp only [gA, gB, gC] <;> rfl)
    · intro γ u W hcur hd
      obtain ⟨⟨h4, -, -⟩, -⟩ := hd
      dsimp only at h4
      (try simp only [h4])
      refine ⟨rfl, ?_⟩
      go_simp <;> (try go_bits) <;> with_reducible rfl
    · exact fun _ _ _ => rfl
    · rfl
    dsimp only [nA, cA]
    apply RGW.on (i := 6) rfl
    · (simp only [gA, gB, gC] <;> rfl)
    · intro γ u W hcur hd
      obtain ⟨⟨h5, -, -⟩, -⟩ := hd
      dsimp only at h5
      (try simp only [h5])
      refine ⟨rfl, ?_⟩
      go_simp <;> (try go_bits) <;> with_reducible rfl
    · exact fun _ _ _ => rfl
    · rfl
    dsimp only [nA, cA]
    apply RGW.on (i := 7) rfl
    · (simp only [gA, gB, gC] <;> rfl)
    · intro γ u W hcur hd
      obtain ⟨⟨h6, -, -⟩, -⟩ := hd
      dsimp only at h6
      (try simp only [h6])
      refine ⟨rfl, ?_⟩
      go_simp <;> (try go_bits) <;> with_reducible rfl
    · exact fun _ _ _ => rfl
    · rfl
    dsimp only [nA, cA]
    apply RGW.on (i := 8) rfl
    · (simp only [gA, gB, gC] <;> rfl)
    · intro γ u W hcur hd
      obtain ⟨⟨h3, -, -⟩, ⟨h7, -, -⟩, -⟩ := hd
      dsimp only at h3 h7
      (try simp only [h3, h7])
      refine ⟨rfl, ?_⟩
      go_simp <;> (try go_bits) <;> with_reducible rfl
    · exact fun _ _ _ => rfl
    · rfl
    dsimp only [nA, cA]
    apply RGW.on (i := 9) rfl
    · (simp only [gA, gB, gC] <;> rfl)
    · intro γ u W hcur hd
      obtain ⟨⟨h8, -, -⟩, -⟩ := hd
      dsimp only at h8
      (try simp only [h8])
      refine ⟨rfl, ?_⟩
      go_simp <;> (try go_bits) <;> with_reducible rfl
    · exact fun _ _ _ => rfl
    · rfl
    dsimp only [nA, cA]
    apply RGW.on (i := 10) rfl
    · (simp only [gA, gB, gC] <;> rfl)
    · intro γ u W hcur hd
      obtain ⟨⟨h9, -, -⟩, -⟩ := hd
      dsimp only at h9
      (try simp only [h9])
      refine ⟨?_, ?_⟩
      · (simp [Region.wanted, yielded, undef, *]; done)
      go_simp <;> (try go_bits) <;> with_reducible rfl
    · exact fun _ _ _ => rfl
    · rfl
    dsimp only [nA, cA]
    apply RGW.on (i := 11) rfl
    · (simp only [gA, gB, gC] <;> rfl)
    · intro γ u W hcur hd
      obtain ⟨⟨h9, -, -⟩, ⟨h10, -, -⟩, -⟩ := hd
      dsimp only at h9 h10
      (try simp only [h9, h10])
      refine ⟨?_, ?_⟩
      · (simp [Region.wanted, yielded, undef, *]; done)
      go_simp <;> (try go_bits) <;> with_reducible rfl
    · exact fun _ _ _ => rfl
    · rfl
    dsimp only [nA, cA]
    apply RGW.on (i := 12) rfl
    · (simp only [gA, gB, gC] <;> rfl)
    · intro γ u W hcur hd
      obtain ⟨⟨h9, -, -⟩, ⟨h11, -, -⟩, -⟩ := hd
      dsimp only at h9 h11
      (try simp only [h9, h11])
      refine ⟨?_, ?_⟩
      · (simp [Region.wanted, yielded, undef, *]; done)
      go_simp <;> (try go_bits) <;> with_reducible rfl
    · exact fun _ _ _ => rfl
    · rfl
    dsimp only [nA, cA]
    apply RGW.on (i := 13) rfl
    · (simp only [gA, gB, gC] <;> rfl)
    · intro γ u W hcur hd
      obtain ⟨⟨h9, -, -⟩, ⟨h12, -, -⟩, -⟩ := hd
      dsimp only at h9 h12
      (try simp only [h9, h12])
      refine ⟨?_, ?_⟩
      · (simp [Region.wanted, yielded, undef, *]; done)
      go_simp <;> (try go_bits) <;> with_reducible rfl
    · exact fun _ _ _ => rfl
    · rfl
    dsimp only [nA, cA]
    apply RGW.on (i := 14) rfl
    · (simp only [gA, gB, gC] <;> rfl)
    · intro γ u W hcur hd
      obtain ⟨⟨h9, -, -⟩, -⟩ := hd
      dsimp only at h9
      (try simp only [h9])
      refine ⟨?_, ?_⟩
      · (simp [Region.wanted, yielded, undef, *]; done)
      go_simp <;> (try go_bits) <;> with_reducible rfl
    · exact fun _ _ _ => rfl
    · rfl
    dsimp only [nA, cA]
    apply RGW.on (i := 15) rfl
    · (simp only [gA, gB, gC] <;> rfl)
    · intro γ u W hcur hd
      obtain ⟨⟨h9, -, -⟩, ⟨h14, -, -⟩, -⟩ := hd
      dsimp only at h9 h14
      (try simp only [h9, h14])
      refine ⟨?_, ?_⟩
      · (simp [Region.wanted, yielded, undef, *]; done)
      go_simp <;> (try go_bits) <;> with_reducible rfl
    · exact fun _ _ _ => rfl
    · rfl
    dsimp only [nA, cA]
    apply RGW.on (i := 16) rfl
    · (simp only [gA, gB, gC] <;> rfl)
    · intro γ u W hcur hd
      obtain ⟨⟨h9, -, -⟩, ⟨h15, -, -⟩, -⟩ := hd
      dsimp only at h9 h15
      (try simp only [h9, h15])
      refine ⟨?_, ?_⟩
      · (simp [Region.wanted, yielded, undef, *]; done)
      go_simp <;> (try go_bits) <;> with_reducible rfl
    · exact fun _ _ _ => rfl
    · rfl
    dsimp only [nA, cA]
    apply RGW.on (i := 17) rfl
    · (simp only [gA, gB, gC] <;> rfl)
    · intro γ u W hcur hd
      obtain ⟨⟨h9, -, -⟩, ⟨h16, -, -⟩, -⟩ := hd
      dsimp only at h9 h16
      (try simp only [h9, h16])
      refine ⟨?_, ?_⟩
      · (simp [Region.wanted, yielded, undef, *]; done)
      go_simp <;> (try go_bits) <;> with_reducible rfl
    · exact fun _ _ _ => rfl
    · rfl
    dsimp only [nA, cA]
    apply RGW.on (i := 18) rfl
    · (simp only [gA, gB, gC] <;> rfl)
    · intro γ u W hcur hd
      obtain ⟨⟨h9, -, -⟩, ⟨h13, -, -⟩, ⟨h17, -, -⟩, -⟩ := hd
      dsimp only at h9 h13 h17
      (try simp only [h9, h13, h17])
      refine ⟨?_, ?_⟩
      · (simp [Region.wanted, yielded, undef, *]; done)
      go_simp <;> (try go_bits) <;> with_reducible rfl
    · exact fun _ _ _ => rfl
    · rfl
    dsimp only [nA, cA]
    apply RGW.on (i := 19) rfl
    · (simp only [gA, gB, gC] <;> rfl)
    · intro γ u W hcur hd
      obtain ⟨⟨h9, -, -⟩, ⟨h18, -, -⟩, -⟩ := hd
      dsimp only at h9 h18
      (try simp only [h9, h18])
      refine ⟨rfl, ?_⟩
      go_simp <;> (try go_bits) <;> with_reducible rfl
    · exact fun _ _ _ => rfl
    · rfl
    dsimp only [nA, cA]
    refine RGW.fin (fun γ u wd hwd hd hdis => ?_)
    obtain ⟨⟨h0, -, -⟩, ⟨h1, -, -⟩, ⟨h2, -, -⟩, ⟨h3, -, -⟩, ⟨h4, -, -⟩, ⟨h5, -, -⟩, ⟨h6, -, -⟩, ⟨h7, -, -⟩, ⟨h8, -, -⟩, ⟨h9, -, -⟩, ⟨h10, -, -⟩, ⟨h11, -, -⟩, ⟨h12, -, -⟩, ⟨h13, -, -⟩, ⟨h14, -, -⟩, ⟨h15, -, -⟩, ⟨h16, -, -⟩, ⟨h17, -, -⟩, ⟨h18, -, -⟩, ⟨h19, -, -⟩, -⟩ := hd
    dsimp only at h0 h1 h2 h3 h4 h5 h6 h7 h8 h9 h10 h11 h12 h13 h14 h15 h16 h17 h18 h19
    clear hdis
    simp only [h0, h1, h2, h3, h4, h5, h6, h7, h8, h9, h10, h11, h12, h13, h14, h15, h16, h17, h18, h19]
    clear h19 h18 h17 h16 h15 h14 h13 h12 h11 h10 h9 h8 h7 h6 h5 h4 h3 h2 h1 h0
    clear u
    simp only [List.map_nil]
    refine PlanW.done ?_
    have hb3 := bl_tt hwd
    go_wp2
    go_ret
    exact ⟨by rw [hr.out]; simp, bl_tr hb0 hwd⟩
  rw [h2] at hr
  go_wp2
  refine wp_any (w0 := wc) ⟨[], [], [some 16, some 17, some 18, some 19, some 20, some 21, some 22, some 23, some 24, some 25, some 26, some 27, some 28, some 29, some 30, some 31, some 32, some 33, some 34, some 35], [[], [0], [0, 1], [0, 1, 2], [], [4], [4, 5], [4, 5, 6], [0, 1, 2, 3, 4, 5, 6, 7], [0, 1, 2, 3, 4, 5, 6, 7, 8], [0, 1, 2, 3, 4, 5, 6, 7, 8, 9], [0, 1, 2, 3, 4, 5, 6, 7, 8, 9, 10], [0, 1, 2, 3, 4, 5, 6, 7, 8, 9, 10, 11], [0, 1, 2, 3, 4, 5, 6, 7, 8, 9, 10, 11, 12], [0, 1, 2, 3, 4, 5, 6, 7, 8, 9], [0, 1, 2, 3, 4, 5, 6, 7, 8, 9, 14], [0, 1, 2, 3, 4, 5, 6, 7, 8, 9, 14, 15], [0, 1, 2, 3, 4, 5, 6, 7, 8, 9, 14, 15, 16], [0, 1, 2, 3, 4, 5, 6, 7, 8, 9, 10, 11, 12, 13, 14, 15, 16, 17], [0, 1, 2, 3, 4, 5, 6, 7, 8, 9, 10, 11, 12, 13, 14, 15, 16, 17, 18]], [[], [0], [1], [2], [], [4], [5], [6], [3, 7], [8], [9], [9, 10], [9, 11], [9, 12], [9], [9, 14], [9, 15], [9, 16], [9, 13, 17], [9, 18]]⟩ (fun _ => []) (by kernel_rfl) (by kernel_rfl) (by (with_reducible (repeat' (first | assumption | apply jA | apply jB | apply jC | apply jD | apply jE | apply jF | apply hb3 | omega | (simp; done) | (simp; omega) | (dsimp only; omega))))) (fun u => by simp only [putD, Act.put, List.setIfInBounds_toArray, List.set_cons_zero, List.set_cons_succ, Nat.zero_add, Nat.reduceAdd]; rfl) ?_
  apply RGW.on (i := 0) rfl
  · (simp only [gA, gB, gC] <;> rfl)
  · intro γ u W hcur hd
    clear hd
    (try dsimp only)
    refine ⟨rfl, ?_⟩
    go_simp <;> (try go_bits) <;> with_reducible rfl
  · exact fun _ _ _ => rfl
  · rfl
  dsimp only [nA, cA]
  apply RGW.on (i := 1) rfl
  · (simp only [gA, gB, gC] <;> rfl)
  · intro γ u W hcur hd
    obtain ⟨⟨h0, -, -⟩, -⟩ := hd
    dsimp only at h0
    (try simp only [h0])
    refine ⟨rfl, ?_⟩
    go_simp <;> (try go_bits) <;> with_reducible rfl
  · exact fun _ _ _ => rfl
  · rfl
  dsimp only [nA, cA]
  apply RGW.on (i := 2) rfl
  · (simp only [gA, gB, gC] <;> rfl)
  · intro γ u W hcur hd
    obtain ⟨⟨h1, -, -⟩, -⟩ := hd
    dsimp only at h1
    (try simp only [h1])
    refine ⟨rfl, ?_⟩
    go_simp <;> (try go_bits) <;> with_reducible rfl
  · exact fun _ _ _ => rfl
  · rfl
  dsimp only [nA, cA]
  apply RGW.on (i := 3) rfl
  · (simp only [gA, gB, gC] <;> rfl)
  · intro γ u W hcur hd
    obtain ⟨⟨h2, -, -⟩, -⟩ := hd
    dsimp only at h2
    (try simp only [h2])
    refine ⟨rfl, ?_⟩
    go_simp <;> (try go_bits) <;> with_reducible rfl
  · exact fun _ _ _ => rfl
  · rfl
  dsimp only [nA, cA]
  apply RGW.on (i := 4) rfl
  · (simp only [gA, gB, gC] <;> rfl)
  · intro γ u W hcur hd
    clear hd
    (try dsimp only)
    refine ⟨rfl, ?_⟩
    go_simp <;> (try go_bits) <;> with_reducible rfl
  · exact fun _ _ _ => rfl
  · rfl
  dsimp only [nA, cA]
  apply RGW.on (i := 5) rfl
  · (simp only [gA, gB, gC] <;> rfl)
  · intro γ u W hcur hd
    obtain ⟨⟨h4, -, -⟩, -⟩ := hd
    dsimp only at h4
    (try simp only [h4])
    refine ⟨rfl, ?_⟩
    go_simp <;> (try go_bits) <;> with_reducible rfl
  · exact fun _ _ _ => rfl
  · rfl
  dsimp only [nA, cA]
  apply RGW.on (i := 6) rfl
  · (simp only [gA, gB, gC] <;> rfl)
  · intro γ u W hcur hd
    obtain ⟨⟨h5, -, -⟩, -⟩ := hd
    dsimp only at h5
    (try simp only [h5])
    refine ⟨rfl, ?_⟩
    go_simp <;> (try go_bits) <;> with_reducible rfl
  · exact fun _ _ _ => rfl
  · rfl
  dsimp only [nA, cA]
  apply RGW.on (i := 7) rfl
  · (simp only [gA, gB, gC] <;> rfl)
  · intro γ u W hcur hd
    obtain ⟨⟨h6, -, -⟩, -⟩ := hd
    dsimp only at h6
    (try simp only [h6])
    refine ⟨rfl, ?_⟩
    go_simp <;> (try go_bits) <;> with_reducible rfl
  · exact fun _ _ _ => rfl
  · rfl
  dsimp only [nA, cA]
  apply RGW.on (i := 8) rfl
  · (simp only [gA, gB, gC] <;> rfl)
  · intro γ u W hcur hd
    obtain ⟨⟨h3, -, -⟩, ⟨h7, -, -⟩, -⟩ := hd
    dsimp only at h3 h7
    (try simp only [h3, h7])
    refine ⟨rfl, ?_⟩
    go_simp <;> (try go_bits) <;> with_reducible rfl
  · exact fun _ _ _ => rfl
  · rfl
  dsimp only [nA, cA]
  apply RGW.on (i := 9) rfl
  · (simp only [gA, gB, gC] <;> rfl)
  · intro γ u W hcur hd
    obtain ⟨⟨h8, -, -⟩, -⟩ := hd
    dsimp only at h8
    (try simp only [h8])
    refine ⟨rfl, ?_⟩
    go_simp <;> (try go_bits) <;> with_reducible rfl
  · exact fun _ _ _ => rfl
  · rfl
  dsimp only [nA, cA]
  apply RGW.on (i := 10) rfl
  · (simp only [gA, gB, gC] <;> rfl)
  · intro γ u W hcur hd
    obtain ⟨⟨h9, -, -⟩, -⟩ := hd
    dsimp only at h9
    (try simp only [h9])
    refine ⟨?_, ?_⟩
    · (simp [Region.wanted, yielded, undef, *]; done)
    go_simp <;> (try go_bits) <;> with_reducible rfl
  · exact fun _ _ _ => rfl
  · rfl
  dsimp only [nA, cA]
  apply RGW.on (i := 11) rfl
  · (simp only [gA, gB, gC] <;> rfl)
  · intro γ u W hcur hd
    obtain ⟨⟨h9, -, -⟩, ⟨h10, -, -⟩, -⟩ := hd
    dsimp only at h9 h10
    (try simp only [h9, h10])
    refine ⟨?_, ?_⟩
    · (simp [Region.wanted, yielded, undef, *]; done)
    go_simp <;> (try go_bits) <;> with_reducible rfl
  · exact fun _ _ _ => rfl
  · rfl
  dsimp only [nA, cA]
  apply RGW.on (i := 12) rfl
  · (simp only [gA, gB, gC] <;> rfl)
  · intro γ u W hcur hd
    obtain ⟨⟨h9, -, -⟩, ⟨h11, -, -⟩, -⟩ := hd
    dsimp only at h9 h11
    (try simp only [h9, h11])
    refine ⟨?_, ?_⟩
    · (simp [Region.wanted, yielded, undef, *]; done)
    go_simp <;> (try go_bits) <;> with_reducible rfl
  · exact fun _ _ _ => rfl
  · rfl
  dsimp only [nA, cA]
  apply RGW.on (i := 13) rfl
  · (simp only [gA, gB, gC] <;> rfl)
  · intro γ u W hcur hd
    obtain ⟨⟨h9, -, -⟩, ⟨h12, -, -⟩, -⟩ := hd
    dsimp only at h9 h12
    (try simp only [h9, h12])
    refine ⟨?_, ?_⟩
    · (simp [Region.wanted, yielded, undef, *]; done)
    go_simp <;> (try go_bits) <;> with_reducible rfl
  · exact fun _ _ _ => rfl
  · rfl
  dsimp only [nA, cA]
  apply RGW.on (i := 14) rfl
  · (simp only [gA, gB, gC] <;> rfl)
  · intro γ u W hcur hd
    obtain ⟨⟨h9, -, -⟩, -⟩ := hd
    dsimp only at h9
    (try simp only [h9])
    refine ⟨?_, ?_⟩
    · (simp [Region.wanted, yielded, undef, *]; done)
    go_simp <;> (try go_bits) <;> with_reducible rfl
  · exact fun _ _ _ => rfl
  · rfl
  dsimp only [nA, cA]
  apply RGW.on (i := 15) rfl
  · (simp only [gA, gB, gC] <;> rfl)
  · intro γ u W hcur hd
    obtain ⟨⟨h9, -, -⟩, ⟨h14, -, -⟩, -⟩ := hd
    dsimp only at h9 h14
    (try simp only [h9, h14])
    refine ⟨?_, ?_⟩
    · (simp [Region.wanted, yielded, undef, *]; done)
    go_simp <;> (try go_bits) <;> with_reducible rfl
  · exact fun _ _ _ => rfl
  · rfl
  dsimp only [nA, cA]
  apply RGW.on (i := 16) rfl
  · (simp only [gA, gB, gC] <;> rfl)
  · intro γ u W hcur hd
    obtain ⟨⟨h9, -, -⟩, ⟨h15, -, -⟩, -⟩ := hd
    dsimp only at h9 h15
    (try simp only [h9, h15])
    refine ⟨?_, ?_⟩
    · (simp [Region.wanted, yielded, undef, *]; done)
    go_simp <;> (try go_bits) <;> with_reducible rfl
  · exact fun _ _ _ => rfl
  · rfl
  dsimp only [nA, cA]
  apply RGW.on (i := 17) rfl
  · (simp only [gA, gB, gC] <;> rfl)
  · intro γ u W hcur hd
    obtain ⟨⟨h9, -, -⟩, ⟨h16, -, -⟩, -⟩ := hd
    dsimp only at h9 h16
    (try simp only [h9, h16])
    refine ⟨?_, ?_⟩
    · (simp [Region.wanted, yielded, undef, *]; done)
    go_simp <;> (try go_bits) <;> with_reducible rfl
  · exact fun _ _ _ => rfl
  · rfl
  dsimp only [nA, cA]
  apply RGW.on (i := 18) rfl
  · (simp only [gA, gB, gC] <;> rfl)
  · intro γ u W hcur hd
    obtain ⟨⟨h9, -, -⟩, ⟨h13, -, -⟩, ⟨h17, -, -⟩, -⟩ := hd
    dsimp only at h9 h13 h17
    (try simp only [h9, h13, h17])
    refine ⟨?_, ?_⟩
    · (simp [Region.wanted, yielded, undef, *]; done)
    go_simp <;> (try go_bits) <;> with_reducible rfl
  · exact fun _ _ _ => rfl
  · rfl
  dsimp only [nA, cA]
  apply RGW.on (i := 19) rfl
  · (simp only [gA, gB, gC] <;> rfl)
  · intro γ u W hcur hd
    obtain ⟨⟨h9, -, -⟩, ⟨h18, -, -⟩, -⟩ := hd
    dsimp only at h9 h18
    (try simp only [h9, h18])
    refine ⟨rfl, ?_⟩
    go_simp <;> (try go_bits) <;> with_reducible rfl
  · exact fun _ _ _ => rfl
  · rfl
  dsimp only [nA, cA]
  refine RGW.fin (fun γ u wd hwd hd hdis => ?_)
  obtain ⟨⟨h0, -, -⟩, ⟨h1, -, -⟩, ⟨h2, -, -⟩, ⟨h3, -, -⟩, ⟨h4, -, -⟩, ⟨h5, -, -⟩, ⟨h6, -, -⟩, ⟨h7, -, -⟩, ⟨h8, -, -⟩, ⟨h9, -, -⟩, ⟨h10, -, -⟩, ⟨h11, -, -⟩, ⟨h12, -, -⟩, ⟨h13, -, -⟩, ⟨h14, -, -⟩, ⟨h15, -, -⟩, ⟨h16, -, -⟩, ⟨h17, -, -⟩, ⟨h18, -, -⟩, ⟨h19, -, -⟩, -⟩ := hd
  dsimp only at h0 h1 h2 h3 h4 h5 h6 h7 h8 h9 h10 h11 h12 h13 h14 h15 h16 h17 h18 h19
  clear hdis
  simp only [h0, h1, h2, h3, h4, h5, h6, h7, h8, h9, h10, h11, h12, h13, h14, h15, h16, h17, h18, h19]
  clear h19 h18 h17 h16 h15 h14 h13 h12 h11 h10 h9 h8 h7 h6 h5 h4 h3 h2 h1 h0
  clear u
  simp only [List.map_nil]
  refine PlanW.done ?_
  have hb3 := bl_tt hwd
  clear h1 h2
  go_wp2
  apply absRB4 (w0 := w) (g0 := w.heap.size) (g1 := w.heap.size + 1) (g2 := g4) (g3 := g5)
  iterate 5 (focus ((with_reducible (repeat' (first | assumption | apply jA | apply jB | apply jC | apply jD | apply jE | apply jF | apply hb3 | apply jG | apply jH | apply jI | apply jJ | apply jK | apply hb3x | (apply jL; first | (simp; done) | rfl) | apply jM | apply jN | apply jO | apply jP | apply jQ | apply jR | apply jS | apply jT (hb := hb3 _ (jA _)) | omega | (simp; done) | (simp; omega) | (dsimp only; omega)))); done))
  intro wc hb0' k0' k1' k2' k3'
  (try simp only [List.setIfInBounds_toArray, List.set_cons_zero, List.set_cons_succ] at k0' k1' k2' k3')
  try clear hb3
  try clear Lk0
  try clear Fk0
  try clear Qk0
  try clear Lk1
  try clear Fk1
  try clear Qk1
  try clear Lk2
  try clear Fk2
  try clear Qk2
  try clear Lk3
  try clear Fk3
  try clear Qk3
  try clear hb0
  try clear k0
  try clear k1
  try clear k2
  try clear k3
  have hb0 := hb0'; clear hb0'
  have k0 := k0'; clear k0'
  have k1 := k1'; clear k1'
  have k2 := k2'; clear k2'
  have k3 := k3'; clear k3'
  have Lk0 := k0.later
  have Fk0 := k0.laterF
  have Qk0 := k0.lt
  have Lk1 := k1.later
  have Fk1 := k1.laterF
  have Qk1 := k1.lt
  have Lk2 := k2.later
  have Fk2 := k2.laterF
  have Qk2 := k2.lt
  have Lk3 := k3.later
  have Fk3 := k3.laterF
  have Qk3 := k3.lt
  rw [rounds_succ]
  cases h1 : decide (t.y.lo ≤ s.y.lo)
  case true =>
    rw [h1] at hr
    go_wp2
    refine wp_any (w0 := wc) ⟨[], [], [some 16, some 17, some 18, some 19, some 20, some 21, some 22, some 23, some 24, some 25, some 26, some 27, some 28, some 29, some 30, some 31, some 32, some 33, some 34, some 35], [[], [0], [0, 1], [0, 1, 2], [], [4], [4, 5], [4, 5, 6], [0, 1, 2, 3, 4, 5, 6, 7], [0, 1, 2, 3, 4, 5, 6, 7, 8], [0, 1, 2, 3, 4, 5, 6, 7, 8, 9], [0, 1, 2, 3, 4, 5, 6, 7, 8, 9, 10], [0, 1, 2, 3, 4, 5, 6, 7, 8, 9, 10, 11], [0, 1, 2, 3, 4, 5, 6, 7, 8, 9, 10, 11, 12], [0, 1, 2, 3, 4, 5, 6, 7, 8, 9], [0, 1, 2, 3, 4, 5, 6, 7, 8, 9, 14], [0, 1, 2, 3, 4, 5, 6, 7, 8, 9, 14, 15], [0, 1, 2, 3, 4, 5, 6, 7, 8, 9, 14, 15, 16], [0, 1, 2, 3, 4, 5, 6, 7, 8, 9, 10, 11, 12, 13, 14, 15, 16, 17], [0, 1, 2, 3, 4, 5, 6, 7, 8, 9, 10, 11, 12, 13, 14, 15, 16, 17, 18]], [[], [0], [1], [2], [], [4], [5], [6], [3, 7], [8], [9], [9, 10], [9, 11], [9, 12], [9], [9, 14], [9, 15], [9, 16], [9, 13, 17], [9, 18]]⟩ (fun _ => []) (by kernel_rfl) (by kernel_rfl) (by (with_reducible (repeat' (first | assumption | apply jA | apply jB | apply jC | apply jD | apply jE | apply jF | apply hb3 | omega | (simp; done) | (simp; omega) | (dsimp only; omega))))) (fun u => by simp only [putD, Act.put, List.setIfInBounds_toArray, List.set_cons_zero, List.set_cons_succ, Nat.zero_add, Nat.reduceAdd]; rfl) ?_
    apply RGW.on (i := 0) rfl
    · (simp only [gA, gB, gC] <;> rfl)
    · intro γ u W hcur hd
      clear hd
      (try dsimp only)
      refine ⟨rfl, ?_⟩
      go_simp <;> (try go_bits) <;> with_reducible rfl
    · exact fun _ _ _ => rfl
    · rfl
    dsimp only [nA, cA]
    apply RGW.on (i := 1) rfl
    · (simp only [gA, gB, gC] <;> rfl)
    · intro γ u W hcur hd
      obtain ⟨⟨h0, -, -⟩, -⟩ := hd
      dsimp only at h0
      (try simp only [h0])
      refine ⟨rfl, ?_⟩
      go_simp <;> (try go_bits) <;> with_reducible rfl
    · exact fun _ _ _ => rfl
    · rfl
    dsimp only [nA, cA]
    apply RGW.on (i := 2) rfl
    · (simp only [gA, gB, gC] <;> rfl)
    · intro γ u W hcur hd
      obtain ⟨⟨h1, -, -⟩, -⟩ := hd
      dsimp only at h1
      (try simp only [h1])
      refine ⟨rfl, ?_⟩
      go_simp <;> (try go_bits) <;> with_reducible rfl
    · exact fun _ _ _ => rfl
    · rfl
    dsimp only [nA, cA]
    apply RGW.on (i := 3) rfl
    · (simp only [gA, gB, gC] <;> rfl)
    · intro γ u W hcur hd
      obtain ⟨⟨h2, -, -⟩, -⟩ := hd
      dsimp only at h2
      (try simp only [h2])
      refine ⟨rfl, ?_⟩
      go_simp <;> (try go_bits) <;> with_reducible rfl
    · exact fun _ _ _ => rfl
    · rfl
    dsimp only [nA, cA]
    apply RGW.on (i := 4) rfl
    · (simp only [gA, gB, gC] <;> rfl)
    · intro γ u W hcur hd
      clear hd
      (try dsimp only)
      refine ⟨rfl, ?_⟩
      go_simp <;> (try go_bits) <;> with_reducible rfl
    · exact fun _ _ _ => rfl
    · rfl
    dsimp only [nA, cA]
    apply RGW.on (i := 5) rfl
    · (simp only [gA, gB, gC] <;> rfl)
    · intro γ u W hcur hd
      obtain ⟨⟨h4, -, -⟩, -⟩ := hd
      dsimp only at h4
      (try simp only [h4])
      refine ⟨rfl, ?_⟩
      go_simp <;> (try go_bits) <;> with_reducible rfl
    · exact fun _ _ _ => rfl
    · rfl
    dsimp only [nA, cA]
    apply RGW.on (i := 6) rfl
    · (simp only [gA, gB, gC] <;> rfl)
    · intro γ u W hcur hd
      obtain ⟨⟨h5, -, -⟩, -⟩ := hd
      dsimp only at h5
      (try simp only [h5])
      refine ⟨rfl, ?_⟩
      go_simp <;> (try go_bits) <;> with_reducible rfl
    · exact fun _ _ _ => rfl
    · rfl
    dsimp only [nA, cA]
    apply RGW.on (i := 7) rfl
    · (simp only [gA, gB, gC] <;> rfl)
    · intro γ u W hcur hd
      obtain ⟨⟨h6, -, -⟩, -⟩ := hd
      dsimp only at h6
      (try simp only [h6])
      refine ⟨rfl, ?_⟩
      go_simp <;> (try go_bits) <;> with_reducible rfl
    · exact fun _ _ _ => rfl
    · rfl
    dsimp only [nA, cA]
    apply RGW.on (i := 8) rfl
    · (simp only [gA, gB, gC] <;> rfl)
    · intro γ u W hcur hd
      obtain ⟨⟨h3, -, -⟩, ⟨h7, -, -⟩, -⟩ := hd
      dsimp only at h3 h7
      (try simp only [h3, h7])
      refine ⟨rfl, ?_⟩
      go_simp <;> (try go_bits) <;> with_reducible rfl
    · exact fun _ _ _ => rfl
    · rfl
    dsimp only [nA, cA]
    apply RGW.on (i := 9) rfl
    · (simp only [gA, gB, gC] <;> rfl)
    · intro γ u W hcur hd
      obtain ⟨⟨h8, -, -⟩, -⟩ := hd
      dsimp only at h8
      (try simp only [h8])
      refine ⟨rfl, ?_⟩
      go_simp <;> (try go_bits) <;> with_reducible rfl
    · exact fun _ _ _ => rfl
    · rfl
    dsimp only [nA, cA]
    apply RGW.off (i := 10) rfl
    · (simp only [gA, gB, gC] <;> rfl)
    · intro γ u W hcur hd
      obtain ⟨⟨h9, -, -⟩, -⟩ := hd
      dsimp only at h9
      (try simp only [h9])
      simp [Region.wanted, yielded, undef, *]
    · rfl
    dsimp only [nA, cA]
    apply RGW.off (i := 11) rfl
    · (simp only [gA, gB, gC] <;> rfl)
    · intro γ u W hcur hd
      obtain ⟨⟨h9, -, -⟩, ⟨h10, -, -⟩, -⟩ := hd
      dsimp only at h9 h10
      (try simp only [h9, h10])
      simp [Region.wanted, yielded, undef, *]
    · rfl
    dsimp only [nA, cA]
    apply RGW.off (i := 12) rfl
    · (simp only [gA, gB, gC] <;> rfl)
    · intro γ u W hcur hd
      obtain ⟨⟨h9, -, -⟩, ⟨h11, -, -⟩, -⟩ := hd
      dsimp only at h9 h11
      (try simp only [h9, h11])
      simp [Region.wanted, yielded, undef, *]
    · rfl
    dsimp only [nA, cA]
    apply RGW.off (i := 13) rfl
    · (simp only [gA, gB, gC] <;> rfl)
    · intro γ u W hcur hd
      obtain ⟨⟨h9, -, -⟩, ⟨h12, -, -⟩, -⟩ := hd
      dsimp only at h9 h12
      (try simp only [h9, h12])
      simp [Region.wanted, yielded, undef, *]
    · rfl
    dsimp only [nA, cA]
    apply RGW.off (i := 14) rfl
    · (simp only [gA, gB, gC] <;> rfl)
    · intro γ u W hcur hd
      obtain ⟨⟨h9, -, -⟩, -⟩ := hd
      dsimp only at h9
      (try simp only [h9])
      simp [Region.wanted, yielded, undef, *]
    · rfl
    dsimp only [nA, cA]
    apply RGW.off (i := 15) rfl
    · (simp only [gA, gB, gC] <;> rfl)
    · intro γ u W hcur hd
      obtain ⟨⟨h9, -, -⟩, ⟨h14, -, -⟩, -⟩ := hd
      dsimp only at h9 h14
      (try simp only [h9, h14])
      simp [Region.wanted, yielded, undef, *]
    · rfl
    dsimp only [nA, cA]
    apply RGW.off (i := 16) rfl
    · (simp only [gA, gB, gC] <;> rfl)
    · intro γ u W hcur hd
      obtain ⟨⟨h9, -, -⟩, ⟨h15, -, -⟩, -⟩ := hd
      dsimp only at h9 h15
      (try simp only [h9, h15])
      simp [Region.wanted, yielded, undef, *]
    · rfl
    dsimp only [nA, cA]
    apply RGW.off (i := 17) rfl
    · (simp only [gA, gB, gC] <;> rfl)
    · intro γ u W hcur hd
      obtain ⟨⟨h9, -, -⟩, ⟨h16, -, -⟩, -⟩ := hd
      dsimp only at h9 h16
      (try simp only [h9, h16])
      simp [Region.wanted, yielded, undef, *]
    · rfl
    dsimp only [nA, cA]
    apply RGW.off (i := 18) rfl
    · (simp only [gA, gB, gC] <;> rfl)
    · intro γ u W hcur hd
      obtain ⟨⟨h9, -, -⟩, ⟨h13, -, -⟩, ⟨h17, -, -⟩, -⟩ := hd
      dsimp only at h9 h13 h17
      (try simp only [h9, h13, h17])
      simp [Region.wanted, yielded, undef, *]
    · rfl
    dsimp only [nA, cA]
    apply RGW.on (i := 19) rfl
    · (simp only [gA, gB, gC] <;> rfl)
    · intro γ u W hcur hd
      obtain ⟨⟨h9, -, -⟩, ⟨h18, -, -⟩, -⟩ := hd
      dsimp only at h9 h18
      (try simp only [h9, h18])
      refine ⟨rfl, ?_⟩
      go_simp <;> (try go_bits) <;> with_reducible rfl
    · exact fun _ _ _ => rfl
    · rfl
    dsimp only [nA, cA]
    refine RGW.fin (fun γ u wd hwd hd hdis => ?_)
    obtain ⟨⟨h0, -, -⟩, ⟨h1, -, -⟩, ⟨h2, -, -⟩, ⟨h3, -, -⟩, ⟨h4, -, -⟩, ⟨h5, -, -⟩, ⟨h6, -, -⟩, ⟨h7, -, -⟩, ⟨h8, -, -⟩, ⟨h9, -, -⟩, ⟨h10, -, -⟩, ⟨h11, -, -⟩, ⟨h12, -, -⟩, ⟨h13, -, -⟩, ⟨h14, -, -⟩, ⟨h15, -, -⟩, ⟨h16, -, -⟩, ⟨h17, -, -⟩, ⟨h18, -, -⟩, ⟨h19, -, -⟩, -⟩ := hd
    dsimp only at h0 h1 h2 h3 h4 h5 h6 h7 h8 h9 h10 h11 h12 h13 h14 h15 h16 h17 h18 h19
    clear hdis
    simp only [h0, h1, h2, h3, h4, h5, h6, h7, h8, h9, h10, h11, h12, h13, h14, h15, h16, h17, h18, h19]
    clear h19 h18 h17 h16 h15 h14 h13 h12 h11 h10 h9 h8 h7 h6 h5 h4 h3 h2 h1 h0
    clear u
    simp only [List.map_nil]
    refine PlanW.done ?_
    have hb3 := bl_tt hwd
    go_wp2
    go_ret
    exact ⟨by rw [hr.out]; simp, bl_tr hb0 hwd⟩
  rw [h1] at hr
  cases h2 : decide (s.y.hi ≤ t.y.hi)
  case true =>
    rw [h2] at hr
    go_wp2
    refine wp_any (w0 := wc) ⟨[], [], [some 16, some 17, some 18, some 19, some 20, some 21, some 22, some 23, some 24, some 25, some 26, some 27, some 28, some 29, some 30, some 31, some 32, some 33, some 34, some 35], [[], [0], [0, 1], [0, 1, 2], [], [4], [4, 5], [4, 5, 6], [0, 1, 2, 3, 4, 5, 6, 7], [0, 1, 2, 3, 4, 5, 6, 7, 8], [0, 1, 2, 3, 4, 5, 6, 7, 8, 9], [0, 1, 2, 3, 4, 5, 6, 7, 8, 9, 10], [0, 1, 2, 3, 4, 5, 6, 7, 8, 9, 10, 11], [0, 1, 2, 3, 4, 5, 6, 7, 8, 9, 10, 11, 12], [0, 1, 2, 3, 4, 5, 6, 7, 8, 9], [0, 1, 2, 3, 4, 5, 6, 7, 8, 9, 14], [0, 1, 2, 3, 4, 5, 6, 7, 8, 9, 14, 15], [0, 1, 2, 3, 4, 5, 6, 7, 8, 9, 14, 15, 16], [0, 1, 2, 3, 4, 5, 6, 7, 8, 9, 10, 11, 12, 13, 14, 15, 16, 17], [0, 1, 2, 3, 4, 5, 6, 7, 8, 9, 10, 11, 12, 13, 14, 15, 16, 17, 18]], [[], [0], [1], [2], [], [4], [5], [6], [3, 7], [8], [9], [9, 10], [9, 11], [9, 12], [9], [9, 14], [9, 15], [9, 16], [9, 13, 17], [9, 18]]⟩ (fun _ => []) (by kernel_rfl) (by kernel_rfl) (by (with_reducible (repeat' (first | assumption | apply jA | apply jB | apply jC | apply jD | apply jE | apply jF | apply hb3 | omega | (simp; done) | (simp; omega) | (dsimp only; omega))))) (fun u => by simp only [putD, Act.put, List.setIfInBounds_toArray, List.set_cons_zero, List.set_cons_succ, Nat.zero_add, Nat.reduceAdd]; rfl) ?_
    apply RGW.on (i := 0) rfl
    · (simp only [gA, gB, gC] <;> rfl)
    · intro γ u W hcur hd
      clear hd
      (try dsimp only)
      refine ⟨rfl, ?_⟩
      go_simp <;> (try go_bits) <;> with_reducible rfl
    · exact fun _ _ _ => rfl
    · rfl
    dsimp only [nA, cA]
    apply RGW.on (i := 1) rfl
    · (simp only [gA, gB, gC] <;> rfl)
    · intro γ u W hcur hd
      obtain ⟨⟨h0, -, -⟩, -⟩ := hd
      dsimp only at h0
      (try simp only [h0])
      refine ⟨rfl, ?_⟩
      go_simp <;> (try go_bits) <;> with_reducible rfl
    · exact fun _ _ _ => rfl
    · rfl
    dsimp only [nA, cA]
    apply RGW.on (i := 2) rfl
    · (simp only [gA, gB, gC] <;> rfl)
    · intro γ u W hcur hd
      obtain ⟨⟨h1, -, -⟩, -⟩ := hd
      dsimp only at h1
      (try simp only [h1])
      refine ⟨rfl, ?_⟩
      go_simp <;> (try go_bits) <;> with_reducible rfl
    · exact fun _ _ _ => rfl
    · rfl
    dsimp only [nA, cA]
    apply RGW.on (i := 3) rfl
    · (simp only [gA, gB, gC] <;> rfl)
    · intro γ u W hcur hd
      obtain ⟨⟨h2, -, -⟩, -⟩ := hd
      dsimp only at h2
      (try simp only [h2])
      refine ⟨rfl, ?_⟩
      go_simp <;> (try go_bits) <;> with_reducible rfl
    · exact fun _ _ _ => rfl
    · rfl
    dsimp only [nA, cA]
    apply RGW.on (i := 4) rfl
    · (simp only [gA, gB, gC] <;> rfl)
    · intro γ u W hcur hd
      clear hd
      (try dsimp only)
      refine ⟨rfl, ?_⟩
      go_simp <;> (try go_bits) <;> with_reducible rfl
    · exact fun _ _ _ => rfl
    · rfl
    dsimp only [nA, cA]
    apply RGW.on (i := 5) rfl
    · (simp only [gA, gB, gC] <;> rfl)
    · intro γ u W hcur hd
      obtain ⟨⟨h4, -, -⟩, -⟩ := hd
      dsimp only at h4
      (try simp only [h4])
      refine ⟨rfl, ?_⟩
      go_simp <;> (try go_bits) <;> with_reducible rfl
    · exact fun _ _ _ => rfl
    · rfl
    dsimp only [nA, cA]
    apply RGW.on (i := 6) rfl
    · (simp only [gA, gB, gC] <;> rfl)
    · intro γ u W hcur hd
      obtain ⟨⟨h5, -, -⟩, -⟩ := hd
      dsimp only at h5
      (try simp only [h5])
      refine ⟨rfl, ?_⟩
      go_simp <;> (try go_bits) <;> with_reducible rfl
    · exact fun _ _ _ => rfl
    · rfl
    dsimp only [nA, cA]
    apply RGW.on (i := 7) rfl
    · (simp only [gA, gB, gC] <;> rfl)
    · intro γ u W hcur hd
      obtain ⟨⟨h6, -, -⟩, -⟩ := hd
      dsimp only at h6
      (try simp only [h6])
      refine ⟨rfl, ?_⟩
      go_simp <;> (try go_bits) <;> with_reducible rfl
    · exact fun _ _ _ => rfl
    · rfl
    dsimp only [nA, cA]
    apply RGW.on (i := 8) rfl
    · (simp only [gA, gB, gC] <;> rfl)
    · intro γ u W hcur hd
      obtain ⟨⟨h3, -, -⟩, ⟨h7, -, -⟩, -⟩ := hd
      dsimp only at h3 h7
      (try simp only [h3, h7])
      refine ⟨rfl, ?_⟩
      go_simp <;> (try go_bits) <;> with_reducible rfl
    · exact fun _ _ _ => rfl
    · rfl
    dsimp only [nA, cA]
    apply RGW.on (i := 9) rfl
    · (simp only [gA, gB, gC] <;> rfl)
    · intro γ u W hcur hd
      obtain ⟨⟨h8, -, -⟩, -⟩ := hd
      dsimp only at h8
      (try simp only [h8])
      refine ⟨rfl, ?_⟩
      go_simp <;> (try go_bits) <;> with_reducible rfl
    · exact fun _ _ _ => rfl
    · rfl
    dsimp only [nA, cA]
    apply RGW.on (i := 10) rfl
    · (simp only [gA, gB, gC] <;> rfl)
    · intro γ u W hcur hd
      obtain ⟨⟨h9, -, -⟩, -⟩ := hd
      dsimp only at h9
      (try simp only [h9])
      refine ⟨?_, ?_⟩
      · (simp [Region.wanted, yielded, undef, *]; done)
      go_simp <;> (try go_bits) <;> with_reducible rfl
    · exact fun _ _ _ => rfl
    · rfl
    dsimp only [nA, cA]
    apply RGW.on (i := 11) rfl
    · (simp only [gA, gB, gC] <;> rfl)
    · intro γ u W hcur hd
      obtain ⟨⟨h9, -, -⟩, ⟨h10, -, -⟩, -⟩ := hd
      dsimp only at h9 h10
      (try simp only [h9, h10])
      refine ⟨?_, ?_⟩
      · (simp [Region.wanted, yielded, undef, *]; done)
      go_simp <;> (try go_bits) <;> with_reducible rfl
    · exact fun _ _ _ => rfl
    · rfl
    dsimp only [nA, cA]
    apply RGW.on (i := 12) rfl
    · (simp only [gA, gB, gC] <;> rfl)
    · intro γ u W hcur hd
      obtain ⟨⟨h9, -, -⟩, ⟨h11, -, -⟩, -⟩ := hd
      dsimp only at h9 h11
      (try simp only [h9, h11])
      refine ⟨?_, ?_⟩
      · (simp [Region.wanted, yielded, undef, *]; done)
      go_simp <;> (try go_bits) <;> with_reducible rfl
    · exact fun _ _ _ => rfl
    · rfl
    dsimp only [nA, cA]
    apply RGW.on (i := 13) rfl
    · (simp only [gA, gB, gC] <;> rfl)
    · intro γ u W hcur hd
      obtain ⟨⟨h9, -, -⟩, ⟨h12, -, -⟩, -⟩ := hd
      dsimp only at h9 h12
      (try simp only [h9, h12])
      refine ⟨?_, ?_⟩
      · (simp [Region.wanted, yielded, undef, *]; done)
      go_simp <;> (try go_bits) <;> with_reducible rfl
    · exact fun _ _ _ => rfl
    · rfl
    dsimp only [nA, cA]
    apply RGW.on (i := 14) rfl
    · (simp only [gA, gB, gC] <;> rfl)
    · intro γ u W hcur hd
      obtain ⟨⟨h9, -, -⟩, -⟩ := hd
      dsimp only at h9
      (try simp only [h9])
      refine ⟨?_, ?_⟩
      · (simp [Region.wanted, yielded, undef, *]; done)
      go_simp <;> (try go_bits) <;> with_reducible rfl
    · exact fun _ _ _ => rfl
    · rfl
    dsimp only [nA, cA]
    apply RGW.on (i := 15) rfl
    · (simp only [gA, gB, gC] <;> rfl)
    · intro γ u W hcur hd
      obtain ⟨⟨h9, -, -⟩, ⟨h14, -, -⟩, -⟩ := hd
      dsimp only at h9 h14
      (try simp only [h9, h14])
      refine ⟨?_, ?_⟩
      · (simp [Region.wanted, yielded, undef, *]; done)
      go_simp <;> (try go_bits) <;> with_reducible rfl
    · exact fun _ _ _ => rfl
    · rfl
    dsimp only [nA, cA]
    apply RGW.on (i := 16) rfl
    · (simp only [gA, gB, gC] <;> rfl)
    · intro γ u W hcur hd
      obtain ⟨⟨h9, -, -⟩, ⟨h15, -, -⟩, -⟩ := hd
      dsimp only at h9 h15
      (try simp only [h9, h15])
      refine ⟨?_, ?_⟩
      · (simp [Region.wanted, yielded, undef, *]; done)
      go_simp <;> (try go_bits) <;> with_reducible rfl
    · exact fun _ _ _ => rfl
    · rfl
    dsimp only [nA, cA]
    apply RGW.on (i := 17) rfl
    · (simp only [gA, gB, gC] <;> rfl)
    · intro γ u W hcur hd
      obtain ⟨⟨h9, -, -⟩, ⟨h16, -, -⟩, -⟩ := hd
      dsimp only at h9 h16
      (try simp only [h9, h16])
      refine ⟨?_, ?_⟩
      · (simp [Region.wanted, yielded, undef, *]; done)
      go_simp <;> (try go_bits) <;> with_reducible rfl
    · exact fun _ _ _ => rfl
    · rfl
    dsimp only [nA, cA]
    apply RGW.on (i := 18) rfl
    · (simp only [gA, gB, gC] <;> rfl)
    · intro γ u W hcur hd
      obtain ⟨⟨h9, -, -⟩, ⟨h13, -, -⟩, ⟨h17, -, -⟩, -⟩ := hd
      dsimp only at h9 h13 h17
      (try simp only [h9, h13, h17])
      refine ⟨?_, ?_⟩
      · (simp [Region.wanted, yielded, undef, *]; done)
      go_simp <;> (try go_bits) <;> with_reducible rfl
    · exact fun _ _ _ => rfl
    · rfl
    dsimp only [nA, cA]
    apply RGW.on (i := 19) rfl
    · (simp only [gA, gB, gC] <;> rfl)
    · intro γ u W hcur hd
      obtain ⟨⟨h9, -, -⟩, ⟨h18, -, -⟩, -⟩ := hd
      dsimp only at h9 h18
      (try simp only [h9, h18])
      refine ⟨rfl, ?_⟩
      go_simp <;> (try go_bits) <;> with_reducible rfl
    · exact fun _ _ _ => rfl
    · rfl
    dsimp only [nA, cA]
    refine RGW.fin (fun γ u wd hwd hd hdis => ?_)
    obtain ⟨⟨h0, -, -⟩, ⟨h1, -, -⟩, ⟨h2, -, -⟩, ⟨h3, -, -⟩, ⟨h4, -, -⟩, ⟨h5, -, -⟩, ⟨h6, -, -⟩, ⟨h7, -, -⟩, ⟨h8, -, -⟩, ⟨h9, -, -⟩, ⟨h10, -, -⟩, ⟨h11, -, -⟩, ⟨h12, -, -⟩, ⟨h13, -, -⟩, ⟨h14, -, -⟩, ⟨h15, -, -⟩, ⟨h16, -, -⟩, ⟨h17, -, -⟩, ⟨h18, -, -⟩, ⟨h19, -, -⟩, -⟩ := hd
    dsimp only at h0 h1 h2 h3 h4 h5 h6 h7 h8 h9 h10 h11 h12 h13 h14 h15 h16 h17 h18 h19
    clear hdis
    simp only [h0, h1, h2, h3, h4, h5, h6, h7, h8, h9, h10, h11, h12, h13, h14, h15, h16, h17, h18, h19]
    clear h19 h18 h17 h16 h15 h14 h13 h12 h11 h10 h9 h8 h7 h6 h5 h4 h3 h2 h1 h0
    clear u
    simp only [List.map_nil]
    refine PlanW.done ?_
    have hb3 := bl_tt hwd
    go_wp2
    go_ret
    exact ⟨by rw [hr.out]; simp, bl_tr hb0 hwd⟩
  rw [h2] at hr
  go_wp2
  refine wp_any (w0 := wc) ⟨[], [], [some 16, some 17, some 18, some 19, some 20, some 21, some 22, some 23, some 24, some 25, some 26, some 27, some 28, some 29, some 30, some 31, some 32, some 33, some 34, some 35], [[], [0], [0, 1], [0, 1, 2], [], [4], [4, 5], [4, 5, 6], [0, 1, 2, 3, 4, 5, 6, 7], [0, 1, 2, 3, 4, 5, 6, 7, 8], [0, 1, 2, 3, 4, 5, 6, 7, 8, 9], [0, 1, 2, 3, 4, 5, 6, 7, 8, 9, 10], [0, 1, 2, 3, 4, 5, 6, 7, 8, 9, 10, 11], [0, 1, 2, 3, 4, 5, 6, 7, 8, 9, 10, 11, 12], [0, 1, 2, 3, 4, 5, 6, 7, 8, 9], [0, 1, 2, 3, 4, 5, 6, 7, 8, 9, 14], [0, 1, 2, 3, 4, 5, 6, 7, 8, 9, 14, 15], [0, 1, 2, 3, 4, 5, 6, 7, 8, 9, 14, 15, 16], [0, 1, 2, 3, 4, 5, 6, 7, 8, 9, 10, 11, 12, 13, 14, 15, 16, 17], [0, 1, 2, 3, 4, 5, 6, 7, 8, 9, 10, 11, 12, 13, 14, 15, 16, 17, 18]], [[], [0], [1], [2], [], [4], [5], [6], [3, 7], [8], [9], [9, 10], [9, 11], [9, 12], [9], [9, 14], [9, 15], [9, 16], [9, 13, 17], [9, 18]]⟩ (fun _ => []) (by kernel_rfl) (by kernel_rfl) (by (with_reducible (repeat' (first | assumption | apply jA | apply jB | apply jC | apply jD | apply jE | apply jF | apply hb3 | omega | (simp; done) | (simp; omega) | (dsimp only; omega))))) (fun u => by simp only [putD, Act.put, List.setIfInBounds_toArray, List.set_cons_zero, List.set_cons_succ, Nat.zero_add, Nat.reduceAdd]; rfl) ?_
  apply RGW.on (i := 0) rfl
  · (simp only [gA, gB, gC] <;> rfl)
  · intro γ u W hcur hd
    clear hd
    (try dsimp only)
    refine ⟨rfl, ?_⟩
    go_simp <;> (try go_bits) <;> with_reducible rfl
  · exact fun _ _ _ => rfl
  · rfl
  dsimp only [nA, cA]
  apply RGW.on (i := 1) rfl
  · (simp only [gA, gB, gC] <;> rfl)
  · intro γ u W hcur hd
    obtain ⟨⟨h0, -, -⟩, -⟩ := hd
    dsimp only at h0
    (try simp only [h0])
    refine ⟨rfl, ?_⟩
    go_simp <;> (try go_bits) <;> with_reducible rfl
  · exact fun _ _ _ => rfl
  · rfl
  dsimp only [nA, cA]
  apply RGW.on (i := 2) rfl
  · (simp only [gA, gB, gC] <;> rfl)
  · intro γ u W hcur hd
    obtain ⟨⟨h1, -, -⟩, -⟩ := hd
    dsimp only at h1
    (try simp only [h1])
    refine ⟨rfl, ?_⟩
    go_simp <;> (try go_bits) <;> with_reducible rfl
  · exact fun _ _ _ => rfl
  · rfl
  dsimp only [nA, cA]
  apply RGW.on (i := 3) rfl
  · (simp only [gA, gB, gC] <;> rfl)
  · intro γ u W hcur hd
    obtain ⟨⟨h2, -, -⟩, -⟩ := hd
    dsimp only at h2
    (try simp only [h2])
    refine ⟨rfl, ?_⟩
    go_simp <;> (try go_bits) <;> with_reducible rfl
  · exact fun _ _ _ => rfl
  · rfl
  dsimp only [nA, cA]
  apply RGW.on (i := 4) rfl
  · (simp only [gA, gB, gC] <;> rfl)
  · intro γ u W hcur hd
    clear hd
    (try dsimp only)
    refine ⟨rfl, ?_⟩
    go_simp <;> (try go_bits) <;> with_reducible rfl
  · exact fun _ _ _ => rfl
  · rfl
  dsimp only [nA, cA]
  apply RGW.on (i := 5) rfl
  · (simp only [gA, gB, gC] <;> rfl)
  · intro γ u W hcur hd
    obtain ⟨⟨h4, -, -⟩, -⟩ := hd
    dsimp only at h4
    (try simp only [h4])
    refine ⟨rfl, ?_⟩
    go_simp <;> (try go_bits) <;> with_reducible rfl
  · exact fun _ _ _ => rfl
  · rfl
  dsimp only [nA, cA]
  apply RGW.on (i := 6) rfl
  · (simp only [gA, gB, gC] <;> rfl)
  · intro γ u W hcur hd
    obtain ⟨⟨h5, -, -⟩, -⟩ := hd
    dsimp only at h5
    (try simp only [h5])
    refine ⟨rfl, ?_⟩
    go_simp <;> (try go_bits) <;> with_reducible rfl
  · exact fun _ _ _ => rfl
  · rfl
  dsimp only [nA, cA]
  apply RGW.on (i := 7) rfl
  · (simp only [gA, gB, gC] <;> rfl)
  · intro γ u W hcur hd
    obtain ⟨⟨h6, -, -⟩, -⟩ := hd
    dsimp only at h6
    (try simp only [h6])
    refine ⟨rfl, ?_⟩
    go_simp <;> (try go_bits) <;> with_reducible rfl
  · exact fun _ _ _ => rfl
  · rfl
  dsimp only [nA, cA]
  apply RGW.on (i := 8) rfl
  · (simp only [gA, gB, gC] <;> rfl)
  · intro γ u W hcur hd
    obtain ⟨⟨h3, -, -⟩, ⟨h7, -, -⟩, -⟩ := hd
    dsimp only at h3 h7
    (try simp only [h3, h7])
    refine ⟨rfl, ?_⟩
    go_simp <;> (try go_bits) <;> with_reducible rfl
  · exact fun _ _ _ => rfl
  · rfl
  dsimp only [nA, cA]
  apply RGW.on (i := 9) rfl
  · (simp only [gA, gB, gC] <;> rfl)
  · intro γ u W hcur hd
    obtain ⟨⟨h8, -, -⟩, -⟩ := hd
    dsimp only at h8
    (try simp only [h8])
    refine ⟨rfl, ?_⟩
    go_simp <;> (try go_bits) <;> with_reducible rfl
  · exact fun _ _ _ => rfl
  · rfl
  dsimp only [nA, cA]
  apply RGW.on (i := 10) rfl
  · (simp only [gA, gB, gC] <;> rfl)
  · intro γ u W hcur hd
    obtain ⟨⟨h9, -, -⟩, -⟩ := hd
    dsimp only at h9
    (try simp only [h9])
    refine ⟨?_, ?_⟩
    · (simp [Region.wanted, yielded, undef, *]; done)
    go_simp <;> (try go_bits) <;> with_reducible rfl
  · exact fun _ _ _ => rfl
  · rfl
  dsimp only [nA, cA]
  apply RGW.on (i := 11) rfl
  · (simp only [gA, gB, gC] <;> rfl)
  · intro γ u W hcur hd
    obtain ⟨⟨h9, -, -⟩, ⟨h10, -, -⟩, -⟩ := hd
    dsimp only at h9 h10
    (try simp only [h9, h10])
    refine ⟨?_, ?_⟩
    · (simp [Region.wanted, yielded, undef, *]; done)
    go_simp <;> (try go_bits) <;> with_reducible rfl
  · exact fun _ _ _ => rfl
  · rfl
  dsimp only [nA, cA]
  apply RGW.on (i := 12) rfl
  · (simp only [gA, gB, gC] <;> rfl)
  · intro γ u W hcur hd
    obtain ⟨⟨h9, -, -⟩, ⟨h11, -, -⟩, -⟩ := hd
    dsimp only at h9 h11
    (try simp only [h9, h11])
    refine ⟨?_, ?_⟩
    · (simp [Region.wanted, yielded, undef, *]; done)
    go_simp <;> (try go_bits) <;> with_reducible rfl
  · exact fun _ _ _ => rfl
  · rfl
  dsimp only [nA, cA]
  apply RGW.on (i := 13) rfl
  · (simp only [gA, gB, gC] <;> rfl)
  · intro γ u W hcur hd
    obtain ⟨⟨h9, -, -⟩, ⟨h12, -, -⟩, -⟩ := hd
    dsimp only at h9 h12
    (try simp only [h9, h12])
    refine ⟨?_, ?_⟩
    · (simp [Region.wanted, yielded, undef, *]; done)
    go_simp <;> (try go_bits) <;> with_reducible rfl
  · exact fun _ _ _ => rfl
  · rfl
  dsimp only [nA, cA]
  apply RGW.on (i := 14) rfl
  · (simp only [gA, gB, gC] <;> rfl)
  · intro γ u W hcur hd
    obtain ⟨⟨h9, -, -⟩, -⟩ := hd
    dsimp only at h9
    (try simp only [h9])
    refine ⟨?_, ?_⟩
    · (simp [Region.wanted, yielded, undef, *]; done)
    go_simp <;> (try go_bits) <;> with_reducible rfl
  · exact fun _ _ _ => rfl
  · rfl
  dsimp only [nA, cA]
  apply RGW.on (i := 15) rfl
  · (simp only [gA, gB, gC] <;> rfl)
  · intro γ u W hcur hd
    obtain ⟨⟨h9, -, -⟩, ⟨h14, -, -⟩, -⟩ := hd
    dsimp only at h9 h14
    (try simp only [h9, h14])
    refine ⟨?_, ?_⟩
    · (simp [Region.wanted, yielded, undef, *]; done)
    go_simp <;> (try go_bits) <;> with_reducible rfl
  · exact fun _ _ _ => rfl
  · rfl
  dsimp only [nA, cA]
  apply RGW.on (i := 16) rfl
  · (simp only [gA, gB, gC] <;> rfl)
  · intro γ u W hcur hd
    obtain ⟨⟨h9, -, -⟩, ⟨h15, -, -⟩, -⟩ := hd
    dsimp only at h9 h15
    (try simp only [h9, h15])
    refine ⟨?_, ?_⟩
    · (simp [Region.wanted, yielded, undef, *]; done)
    go_simp <;> (try go_bits) <;> with_reducible rfl
  · exact fun _ _ _ => rfl
  · rfl
  dsimp only [nA, cA]
  apply RGW.on (i := 17) rfl
  · (simp only [gA, gB, gC] <;> rfl)
  · intro γ u W hcur hd
    obtain ⟨⟨h9, -, -⟩, ⟨h16, -, -⟩, -⟩ := hd
    dsimp only at h9 h16
    (try simp only [h9, h16])
    refine ⟨?_, ?_⟩
    · (simp [Region.wanted, yielded, undef, *]; done)
    go_simp <;> (try go_bits) <;> with_reducible rfl
  · exact fun _ _ _ => rfl
  · rfl
  dsimp only [nA, cA]
  apply RGW.on (i := 18) rfl
  · (simp only [gA, gB, gC] <;> rfl)
  · intro γ u W hcur hd
    obtain ⟨⟨h9, -, -⟩, ⟨h13, -, -⟩, ⟨h17, -, -⟩, -⟩ := hd
    dsimp only at h9 h13 h17
    (try simp only [h9, h13, h17])
    refine ⟨?_, ?_⟩
    · (simp [Region.wanted, yielded, undef, *]; done)
    go_simp <;> (try go_bits) <;> with_reducible rfl
  · exact fun _ _ _ => rfl
  · rfl
  dsimp only [nA, cA]
  apply RGW.on (i := 19) rfl
  · (simp only [gA, gB, gC] <;> rfl)
  · intro γ u W hcur hd
    obtain ⟨⟨h9, -, -⟩, ⟨h18, -, -⟩, -⟩ := hd
    dsimp only at h9 h18
    (try simp only [h9, h18])
    refine ⟨rfl, ?_⟩
    go_simp <;> (try go_bits) <;> with_reducible rfl
  · exact fun _ _ _ => rfl
  · rfl
  dsimp only [nA, cA]
  refine RGW.fin (fun γ u wd hwd hd hdis => ?_)
  obtain ⟨⟨h0, -, -⟩, ⟨h1, -, -⟩, ⟨h2, -, -⟩, ⟨h3, -, -⟩, ⟨h4, -, -⟩, ⟨h5, -, -⟩, ⟨h6, -, -⟩, ⟨h7, -, -⟩, ⟨h8, -, -⟩, ⟨h9, -, -⟩, ⟨h10, -, -⟩, ⟨h11, -, -⟩, ⟨h12, -, -⟩, ⟨h13, -, -⟩, ⟨h14, -, -⟩, ⟨h15, -, -⟩, ⟨h16, -, -⟩, ⟨h17, -, -⟩, ⟨h18, -, -⟩, ⟨h19, -, -⟩, -⟩ := hd
  dsimp only at h0 h1 h2 h3 h4 h5 h6 h7 h8 h9 h10 h11 h12 h13 h14 h15 h16 h17 h18 h19
  clear hdis
  simp only [h0, h1, h2, h3, h4, h5, h6, h7, h8, h9, h10, h11, h12, h13, h14, h15, h16, h17, h18, h19]
  clear h19 h18 h17 h16 h15 h14 h13 h12 h11 h10 h9 h8 h7 h6 h5 h4 h3 h2 h1 h0
  clear u
  simp only [List.map_nil]
  refine PlanW.done ?_
  have hb3 := bl_tt hwd
  clear h1 h2
  go_wp2
  apply absRB4 (w0 := w) (g0 := w.heap.size) (g1 := w.heap.size + 1) (g2 := g4) (g3 := g5)
  iterate 5 (focus ((with_reducible (repeat' (first | assumption | apply jA | apply jB | apply jC | apply jD | apply jE | apply jF | apply hb3 | apply jG | apply jH | apply jI | apply jJ | apply jK | apply hb3x | (apply jL; first | (simp; done) | rfl) | apply jM | apply jN | apply jO | apply jP | apply jQ | apply jR | apply jS | apply jT (hb := hb3 _ (jA _)) | omega | (simp; done) | (simp; omega) | (dsimp only; omega)))); done))
  intro wc hb0' k0' k1' k2' k3'
  (try simp only [List.setIfInBounds_toArray, List.set_cons_zero, List.set_cons_succ] at k0' k1' k2' k3')
  try clear hb3
  try clear Lk0
  try clear Fk0
  try clear Qk0
  try clear Lk1
  try clear Fk1
  try clear Qk1
  try clear Lk2
  try clear Fk2
  try clear Qk2
  try clear Lk3
  try clear Fk3
  try clear Qk3
  try clear hb0
  try clear k0
  try clear k1
  try clear k2
  try clear k3
  have hb0 := hb0'; clear hb0'
  have k0 := k0'; clear k0'
  have k1 := k1'; clear k1'
  have k2 := k2'; clear k2'
  have k3 := k3'; clear k3'
  have Lk0 := k0.later
  have Fk0 := k0.laterF
  have Qk0 := k0.lt
  have Lk1 := k1.later
  have Fk1 := k1.laterF
  have Qk1 := k1.lt
  have Lk2 := k2.later
  have Fk2 := k2.laterF
  have Qk2 := k2.lt
  have Lk3 := k3.later
  have Fk3 := k3.laterF
  have Qk3 := k3.lt
  rw [rounds_succ]
  cases h1 : decide (t.z.lo ≤ s.z.lo)
  case true =>
    rw [h1] at hr
    go_wp2
    refine wp_any (w0 := wc) ⟨[], [], [some 16, some 17, some 18, some 19, some 20, some 21, some 22, some 23, some 24, some 25, some 26, some 27, some 28, some 29, some 30, some 31, some 32, some 33, some 34, some 35], [[], [0], [0, 1], [0, 1, 2], [], [4], [4, 5], [4, 5, 6], [0, 1, 2, 3, 4, 5, 6, 7], [0, 1, 2, 3, 4, 5, 6, 7, 8], [0, 1, 2, 3, 4, 5, 6, 7, 8, 9], [0, 1, 2, 3, 4, 5, 6, 7, 8, 9, 10], [0, 1, 2, 3, 4, 5, 6, 7, 8, 9, 10, 11], [0, 1, 2, 3, 4, 5, 6, 7, 8, 9, 10, 11, 12], [0, 1, 2, 3, 4, 5, 6, 7, 8, 9], [0, 1, 2, 3, 4, 5, 6, 7, 8, 9, 14], [0, 1, 2, 3, 4, 5, 6, 7, 8, 9, 14, 15], [0, 1, 2, 3, 4, 5, 6, 7, 8, 9, 14, 15, 16], [0, 1, 2, 3, 4, 5, 6, 7, 8, 9, 10, 11, 12, 13, 14, 15, 16, 17], [0, 1, 2, 3, 4, 5, 6, 7, 8, 9, 10, 11, 12, 13, 14, 15, 16, 17, 18]], [[], [0], [1], [2], [], [4], [5], [6], [3, 7], [8], [9], [9, 10], [9, 11], [9, 12], [9], [9, 14], [9, 15], [9, 16], [9, 13, 17], [9, 18]]⟩ (fun _ => []) (by kernel_rfl) (by kernel_rfl) (by (with_reducible (repeat' (first | assumption | apply jA | apply jB | apply jC | apply jD | apply jE | apply jF | apply hb3 | omega | (simp; done) | (simp; omega) | (dsimp only; omega))))) (fun u => by simp only [putD, Act.put, List.setIfInBounds_toArray, List.set_cons_zero, List.set_cons_succ, Nat.zero_add, Nat.reduceAdd]; rfl) ?_
    apply RGW.on (i := 0) rfl
    · (simp only [gA, gB, gC] <;> rfl)
    · intro γ u W hcur hd
      clear hd
      (try dsimp only)
      refine ⟨rfl, ?_⟩
      go_simp <;> (try go_bits) <;> with_reducible rfl
    · exact fun _ _ _ => rfl
    · rfl
    dsimp only [nA, cA]
    apply RGW.on (i := 1) rfl
    · (simp only [gA, gB, gC] <;> rfl)
    · intro γ u W hcur hd
      obtain ⟨⟨h0, -, -⟩, -⟩ := hd
      dsimp only at h0
      (try simp only [h0])
      refine ⟨rfl, ?_⟩
      go_simp <;> (try go_bits) <;> with_reducible rfl
    · exact fun _ _ _ => rfl
    · rfl
    dsimp only [nA, cA]
    apply RGW.on (i := 2) rfl
    · (simp only [gA, gB, gC] <;> rfl)
    · intro γ u W hcur hd
      obtain ⟨⟨h1, -, -⟩, -⟩ := hd
      dsimp only at h1
      (try simp only [h1])
      refine ⟨rfl, ?_⟩
      go_simp <;> (try go_bits) <;> with_reducible rfl
    · exact fun _ _ _ => rfl
    · rfl
    dsimp only [nA, cA]
    apply RGW.on (i := 3) rfl
    · (simp only [gA, gB, gC] <;> rfl)
    · intro γ u W hcur hd
      obtain ⟨⟨h2, -, -⟩, -⟩ := hd
      dsimp only at h2
      (try simp only [h2])
      refine ⟨rfl, ?_⟩
      go_simp <;> (try go_bits) <;> with_reducible rfl
    · exact fun _ _ _ => rfl
    · rfl
    dsimp only [nA, cA]
    apply RGW.on (i := 4) rfl
    · (simp only [gA, gB, gC] <;> rfl)
    · intro γ u W hcur hd
      clear hd
      (try dsimp only)
      refine ⟨rfl, ?_⟩
      go_simp <;> (try go_bits) <;> with_reducible rfl
    · exact fun _ _ _ => rfl
    · rfl
    dsimp only [nA, cA]
    apply RGW.on (i := 5) rfl
    · (simp only [gA, gB, gC] <;> rfl)
    · intro γ u W hcur hd
      obtain ⟨⟨h4, -, -⟩, -⟩ := hd
      dsimp only at h4
      (try simp only [h4])
      refine ⟨rfl, ?_⟩
      go_simp <;> (try go_bits) <;> with_reducible rfl
    · exact fun _ _ _ => rfl
    · rfl
    dsimp only [nA, cA]
    apply RGW.on (i := 6) rfl
    · (simp only [gA, gB, gC] <;> rfl)
    · intro γ u W hcur hd
      obtain ⟨⟨h5, -, -⟩, -⟩ := hd
      dsimp only at h5
      (try simp only [h5])
      refine ⟨rfl, ?_⟩
      go_simp <;> (try go_bits) <;> with_reducible rfl
    · exact fun _ _ _ => rfl
    · rfl
    dsimp only [nA, cA]
    apply RGW.on (i := 7) rfl
    · (simp only [gA, gB, gC] <;> rfl)
    · intro γ u W hcur hd
      obtain ⟨⟨h6, -, -⟩, -⟩ := hd
      dsimp only at h6
      (try simp only [h6])
      refine ⟨rfl, ?_⟩
      go_simp <;> (try go_bits) <;> with_reducible rfl
    · exact fun _ _ _ => rfl
    · rfl
    dsimp only [nA, cA]
    apply RGW.on (i := 8) rfl
    · (simp only [gA, gB, gC] <;> rfl)
    · intro γ u W hcur hd
      obtain ⟨⟨h3, -, -⟩, ⟨h7, -, -⟩, -⟩ := hd
      dsimp only at h3 h7
      (try simp only [h3, h7])
      refine ⟨rfl, ?_⟩
      go_simp <;> (try go_bits) <;> with_reducible rfl
    · exact fun _ _ _ => rfl
    · rfl
    dsimp only [nA, cA]
    apply RGW.on (i := 9) rfl
    · (simp only [gA, gB, gC] <;> rfl)
    · intro γ u W hcur hd
      obtain ⟨⟨h8, -, -⟩, -⟩ := hd
      dsimp only at h8
      (try simp only [h8])
      refine ⟨rfl, ?_⟩
      go_simp <;> (try go_bits) <;> with_reducible rfl
    · exact fun _ _ _ => rfl
    · rfl
    dsimp only [nA, cA]
    apply RGW.off (i := 10) rfl
    · (simp only [gA, gB, gC] <;> rfl)
    · intro γ u W hcur hd
      obtain ⟨⟨h9, -, -⟩, -⟩ := hd
      dsimp only at h9
      (try simp only [h9])
      simp [Region.wanted, yielded, undef, *]
    · rfl
    dsimp only [nA, cA]
    apply RGW.off (i := 11) rfl
    · (simp only [gA, gB, gC] <;> rfl)
    · intro γ u W hcur hd
      obtain ⟨⟨h9, -, -⟩, ⟨h10, -, -⟩, -⟩ := hd
      dsimp only at h9 h10
      (try simp only [h9, h10])
      simp [Region.wanted, yielded, undef, *]
    · rfl
    dsimp only [nA, cA]
    apply RGW.off (i := 12) rfl
    · (simp only [gA, gB, gC] <;> rfl)
    · intro γ u W hcur hd
      obtain ⟨⟨h9, -, -⟩, ⟨h11, -, -⟩, -⟩ := hd
      dsimp only at h9 h11
      (try simp only [h9, h11])
      simp [Region.wanted, yielded, undef, *]
    · rfl
    dsimp only [nA, cA]
    apply RGW.off (i := 13) rfl
    · (simp only [gA, gB, gC] <;> rfl)
    · intro γ u W hcur hd
      obtain ⟨⟨h9, -, -⟩, ⟨h12, -, -⟩, -⟩ := hd
      dsimp only at h9 h12
      (try simp only [h9, h12])
      simp [Region.wanted, yielded, undef, *]
    · rfl
    dsimp only [nA, cA]
    apply RGW.off (i := 14) rfl
    · (simp only [gA, gB, gC] <;> rfl)
    · intro γ u W hcur hd
      obtain ⟨⟨h9, -, -⟩, -⟩ := hd
      dsimp only at h9
      (try simp only [h9])
      simp [Region.wanted, yielded, undef, *]
    · rfl
    dsimp only [nA, cA]
    apply RGW.off (i := 15) rfl
    · (simp only [gA, gB, gC] <;> rfl)
    · intro γ u W hcur hd
      obtain ⟨⟨h9, -, -⟩, ⟨h14, -, -⟩, -⟩ := hd
      dsimp only at h9 h14
      (try simp only [h9, h14])
      simp [Region.wanted, yielded, undef, *]
    · rfl
    dsimp only [nA, cA]
    apply RGW.off (i := 16) rfl
    · (simp only [gA, gB, gC] <;> rfl)
    · intro γ u W hcur hd
      obtain ⟨⟨h9, -, -⟩, ⟨h15, -, -⟩, -⟩ := hd
      dsimp only at h9 h15
      (try simp only [h9, h15])
      simp [Region.wanted, yielded, undef, *]
    · rfl
    dsimp only [nA, cA]
    apply RGW.off (i := 17) rfl
    · (simp only [gA, gB, gC] <;> rfl)
    · intro γ u W hcur hd
      obtain ⟨⟨h9, -, -⟩, ⟨h16, -, -⟩, -⟩ := hd
      dsimp only at h9 h16
      (try simp only [h9, h16])
      simp [Region.wanted, yielded, undef, *]
    · rfl
    dsimp only [nA, cA]
    apply RGW.off (i := 18) rfl
    · (simp only [gA, gB, gC] <;> rfl)
    · intro γ u W hcur hd
      obtain ⟨⟨h9, -, -⟩, ⟨h13, -, -⟩, ⟨h17, -, -⟩, -⟩ := hd
      dsimp only at h9 h13 h17
      (try simp only [h9, h13, h17])
      simp [Region.wanted, yielded, undef, *]
    · rfl
    dsimp only [nA, cA]
    apply RGW.on (i := 19) rfl
    · (simp only [gA, gB, gC] <;> rfl)
    · intro γ u W hcur hd
      obtain ⟨⟨h9, -, -⟩, ⟨h18, -, -⟩, -⟩ := hd
      dsimp only at h9 h18
      (try simp only [h9, h18])
      refine ⟨rfl, ?_⟩
      go_simp <;> (try go_bits) <;> with_reducible rfl
    · exact fun _ _ _ => rfl
    · rfl
    dsimp only [nA, cA]
    refine RGW.fin (fun γ u wd hwd hd hdis => ?_)
    obtain ⟨⟨h0, -, -⟩, ⟨h1, -, -⟩, ⟨h2, -, -⟩, ⟨h3, -, -⟩, ⟨h4, -, -⟩, ⟨h5, -, -⟩, ⟨h6, -, -⟩, ⟨h7, -, -⟩, ⟨h8, -, -⟩, ⟨h9, -, -⟩, ⟨h10, -, -⟩, ⟨h11, -, -⟩, ⟨h12, -, -⟩, ⟨h13, -, -⟩, ⟨h14, -, -⟩, ⟨h15, -, -⟩, ⟨h16, -, -⟩, ⟨h17, -, -⟩, ⟨h18, -, -⟩, ⟨h19, -, -⟩, -⟩ := hd
    dsimp only at h0 h1 h2 h3 h4 h5 h6 h7 h8 h9 h10 h11 h12 h13 h14 h15 h16 h17 h18 h19
    clear hdis
    simp only [h0, h1, h2, h3, h4, h5, h6, h7, h8, h9, h10, h11, h12, h13, h14, h15, h16, h17, h18, h19]
    clear h19 h18 h17 h16 h15 h14 h13 h12 h11 h10 h9 h8 h7 h6 h5 h4 h3 h2 h1 h0
    clear u
    simp only [List.map_nil]
    refine PlanW.done ?_
    have hb3 := bl_tt hwd
    go_wp2
    go_ret
    exact ⟨by rw [hr.out]; simp, bl_tr hb0 hwd⟩
  rw [h1] at hr
  cases h2 : decide (s.z.hi ≤ t.z.hi)
  case true =>
    rw [h2] at hr
    go_wp2
    refine wp_any (w0 := wc) ⟨[], [], [some 16, some 17, some 18, some 19, some 20, some 21, some 22, some 23, some 24, some 25, some 26, some 27, some 28, some 29, some 30, some 31, some 32, some 33, some 34, some 35], [[], [0], [0, 1], [0, 1, 2], [], [4], [4, 5], [4, 5, 6], [0, 1, 2, 3, 4, 5, 6, 7], [0, 1, 2, 3, 4, 5, 6, 7, 8], [0, 1, 2, 3, 4, 5, 6, 7, 8, 9], [0, 1, 2, 3, 4, 5, 6, 7, 8, 9, 10], [0, 1, 2, 3, 4, 5, 6, 7, 8, 9, 10, 11], [0, 1, 2, 3, 4, 5, 6, 7, 8, 9, 10, 11, 12], [0, 1, 2, 3, 4, 5, 6, 7, 8, 9], [0, 1, 2, 3, 4, 5, 6, 7, 8, 9, 14], [0, 1, 2, 3, 4, 5, 6, 7, 8, 9, 14, 15], [0, 1, 2, 3, 4, 5, 6, 7, 8, 9, 14, 15, 16], [0, 1, 2, 3, 4, 5, 6, 7, 8, 9, 10, 11, 12, 13, 14, 15, 16, 17], [0, 1, 2, 3, 4, 5, 6, 7, 8, 9, 10, 11, 12, 13, 14, 15, 16, 17, 18]], [[], [0], [1], [2], [], [4], [5], [6], [3, 7], [8], [9], [9, 10], [9, 11], [9, 12], [9], [9, 14], [9, 15], [9, 16], [9, 13, 17], [9, 18]]⟩ (fun _ => []) (by kernel_rfl) (by kernel_rfl) (by (with_reducible (repeat' (first | assumption | apply jA | apply jB | apply jC | apply jD | apply jE | apply jF | apply hb3 | omega | (simp; done) | (simp; omega) | (dsimp only; omega))))) (fun u => by simp only [putD, Act.put, List.setIfInBounds_toArray, List.set_cons_zero, List.set_cons_succ, Nat.zero_add, Nat.reduceAdd]; rfl) ?_
    apply RGW.on (i := 0) rfl
    · (simp only [gA, gB, gC] <;> rfl)
    · intro γ u W hcur hd
      clear hd
      (try dsimp only)
      refine ⟨rfl, ?_⟩
      go_simp <;> (try go_bits) <;> with_reducible rfl
    · exact fun _ _ _ => rfl
    · rfl
    dsimp only [nA, cA]
    apply RGW.on (i := 1) rfl
    · (simp only [gA, gB, gC] <;> rfl)
    · intro γ u W hcur hd
      obtain ⟨⟨h0, -, -⟩, -⟩ := hd
      dsimp only at h0
      (try simp only [h0])
      refine ⟨rfl, ?_⟩
      go_simp <;> (try go_bits) <;> with_reducible rfl
    · exact fun _ _ _ => rfl
    · rfl
    dsimp only [nA, cA]
    apply RGW.on (i := 2) rfl
    · (simp only [gA, gB, gC] <;> rfl)
    · intro γ u W hcur hd
      obtain ⟨⟨h1, -, -⟩, -⟩ := hd
      dsimp only at h1
      (try simp only [h1])
      refine ⟨rfl, ?_⟩
      go_simp <;> (try go_bits) <;> with_reducible rfl
    · exact fun _ _ _ => rfl
    · rfl
    dsimp only [nA, cA]
    apply RGW.on (i := 3) rfl
    · (simp only [gA, gB, gC] <;> rfl)
    · intro γ u W hcur hd
      obtain ⟨⟨h2, -, -⟩, -⟩ := hd
      dsimp only at h2
      (try simp only [h2])
      refine ⟨rfl, ?_⟩
      go_simp <;> (try go_bits) <;> with_reducible rfl
    · exact fun _ _ _ => rfl
    · rfl
    dsimp only [nA, cA]
    apply RGW.on (i := 4) rfl
    · (simp only [gA, gB, gC] <;> rfl)
    · intro γ u W hcur hd
      clear hd
      (try dsimp only)
      refine ⟨rfl, ?_⟩
      go_simp <;> (try go_bits) <;> with_reducible rfl
    · exact fun _ _ _ => rfl
    · rfl
    dsimp only [nA, cA]
    apply RGW.on (i := 5) rfl
    · (simp only [gA, gB, gC] <;> rfl)
    · intro γ u W hcur hd
      obtain ⟨⟨h4, -, -⟩, -⟩ := hd
      dsimp only at h4
      (try simp only [h4])
      refine ⟨rfl, ?_⟩
      go_simp <;> (try go_bits) <;> with_reducible rfl
    · exact fun _ _ _ => rfl
    · rfl
    dsimp only [nA, cA]
    apply RGW.on (i := 6) rfl
    · (simp only [gA, gB, gC] <;> rfl)
    · intro γ u W hcur hd
      obtain ⟨⟨h5, -, -⟩, -⟩ := hd
      dsimp only at h5
      (try simp only [h5])
      refine ⟨rfl, ?_⟩
      go_simp <;> (try go_bits) <;> with_reducible rfl
    · exact fun _ _ _ => rfl
    · rfl
    dsimp only [nA, cA]
    apply RGW.on (i := 7) rfl
    · (simp only [gA, gB, gC] <;> rfl)
    · intro γ u W hcur hd
      obtain ⟨⟨h6, -, -⟩, -⟩ := hd
      dsimp only at h6
      (try simp only [h6])
      refine ⟨rfl, ?_⟩
      go_simp <;> (try go_bits) <;> with_reducible rfl
    · exact fun _ _ _ => rfl
    · rfl
    dsimp only [nA, cA]
    apply RGW.on (i := 8) rfl
    · (simp only [gA, gB, gC] <;> rfl)
    · intro γ u W hcur hd
      obtain ⟨⟨h3, -, -⟩, ⟨h7, -, -⟩, -⟩ := hd
      dsimp only at h3 h7
      (try simp only [h3, h7])
      refine ⟨rfl, ?_⟩
      go_simp <;> (try go_bits) <;> with_reducible rfl
    · exact fun _ _ _ => rfl
    · rfl
    dsimp only [nA, cA]
    apply RGW.on (i := 9) rfl
    · (simp only [gA, gB, gC] <;> rfl)
    · intro γ u W hcur hd
      obtain ⟨⟨h8, -, -⟩, -⟩ := hd
      dsimp only at h8
      (try simp only [h8])
      refine ⟨rfl, ?_⟩
      go_simp <;> (try go_bits) <;> with_reducible rfl
    · exact fun _ _ _ => rfl
    · rfl
    dsimp only [nA, cA]
    apply RGW.on (i := 10) rfl
    · (simp only [gA, gB, gC] <;> rfl)
    · intro γ u W hcur hd
      obtain ⟨⟨h9, -, -⟩, -⟩ := hd
      dsimp only at h9
      (try simp only [h9])
      refine ⟨?_, ?_⟩
      · (simp [Region.wanted, yielded, undef, *]; done)
      go_simp <;> (try go_bits) <;> with_reducible rfl
    · exact fun _ _ _ => rfl
    · rfl
    dsimp only [nA, cA]
    apply RGW.on (i := 11) rfl
    · (simp only [gA, gB, gC] <;> rfl)
    · intro γ u W hcur hd
      obtain ⟨⟨h9, -, -⟩, ⟨h10, -, -⟩, -⟩ := hd
      dsimp only at h9 h10
      (try simp only [h9, h10])
      refine ⟨?_, ?_⟩
      · (simp [Region.wanted, yielded, undef, *]; done)
      go_simp <;> (try go_bits) <;> with_reducible rfl
    · exact fun _ _ _ => rfl
    · rfl
    dsimp only [nA, cA]
    apply RGW.on (i := 12) rfl
    · (simp only [gA, gB, gC] <;> rfl)
    · intro γ u W hcur hd
      obtain ⟨⟨h9, -, -⟩, ⟨h11, -, -⟩, -⟩ := hd
      dsimp only at h9 h11
      (try simp only [h9, h11])
      refine ⟨?_, ?_⟩
      · (simp [Region.wanted, yielded, undef, *]; done)
      go_simp <;> (try go_bits) <;> with_reducible rfl
    · exact fun _ _ _ => rfl
    · rfl
    dsimp only [nA, cA]
    apply RGW.on (i := 13) rfl
    · (simp only [gA, gB, gC] <;> rfl)
    · intro γ u W hcur hd
      obtain ⟨⟨h9, -, -⟩, ⟨h12, -, -⟩, -⟩ := hd
      dsimp only at h9 h12
      (try simp only [h9, h12])
      refine ⟨?_, ?_⟩
      · (simp [Region.wanted, yielded, undef, *]; done)
      go_simp <;> (try go_bits) <;> with_reducible rfl
    · exact fun _ _ _ => rfl
    · rfl
    dsimp only [nA, cA]
    apply RGW.on (i := 14) rfl
    · (simp only [gA, gB, gC] <;> rfl)
    · intro γ u W hcur hd
      obtain ⟨⟨h9, -, -⟩, -⟩ := hd
      dsimp only at h9
      (try simp only [h9])
      refine ⟨?_, ?_⟩
      · (simp [Region.wanted, yielded, undef, *]; done)
      go_simp <;> (try go_bits) <;> with_reducible rfl
    · exact fun _ _ _ => rfl
    · rfl
    dsimp only [nA, cA]
    apply RGW.on (i := 15) rfl
    · (simp only [gA, gB, gC] <;> rfl)
    · intro γ u W hcur hd
      obtain ⟨⟨h9, -, -⟩, ⟨h14, -, -⟩, -⟩ := hd
      dsimp only at h9 h14
      (try simp only [h9, h14])
      refine ⟨?_, ?_⟩
      · (simp [Region.wanted, yielded, undef, *]; done)
      go_simp <;> (try go_bits) <;> with_reducible rfl
    · exact fun _ _ _ => rfl
    · rfl
    dsimp only [nA, cA]
    apply RGW.on (i := 16) rfl
    · (simp only [gA, gB, gC] <;> rfl)
    · intro γ u W hcur hd
      obtain ⟨⟨h9, -, -⟩, ⟨h15, -, -⟩, -⟩ := hd
      dsimp only at h9 h15
      (try simp only [h9, h15])
      refine ⟨?_, ?_⟩
      · (simp [Region.wanted, yielded, undef, *]; done)
      go_simp <;> (try go_bits) <;> with_reducible rfl
    · exact fun _ _ _ => rfl
    · rfl
    dsimp only [nA, cA]
    apply RGW.on (i := 17) rfl
    · (simp only [gA, gB, gC] <;> rfl)
    · intro γ u W hcur hd
      obtain ⟨⟨h9, -, -⟩, ⟨h16, -, -⟩, -⟩ := hd
      dsimp only at h9 h16
      (try simp only [h9, h16])
      refine ⟨?_, ?_⟩
      · (simp [Region.wanted, yielded, undef, *]; done)
      go_simp <;> (try go_bits) <;> with_reducible rfl
    · exact fun _ _ _ => rfl
    · rfl
    dsimp only [nA, cA]
    apply RGW.on (i := 18) rfl
    · (simp only [gA, gB, gC] <;> rfl)
    · intro γ u W hcur hd
      obtain ⟨⟨h9, -, -⟩, ⟨h13, -, -⟩, ⟨h17, -, -⟩, -⟩ := hd
      dsimp only at h9 h13 h17
      (try simp only [h9, h13, h17])
      refine ⟨?_, ?_⟩
      · (simp [Region.wanted, yielded, undef, *]; done)
      go_simp <;> (try go_bits) <;> with_reducible rfl
    · exact fun _ _ _ => rfl
    · rfl
    dsimp only [nA, cA]
    apply RGW.on (i := 19) rfl
    · (simp only [gA, gB, gC] <;> rfl)
    · intro γ u W hcur hd
      obtain ⟨⟨h9, -, -⟩, ⟨h18, -, -⟩, -⟩ := hd
      dsimp only at h9 h18
      (try simp only [h9, h18])
      refine ⟨rfl, ?_⟩
      go_simp <;> (try go_bits) <;> with_reducible rfl
    · exact fun _ _ _ => rfl
    · rfl
    dsimp only [nA, cA]
    refine RGW.fin (fun γ u wd hwd hd hdis => ?_)
    obtain ⟨⟨h0, -, -⟩, ⟨h1, -, -⟩, ⟨h2, -, -⟩, ⟨h3, -, -⟩, ⟨h4, -, -⟩, ⟨h5, -, -⟩, ⟨h6, -, -⟩, ⟨h7, -, -⟩, ⟨h8, -, -⟩, ⟨h9, -, -⟩, ⟨h10, -, -⟩, ⟨h11, -, -⟩, ⟨h12, -, -⟩, ⟨h13, -, -⟩, ⟨h14, -, -⟩, ⟨h15, -, -⟩, ⟨h16, -, -⟩, ⟨h17, -, -⟩, ⟨h18, -, -⟩, ⟨h19, -, -⟩, -⟩ := hd
    dsimp only at h0 h1 h2 h3 h4 h5 h6 h7 h8 h9 h10 h11 h12 h13 h14 h15 h16 h17 h18 h19
    clear hdis
    simp only [h0, h1, h2, h3, h4, h5, h6, h7, h8, h9, h10, h11, h12, h13, h14, h15, h16, h17, h18, h19]
    clear h19 h18 h17 h16 h15 h14 h13 h12 h11 h10 h9 h8 h7 h6 h5 h4 h3 h2 h1 h0
    clear u
    simp only [List.map_nil]
    refine PlanW.done ?_
    have hb3 := bl_tt hwd
    go_wp2
    go_ret
    exact ⟨by rw [hr.out]; simp, bl_tr hb0 hwd⟩
  rw [h2] at hr
  go_wp2
  refine wp_any (w0 := wc) ⟨[], [], [some 16, some 17, some 18, some 19, some 20, some 21, some 22, some 23, some 24, some 25, some 26, some 27, some 28, some 29, some 30, some 31, some 32, some 33, some 34, some 35], [[], [0], [0, 1], [0, 1, 2], [], [4], [4, 5], [4, 5, 6], [0, 1, 2, 3, 4, 5, 6, 7], [0, 1, 2, 3, 4, 5, 6, 7, 8], [0, 1, 2, 3, 4, 5, 6, 7, 8, 9], [0, 1, 2, 3, 4, 5, 6, 7, 8, 9, 10], [0, 1, 2, 3, 4, 5, 6, 7, 8, 9, 10, 11], [0, 1, 2, 3, 4, 5, 6, 7, 8, 9, 10, 11, 12], [0, 1, 2, 3, 4, 5, 6, 7, 8, 9], [0, 1, 2, 3, 4, 5, 6, 7, 8, 9, 14], [0, 1, 2, 3, 4, 5, 6, 7, 8, 9, 14, 15], [0, 1, 2, 3, 4, 5, 6, 7, 8, 9, 14, 15, 16], [0, 1, 2, 3, 4, 5, 6, 7, 8, 9, 10, 11, 12, 13, 14, 15, 16, 17], [0, 1, 2, 3, 4, 5, 6, 7, 8, 9, 10, 11, 12, 13, 14, 15, 16, 17, 18]], [[], [0], [1], [2], [], [4], [5], [6], [3, 7], [8], [9], [9, 10], [9, 11], [9, 12], [9], [9, 14], [9, 15], [9, 16], [9, 13, 17], [9, 18]]⟩ (fun _ => []) (by kernel_rfl) (by kernel_rfl) (by (with_reducible (repeat' (first | assumption | apply jA | apply jB | apply jC | apply jD | apply jE | apply jF | apply hb3 | omega | (simp; done) | (simp; omega) | (dsimp only; omega))))) (fun u => by simp only [putD, Act.put, List.setIfInBounds_toArray, List.set_cons_zero, List.set_cons_succ, Nat.zero_add, Nat.reduceAdd]; rfl) ?_
  apply RGW.on (i := 0) rfl
  · (simp only [gA, gB, gC] <;> rfl)
  · intro γ u W hcur hd
    clear hd
    (try dsimp only)
    refine ⟨rfl, ?_⟩
    go_simp <;> (try go_bits) <;> with_reducible rfl
  · exact fun _ _ _ => rfl
  · rfl
  dsimp only [nA, cA]
  apply RGW.on (i := 1) rfl
  · (simp only [gA, gB, gC] <;> rfl)
  · intro γ u W hcur hd
    obtain ⟨⟨h0, -, -⟩, -⟩ := hd
    dsimp only at h0
    (try simp only [h0])
    refine ⟨rfl, ?_⟩
    go_simp <;> (try go_bits) <;> with_reducible rfl
  · exact fun _ _ _ => rfl
  · rfl
  dsimp only [nA, cA]
  apply RGW.on (i := 2) rfl
  · (simp only [gA, gB, gC] <;> rfl)
  · intro γ u W hcur hd
    obtain ⟨⟨h1, -, -⟩, -⟩ := hd
    dsimp only at h1
    (try simp only [h1])
    refine ⟨rfl, ?_⟩
    go_simp <;> (try go_bits) <;> with_reducible rfl
  · exact fun _ _ _ => rfl
  · rfl
  dsimp only [nA, cA]
  apply RGW.on (i := 3) rfl
  · (simp only [gA, gB, gC] <;> rfl)
  · intro γ u W hcur hd
    obtain ⟨⟨h2, -, -⟩, -⟩ := hd
    dsimp only at h2
    (try simp only [h2])
    refine ⟨rfl, ?_⟩
    go_simp <;> (try go_bits) <;> with_reducible rfl
  · exact fun _ _ _ => rfl
  · rfl
  dsimp only [nA, cA]
  apply RGW.on (i := 4) rfl
  · (simp only [gA, gB, gC] <;> rfl)
  · intro γ u W hcur hd
    clear hd
    (try dsimp only)
    refine ⟨rfl, ?_⟩
    go_simp <;> (try go_bits) <;> with_reducible rfl
  · exact fun _ _ _ => rfl
  · rfl
  dsimp only [nA, cA]
  apply RGW.on (i := 5) rfl
  · (simp only [gA, gB, gC] <;> rfl)
  · intro γ u W hcur hd
    obtain ⟨⟨h4, -, -⟩, -⟩ := hd
    dsimp only at h4
    (try simp only [h4])
    refine ⟨rfl, ?_⟩
    go_simp <;> (try go_bits) <;> with_reducible rfl
  · exact fun _ _ _ => rfl
  · rfl
  dsimp only [nA, cA]
  apply RGW.on (i := 6) rfl
  · (simp only [gA, gB, gC] <;> rfl)
  · intro γ u W hcur hd
    obtain ⟨⟨h5, -, -⟩, -⟩ := hd
    dsimp only at h5
    (try simp only [h5])
    refine ⟨rfl, ?_⟩
    go_simp <;> (try go_bits) <;> with_reducible rfl
  · exact fun _ _ _ => rfl
  · rfl
  dsimp only [nA, cA]
  apply RGW.on (i := 7) rfl
  · (simp only [gA, gB, gC] <;> rfl)
  · intro γ u W hcur hd
    obtain ⟨⟨h6, -, -⟩, -⟩ := hd
    dsimp only at h6
    (try simp only [h6])
    refine ⟨rfl, ?_⟩
    go_simp <;> (try go_bits) <;> with_reducible rfl
  · exact fun _ _ _ => rfl
  · rfl
  dsimp only [nA, cA]
  apply RGW.on (i := 8) rfl
  · (simp only [gA, gB, gC] <;> rfl)
  · intro γ u W hcur hd
    obtain ⟨⟨h3, -, -⟩, ⟨h7, -, -⟩, -⟩ := hd
    dsimp only at h3 h7
    (try simp only [h3, h7])
    refine ⟨rfl, ?_⟩
    go_simp <;> (try go_bits) <;> with_reducible rfl
  · exact fun _ _ _ => rfl
  · rfl
  dsimp only [nA, cA]
  apply RGW.on (i := 9) rfl
  · (simp only [gA, gB, gC] <;> rfl)
  · intro γ u W hcur hd
    obtain ⟨⟨h8, -, -⟩, -⟩ := hd
    dsimp only at h8
    (try simp only [h8])
    refine ⟨rfl, ?_⟩
    go_simp <;> (try go_bits) <;> with_reducible rfl
  · exact fun _ _ _ => rfl
  · rfl
  dsimp only [nA, cA]
  apply RGW.on (i := 10) rfl
  · (simp only [gA, gB, gC] <;> rfl)
  · intro γ u W hcur hd
    obtain ⟨⟨h9, -, -⟩, -⟩ := hd
    dsimp only at h9
    (try simp only [h9])
    refine ⟨?_, ?_⟩
    · (simp [Region.wanted, yielded, undef, *]; done)
    go_simp <;> (try go_bits) <;> with_reducible rfl
  · exact fun _ _ _ => rfl
  · rfl
  dsimp only [nA, cA]
  apply RGW.on (i := 11) rfl
  · (simp only [gA, gB, gC] <;> rfl)
  · intro γ u W hcur hd
    obtain ⟨⟨h9, -, -⟩, ⟨h10, -, -⟩, -⟩ := hd
    dsimp only at h9 h10
    (try simp only [h9, h10])
    refine ⟨?_, ?_⟩
    · (simp [Region.wanted, yielded, undef, *]; done)
    go_simp <;> (try go_bits) <;> with_reducible rfl
  · exact fun _ _ _ => rfl
  · rfl
  dsimp only [nA, cA]
  apply RGW.on (i := 12) rfl
  · (simp only [gA, gB, gC] <;> rfl)
  · intro γ u W hcur hd
    obtain ⟨⟨h9, -, -⟩, ⟨h11, -, -⟩, -⟩ := hd
    dsimp only at h9 h11
    (try simp only [h9, h11])
    refine ⟨?_, ?_⟩
    · (simp [Region.wanted, yielded, undef, *]; done)
    go_simp <;> (try go_bits) <;> with_reducible rfl
  · exact fun _ _ _ => rfl
  · rfl
  dsimp only [nA, cA]
  apply RGW.on (i := 13) rfl
  · (simp only [gA, gB, gC] <;> rfl)
  · intro γ u W hcur hd
    obtain ⟨⟨h9, -, -⟩, ⟨h12, -, -⟩, -⟩ := hd
    dsimp only at h9 h12
    (try simp only [h9, h12])
    refine ⟨?_, ?_⟩
    · (simp [Region.wanted, yielded, undef, *]; done)
    go_simp <;> (try go_bits) <;> with_reducible rfl
  · exact fun _ _ _ => rfl
  · rfl
  dsimp only [nA, cA]
  apply RGW.on (i := 14) rfl
  · (simp only [gA, gB, gC] <;> rfl)
  · intro γ u W hcur hd
    obtain ⟨⟨h9, -, -⟩, -⟩ := hd
    dsimp only at h9
    (try simp only [h9])
    refine ⟨?_, ?_⟩
    · (simp [Region.wanted, yielded, undef, *]; done)
    go_simp <;> (try go_bits) <;> with_reducible rfl
  · exact fun _ _ _ => rfl
  · rfl
  dsimp only [nA, cA]
  apply RGW.on (i := 15) rfl
  · (simp only [gA, gB, gC] <;> rfl)
  · intro γ u W hcur hd
    obtain ⟨⟨h9, -, -⟩, ⟨h14, -, -⟩, -⟩ := hd
    dsimp only at h9 h14
    (try simp only [h9, h14])
    refine ⟨?_, ?_⟩
    · (simp [Region.wanted, yielded, undef, *]; done)
    go_simp <;> (try go_bits) <;> with_reducible rfl
  · exact fun _ _ _ => rfl
  · rfl
  dsimp only [nA, cA]
  apply RGW.on (i := 16) rfl
  · (simp only [gA, gB, gC] <;> rfl)
  · intro γ u W hcur hd
    obtain ⟨⟨h9, -, -⟩, ⟨h15, -, -⟩, -⟩ := hd
    dsimp only at h9 h15
    (try simp only [h9, h15])
    refine ⟨?_, ?_⟩
    · (simp [Region.wanted, yielded, undef, *]; done)
    go_simp <;> (try go_bits) <;> with_reducible rfl
  · exact fun _ _ _ => rfl
  · rfl
  dsimp only [nA, cA]
  apply RGW.on (i := 17) rfl
  · (simp only [gA, gB, gC] <;> rfl)
  · intro γ u W hcur hd
    obtain ⟨⟨h9, -, -⟩, ⟨h16, -, -⟩, -⟩ := hd
    dsimp only at h9 h16
    (try simp only [h9, h16])
    refine ⟨?_, ?_⟩
    · (simp [Region.wanted, yielded, undef, *]; done)
    go_simp <;> (try go_bits) <;> with_reducible rfl
  · exact fun _ _ _ => rfl
  · rfl
  dsimp only [nA, cA]
  apply RGW.on (i := 18) rfl
  · (simp only [gA, gB, gC] <;> rfl)
  · intro γ u W hcur hd
    obtain ⟨⟨h9, -, -⟩, ⟨h13, -, -⟩, ⟨h17, -, -⟩, -⟩ := hd
    dsimp only at h9 h13 h17
    (try simp only [h9, h13, h17])
    refine ⟨?_, ?_⟩
    · (simp [Region.wanted, yielded, undef, *]; done)
    go_simp <;> (try go_bits) <;> with_reducible rfl
  · exact fun _ _ _ => rfl
  · rfl
  dsimp only [nA, cA]
  apply RGW.on (i := 19) rfl
  · (simp only [gA, gB, gC] <;> rfl)
  · intro γ u W hcur hd
    obtain ⟨⟨h9, -, -⟩, ⟨h18, -, -⟩, -⟩ := hd
    dsimp only at h9 h18
    (try simp only [h9, h18])
    refine ⟨rfl, ?_⟩
    go_simp <;> (try go_bits) <;> with_reducible rfl
  · exact fun _ _ _ => rfl
  · rfl
  dsimp only [nA, cA]
  refine RGW.fin (fun γ u wd hwd hd hdis => ?_)
  obtain ⟨⟨h0, -, -⟩, ⟨h1, -, -⟩, ⟨h2, -, -⟩, ⟨h3, -, -⟩, ⟨h4, -, -⟩, ⟨h5, -, -⟩, ⟨h6, -, -⟩, ⟨h7, -, -⟩, ⟨h8, -, -⟩, ⟨h9, -, -⟩, ⟨h10, -, -⟩, ⟨h11, -, -⟩, ⟨h12, -, -⟩, ⟨h13, -, -⟩, ⟨h14, -, -⟩, ⟨h15, -, -⟩, ⟨h16, -, -⟩, ⟨h17, -, -⟩, ⟨h18, -, -⟩, ⟨h19, -, -⟩, -⟩ := hd
  dsimp only at h0 h1 h2 h3 h4 h5 h6 h7 h8 h9 h10 h11 h12 h13 h14 h15 h16 h17 h18 h19
  clear hdis
  simp only [h0, h1, h2, h3, h4, h5, h6, h7, h8, h9, h10, h11, h12, h13, h14, h15, h16, h17, h18, h19]
  clear h19 h18 h17 h16 h15 h14 h13 h12 h11 h10 h9 h8 h7 h6 h5 h4 h3 h2 h1 h0
  clear u
  simp only [List.map_nil]
  refine PlanW.done ?_
  have hb3 := bl_tt hwd
  clear h1 h2
  go_wp2
  apply absRB4 (w0 := w) (g0 := w.heap.size) (g1 := w.heap.size + 1) (g2 := g4) (g3 := g5)
  iterate 5 (focus ((with_reducible (repeat' (first | assumption | apply jA | apply jB | apply jC | apply jD | apply jE | apply jF | apply hb3 | apply jG | apply jH | apply jI | apply jJ | apply jK | apply hb3x | (apply jL; first | (simp; done) | rfl) | apply jM | apply jN | apply jO | apply jP | apply jQ | apply jR | apply jS | apply jT (hb := hb3 _ (jA _)) | omega | (simp; done) | (simp; omega) | (dsimp only; omega)))); done))
  intro wc hb0' k0' k1' k2' k3'
  (try simp only [List.setIfInBounds_toArray, List.set_cons_zero, List.set_cons_succ] at k0' k1' k2' k3')
  try clear hb3
  try clear Lk0
  try clear Fk0
  try clear Qk0
  try clear Lk1
  try clear Fk1
  try clear Qk1
  try clear Lk2
  try clear Fk2
  try clear Qk2
  try clear Lk3
  try clear Fk3
  try clear Qk3
  try clear hb0
  try clear k0
  try clear k1
  try clear k2
  try clear k3
  have hb0 := hb0'; clear hb0'
  have k0 := k0'; clear k0'
  have k1 := k1'; clear k1'
  have k2 := k2'; clear k2'
  have k3 := k3'; clear k3'
  have Lk0 := k0.later
  have Fk0 := k0.laterF
  have Qk0 := k0.lt
  have Lk1 := k1.later
  have Fk1 := k1.laterF
  have Qk1 := k1.lt
  have Lk2 := k2.later
  have Fk2 := k2.laterF
  have Qk2 := k2.lt
  have Lk3 := k3.later
  have Fk3 := k3.laterF
  have Qk3 := k3.lt
  rw [rounds_succ]
  go_wp2
  go_ret
  exact ⟨by rw [hr.out]; simp, hb0⟩
set_option maxHeartbeats 16000000 in
theorem l_Reck_few (n : Nt) (b : Bx) (m : Mv) (p : Pl) (i j k : Int) (A : Option Addr) (c : Nat) (w : World) (hF : (decide (n.bs.length ≤ 8) && decide (0 ≤ 10)) = false) :
    Calls Try.prog 5 #[vNt n.world (.slice A n.bs.length c), vBx b, .agg #[.int .i64 m.ticks, .int .i64 m.speed.x.lo, .int .i64 m.speed.x.hi, .int .i64 m.speed.y.lo, .int .i64 m.speed.y.hi, .int .i64 m.speed.z.lo, .int .i64 m.speed.z.hi, .int .i64 p.x, .int .i64 p.y, .int .i64 p.z, .int .i64 i, .int .i64 j, .int .i64 k]] w (Ret (.bool true) w) := by
  have hfw := Lib.hid fun W : World => r_few n A none c 0 0 W
  rw [hF] at hfw
  clear hF
  generalize n.bs.length = nl at *
  go_enter Try.func5, Try.ntmps5
  go_upto_region 3 with (go_at_call 10; (with_reducible refine (r_awake _).mono ?_); rintro e w3 ⟨rfl, hb3⟩; replace hb3 := bl_tt hb3)
  apply absB3 (w0 := w) (g0 := w.heap.size) (g1 := w.heap.size + 1) (g2 := w.heap.size + 2)
  iterate 4 (focus ((with_reducible (repeat' (first | assumption | apply jA | apply jB | apply jC | apply jD | apply jE | apply jF | apply hb3 | apply jG | apply jH | apply jI | apply jJ | apply jK | apply hb3x | (apply jL; first | (simp; done) | rfl) | apply jM | apply jN | apply jO | apply jP | apply jQ | apply jR | apply jS | apply jT (hb := hb3 _ (jA _)) | omega | (simp; done) | (simp; omega) | (dsimp only; omega)))); done))
  intro wa hb0' k0' k1' k2'
  (try simp only [List.setIfInBounds_toArray, List.set_cons_zero, List.set_cons_succ] at k0' k1' k2')
  try clear hb3
  try clear hb0
  try clear k0
  try clear k1
  try clear k2
  have hb0 := hb0'; clear hb0'
  have k0 := k0'; clear k0'
  have k1 := k1'; clear k1'
  have k2 := k2'; clear k2'
  have Lk0 := k0.later
  have Fk0 := k0.laterF
  have Qk0 := k0.lt
  have Lk1 := k1.later
  have Fk1 := k1.laterF
  have Qk1 := k1.lt
  have Lk2 := k2.later
  have Fk2 := k2.laterF
  have Qk2 := k2.lt
  have hb3 := fun (w' : World) (h : Below w'.heap.size w' wa) => h
  have hv := hb3 wa (bl_refl wa)
  go_wp2_with (go_at_call 11; (with_reducible refine (hfw.out _).mono ?_); rintro e w3 ⟨rfl, hb4⟩; replace hb3 := fun w h => bl_tt hb4 w (hb3 w h); have hv := hb3 wa (bl_refl wa))
  go_ret
  exact ⟨rfl, bl_tr hb0 hv⟩
set_option maxHeartbeats 16000000 in
theorem l_Reck_no (n : Nt) (b : Bx) (m : Mv) (p : Pl) (i j k : Int) (A : Option Addr) (c : Nat) (w : World) (hF : (decide (n.bs.length ≤ 8) && decide (0 ≤ 10)) = true) (hn : NtIn n A c w) (hno : Hid (boxErr n b = 0 → mvErr m = 0 → b.has p = false)) :
    Calls Try.prog 5 #[vNt n.world (.slice A n.bs.length c), vBx b, .agg #[.int .i64 m.ticks, .int .i64 m.speed.x.lo, .int .i64 m.speed.x.hi, .int .i64 m.speed.y.lo, .int .i64 m.speed.y.hi, .int .i64 m.speed.z.lo, .int .i64 m.speed.z.hi, .int .i64 p.x, .int .i64 p.y, .int .i64 p.z, .int .i64 i, .int .i64 j, .int .i64 k]] w (Ret (.bool true) w) := by
  have hfw := Lib.hid fun W : World => r_few n A none c 0 0 W
  rw [hF] at hfw
  have hbe := Lib.hid fun (W : World) (hb : Below w.heap.size w W) => r_BoxErr n b A c W (hn.below hb)
  have hme := Lib.hid fun (W : World) => r_MoveErr m W
  have hii := Lib.hid fun (W : World) => r_IsIn b p W
  clear hF hn
  generalize boxErr n b = be at *
  generalize mvErr m = me at *
  generalize b.has p = I at *
  generalize n.bs.length = nl at *
  go_enter Try.func5, Try.ntmps5
  go_upto_region 3 with (go_at_call 10; (with_reducible refine (r_awake _).mono ?_); rintro e w3 ⟨rfl, hb3⟩; replace hb3 := bl_tt hb3)
  apply absB3 (w0 := w) (g0 := w.heap.size) (g1 := w.heap.size + 1) (g2 := w.heap.size + 2)
  iterate 4 (focus ((with_reducible (repeat' (first | assumption | apply jA | apply jB | apply jC | apply jD | apply jE | apply jF | apply hb3 | apply jG | apply jH | apply jI | apply jJ | apply jK | apply hb3x | (apply jL; first | (simp; done) | rfl) | apply jM | apply jN | apply jO | apply jP | apply jQ | apply jR | apply jS | apply jT (hb := hb3 _ (jA _)) | omega | (simp; done) | (simp; omega) | (dsimp only; omega)))); done))
  intro wa hb0' k0' k1' k2'
  (try simp only [List.setIfInBounds_toArray, List.set_cons_zero, List.set_cons_succ] at k0' k1' k2')
  try clear hb3
  try clear hb0
  try clear k0
  try clear k1
  try clear k2
  have hb0 := hb0'; clear hb0'
  have k0 := k0'; clear k0'
  have k1 := k1'; clear k1'
  have k2 := k2'; clear k2'
  have Lk0 := k0.later
  have Fk0 := k0.laterF
  have Qk0 := k0.lt
  have Lk1 := k1.later
  have Fk1 := k1.laterF
  have Qk1 := k1.lt
  have Lk2 := k2.later
  have Fk2 := k2.laterF
  have Qk2 := k2.lt
  have hb3 := fun (w' : World) (h : Below w'.heap.size w' wa) => h
  have hv := hb3 wa (bl_refl wa)
  by_cases h0 : be = 0
  · subst h0
    by_cases h1 : me = 0
    · subst h1
      obtain rfl := hno.out (by simp) (by simp)
      go_wp2_with (first | (go_at_call 11; (with_reducible refine (hfw.out _).mono ?_); rintro e w3 ⟨rfl, hb4⟩; replace hb3 := fun w h => bl_tt hb4 w (hb3 w h); have hv := hb3 wa (bl_refl wa)) | (go_at_call 17; (with_reducible refine (hbe.out _ (bl_tr hb0 hv)).mono ?_); rintro e w3 ⟨rfl, hb4⟩; replace hb3 := fun w h => bl_tt hb4 w (hb3 w h); have hv := hb3 wa (bl_refl wa)) | (go_at_call 29; (with_reducible refine (hme.out _).mono ?_); rintro e w3 ⟨rfl, hb4⟩; replace hb3 := fun w h => bl_tt hb4 w (hb3 w h); have hv := hb3 wa (bl_refl wa)) | (go_at_call 30; (with_reducible refine (hii.out _).mono ?_); rintro e w3 ⟨rfl, hb4⟩; replace hb3 := fun w h => bl_tt hb4 w (hb3 w h); have hv := hb3 wa (bl_refl wa)))
      go_ret
      exact ⟨rfl, bl_tr hb0 hv⟩
    · have h1' := bne_ne' h1
      replace h1 := Lib.hid h1
      go_wp2_with (first | (go_at_call 11; (with_reducible refine (hfw.out _).mono ?_); rintro e w3 ⟨rfl, hb4⟩; replace hb3 := fun w h => bl_tt hb4 w (hb3 w h); have hv := hb3 wa (bl_refl wa)) | (go_at_call 17; (with_reducible refine (hbe.out _ (bl_tr hb0 hv)).mono ?_); rintro e w3 ⟨rfl, hb4⟩; replace hb3 := fun w h => bl_tt hb4 w (hb3 w h); have hv := hb3 wa (bl_refl wa)) | (go_at_call 29; (with_reducible refine (hme.out _).mono ?_); rintro e w3 ⟨rfl, hb4⟩; replace hb3 := fun w h => bl_tt hb4 w (hb3 w h); have hv := hb3 wa (bl_refl wa)) | (go_at_call 30; (with_reducible refine (hii.out _).mono ?_); rintro e w3 ⟨rfl, hb4⟩; replace hb3 := fun w h => bl_tt hb4 w (hb3 w h); have hv := hb3 wa (bl_refl wa)))
      go_ret
      exact ⟨rfl, bl_tr hb0 hv⟩
  · have h0' := bne_ne' h0
    replace h0 := Lib.hid h0
    go_wp2_with (first | (go_at_call 11; (with_reducible refine (hfw.out _).mono ?_); rintro e w3 ⟨rfl, hb4⟩; replace hb3 := fun w h => bl_tt hb4 w (hb3 w h); have hv := hb3 wa (bl_refl wa)) | (go_at_call 17; (with_reducible refine (hbe.out _ (bl_tr hb0 hv)).mono ?_); rintro e w3 ⟨rfl, hb4⟩; replace hb3 := fun w h => bl_tt hb4 w (hb3 w h); have hv := hb3 wa (bl_refl wa)) | (go_at_call 29; (with_reducible refine (hme.out _).mono ?_); rintro e w3 ⟨rfl, hb4⟩; replace hb3 := fun w h => bl_tt hb4 w (hb3 w h); have hv := hb3 wa (bl_refl wa)) | (go_at_call 30; (with_reducible refine (hii.out _).mono ?_); rintro e w3 ⟨rfl, hb4⟩; replace hb3 := fun w h => bl_tt hb4 w (hb3 w h); have hv := hb3 wa (bl_refl wa)))
    go_ret
    exact ⟨rfl, bl_tr hb0 hv⟩
set_option maxHeartbeats 64000000 in
theorem l_Reck (n : Nt) (b : Bx) (m : Mv) (p : Pl) (i j k : Int) (A : Option Addr) (c : Nat) (w : World) (hF : (decide (n.bs.length ≤ 8) && decide (0 ≤ 10)) = true) (hn : NtIn n A c w) (hb : boxErr n b = 0) (hm : mvErr m = 0) (hp : b.has p = true) :
    Calls Try.prog 5 #[vNt n.world (.slice A n.bs.length c), vBx b, .agg #[.int .i64 m.ticks, .int .i64 m.speed.x.lo, .int .i64 m.speed.x.hi, .int .i64 m.speed.y.lo, .int .i64 m.speed.y.hi, .int .i64 m.speed.z.lo, .int .i64 m.speed.z.hi, .int .i64 p.x, .int .i64 p.y, .int .i64 p.z, .int .i64 i, .int .i64 j, .int .i64 k]] w (Ret (.bool true) w) := by
  have hfw := Lib.hid fun W : World => r_few n A none c 0 0 W
  rw [hF] at hfw
  have hbe := Lib.hid fun (W : World) (hb : Below w.heap.size w W) => r_BoxErr n b A c W (hn.below hb)
  have hme := Lib.hid fun (W : World) => r_MoveErr m W
  have hii := Lib.hid fun (W : World) => r_IsIn b p W
  rw [hb] at hbe
  rw [hm] at hme
  rw [hp] at hii
  have hcp := Lib.hid fun (W : World) (hb : Below w.heap.size w W) => r_CopyNet n A c W (hn.below hb)
  obtain ⟨t0, t1, ⟨u1, u2, u3, u4⟩, ⟨v1, v2, v3, v4⟩, ⟨z1, z2, z3, z4⟩⟩ := mv_ok hm
  obtain ⟨o1, o2, o3⟩ := Bx.ordered_iff.1 (mv_ord hm)
  obtain ⟨⟨q1, q2, q3⟩, ⟨q4, q5, q6⟩, ⟨q7, q8, q9⟩⟩ := box_ok hb
  obtain ⟨⟨p1, p2⟩, ⟨p3, p4⟩, ⟨p5, p6⟩⟩ := Bx.has_iff.1 hp
  have hmx := Lib.hid fun (W : World) => r_Mod i (m.speed.x.hi - m.speed.x.lo + 1) W (by omega) (by omega)
  have hmy := Lib.hid fun (W : World) => r_Mod j (m.speed.y.hi - m.speed.y.lo + 1) W (by omega) (by omega)
  have hmz := Lib.hid fun (W : World) => r_Mod k (m.speed.z.hi - m.speed.z.lo + 1) W (by omega) (by omega)
  have mx0 := Int.emod_nonneg i (show m.speed.x.hi - m.speed.x.lo + 1 ≠ 0 by omega)
  have mx1 := Int.emod_lt_of_pos i (show 0 < m.speed.x.hi - m.speed.x.lo + 1 by omega)
  have my0 := Int.emod_nonneg j (show m.speed.y.hi - m.speed.y.lo + 1 ≠ 0 by omega)
  have my1 := Int.emod_lt_of_pos j (show 0 < m.speed.y.hi - m.speed.y.lo + 1 by omega)
  have mz0 := Int.emod_nonneg k (show m.speed.z.hi - m.speed.z.lo + 1 ≠ 0 by omega)
  have mz1 := Int.emod_lt_of_pos k (show 0 < m.speed.z.hi - m.speed.z.lo + 1 by omega)
  generalize i % (m.speed.x.hi - m.speed.x.lo + 1) = ux at *
  generalize j % (m.speed.y.hi - m.speed.y.lo + 1) = uy at *
  generalize k % (m.speed.z.hi - m.speed.z.lo + 1) = uz at *
  have hu : m.speed.has ⟨m.speed.x.lo + ux, m.speed.y.lo + uy, m.speed.z.lo + uz⟩ = true := by
    rw [Bx.has_iff]
    dsimp only
    omega
  have bux := tv_bd (v := m.speed.x.lo + ux) t0 t1 (by omega) (by omega)
  have buy := tv_bd (v := m.speed.y.lo + uy) t0 t1 (by omega) (by omega)
  have buz := tv_bd (v := m.speed.z.lo + uz) t0 t1 (by omega) (by omega)
  have hca := Lib.hid fun (W : World) (A : Option Addr) (c : Nat) (h : NtIn n A c W) => c_Carried n b m A c W h
  have hcb := Lib.hid fun (W : World) (A : Option Addr) (c : Nat) (h : NtIn n A c W) => c_CarriedBack n (movedS n b m (carried n.world b m)).1 m A c W h
  have hcs := Lib.hid fun (W : World) (A : Option Addr) (c : Nat) (h : NtIn n A c W) => c_Carried n b ⟨0, m.speed⟩ A c W h
  rw [still_eq hb hm] at hcs
  have th0 : 0 ≤ m.ticks.tdiv 2 := Int.tdiv_nonneg t0 (by decide)
  have th1 : m.ticks.tdiv 2 ≤ m.ticks := Int.tdiv_le_self 2 t0
  have hch := Lib.hid fun (W : World) (A : Option Addr) (c : Nat) (h : NtIn n A c W) => c_Carried n b ⟨m.ticks.tdiv 2, m.speed⟩ A c W h
  have hct := Lib.hid fun (W : World) (A : Option Addr) (c : Nat) (h : NtIn n A c W) => c_Carried n (movedS n b ⟨m.ticks.tdiv 2, m.speed⟩ (carried n.world b ⟨m.ticks.tdiv 2, m.speed⟩)).1 ⟨m.ticks - m.ticks.tdiv 2, m.speed⟩ A c W h
  have hiw : Hid (∀ W : World, Calls Try.prog 30 #[vBx n.world, .agg #[.int .i64 (p.x + m.ticks * (m.speed.x.lo + ux)), .int .i64 (p.y + m.ticks * (m.speed.y.lo + uy)), .int .i64 (p.z + m.ticks * (m.speed.z.lo + uz))]] W (Ret (.bool (n.world.has (p.go m.ticks ⟨m.speed.x.lo + ux, m.speed.y.lo + uy, m.speed.z.lo + uz⟩))) W)) := fun W => r_IsIn n.world (p.go m.ticks ⟨m.speed.x.lo + ux, m.speed.y.lo + uy, m.speed.z.lo + uz⟩) W
  have hic : Hid (∀ W : World, Calls Try.prog 30 #[vBx (movedS n b m (carried n.world b m)).1, .agg #[.int .i64 (p.x + m.ticks * (m.speed.x.lo + ux)), .int .i64 (p.y + m.ticks * (m.speed.y.lo + uy)), .int .i64 (p.z + m.ticks * (m.speed.z.lo + uz))]] W (Ret (.bool ((movedS n b m (carried n.world b m)).1.has (p.go m.ticks ⟨m.speed.x.lo + ux, m.speed.y.lo + uy, m.speed.z.lo + uz⟩))) W)) := fun W => r_IsIn _ (p.go m.ticks ⟨m.speed.x.lo + ux, m.speed.y.lo + uy, m.speed.z.lo + uz⟩) W
  have hbc := Lib.hid fun (W : World) (hb : Below w.heap.size w W) => r_BoxErr n (movedS n b m (carried n.world b m)).1 A c W (hn.below hb)
  have hib := Lib.hid fun (W : World) => r_IsIn (movedS n (movedS n b m (carried n.world b m)).1 m (back n.world (movedS n b m (carried n.world b m)).1 m)).1 p W
  have hj1 := Lib.hid fun (W : World) => r_isInner n.world (movedS n b ⟨m.ticks.tdiv 2, m.speed⟩ (carried n.world b ⟨m.ticks.tdiv 2, m.speed⟩)).1 W
  have hj2 := Lib.hid fun (W : World) => r_isInner n.world (movedS n b m (carried n.world b m)).1 W
  have fA : Hid (n.world.has (p.go m.ticks ⟨m.speed.x.lo + ux, m.speed.y.lo + uy, m.speed.z.lo + uz⟩) = true → (movedS n b m (carried n.world b m)).2 = 0 ∧ (movedS n b m (carried n.world b m)).1.has (p.go m.ticks ⟨m.speed.x.lo + ux, m.speed.y.lo + uy, m.speed.z.lo + uz⟩) = true ∧ boxErr n (movedS n b m (carried n.world b m)).1 = 0
      ∧ (movedS n (movedS n b m (carried n.world b m)).1 m (back n.world (movedS n b m (carried n.world b m)).1 m)).2 = 0 ∧ (movedS n (movedS n b m (carried n.world b m)).1 m (back n.world (movedS n b m (carried n.world b m)).1 m)).1.has p = true) := fun hq => by
    obtain ⟨e1, e2, e3⟩ := to_in hb hm hp hu hq
    rw [e1]
    obtain ⟨e4, e5⟩ := back_in e3 hm (holds_has (box_zero hb).2.2 hp) hu e2
    dsimp only
    rw [e4]
    exact ⟨rfl, e2, e3, rfl, e5⟩
  have fD : Hid ((movedS n b ⟨m.ticks.tdiv 2, m.speed⟩ (carried n.world b ⟨m.ticks.tdiv 2, m.speed⟩)).2 = 0 → (movedS n b m (carried n.world b m)).2 = 0 → innerB n.world (movedS n b ⟨m.ticks.tdiv 2, m.speed⟩ (carried n.world b ⟨m.ticks.tdiv 2, m.speed⟩)).1 = true → innerB n.world (movedS n b m (carried n.world b m)).1 = true → _) := fun e1 e2 i1 i2 =>
    two_eq hb hm th0 (tr := m.ticks - m.ticks.tdiv 2) (by omega) (by omega) e1 e2 i1 i2
  clear hF hn hb hm hp hu
  generalize movedS n (movedS n b ⟨m.ticks.tdiv 2, m.speed⟩ (carried n.world b ⟨m.ticks.tdiv 2, m.speed⟩)).1 ⟨m.ticks - m.ticks.tdiv 2, m.speed⟩ (carried n.world (movedS n b ⟨m.ticks.tdiv 2, m.speed⟩ (carried n.world b ⟨m.ticks.tdiv 2, m.speed⟩)).1 ⟨m.ticks - m.ticks.tdiv 2, m.speed⟩) = TT at *
  generalize movedS n b ⟨m.ticks.tdiv 2, m.speed⟩ (carried n.world b ⟨m.ticks.tdiv 2, m.speed⟩) = HH at *
  generalize movedS n (movedS n b m (carried n.world b m)).1 m (back n.world (movedS n b m (carried n.world b m)).1 m) = KK at *
  generalize movedS n b m (carried n.world b m) = CC at *
  obtain ⟨tb, te⟩ := TT
  obtain ⟨ob, ge⟩ := HH
  obtain ⟨kb, ke⟩ := KK
  obtain ⟨cb, ce⟩ := CC
  simp only [Prod.mk.injEq] at fD
  dsimp only at hca hcb hch hct hcs hic hbc hib hj1 hj2 fA fD
  generalize innerB n.world ob = J1 at *
  generalize innerB n.world cb = J2 at *
  generalize n.world.has (p.go m.ticks ⟨m.speed.x.lo + ux, m.speed.y.lo + uy, m.speed.z.lo + uz⟩) = WI at *
  generalize cb.has (p.go m.ticks ⟨m.speed.x.lo + ux, m.speed.y.lo + uy, m.speed.z.lo + uz⟩) = CI at *
  generalize kb.has p = KI at *
  generalize boxErr n cb = ce2 at *
  generalize n.bs.length = nl at *
  go_enter Try.func5, Try.ntmps5
  go_upto_region 3 with (go_at_call 10; (with_reducible refine (r_awake _).mono ?_); rintro e w3 ⟨rfl, hb3⟩; replace hb3 := bl_tt hb3)
  apply absB3 (w0 := w) (g0 := w.heap.size) (g1 := w.heap.size + 1) (g2 := w.heap.size + 2)
  iterate 4 (focus ((with_reducible (repeat' (first | assumption | apply jA | apply jB | apply jC | apply jD | apply jE | apply jF | apply hb3 | apply jG | apply jH | apply jI | apply jJ | apply jK | apply hb3x | (apply jL; first | (simp; done) | rfl) | apply jM | apply jN | apply jO | apply jP | apply jQ | apply jR | apply jS | apply jT (hb := hb3 _ (jA _)) | omega | (simp; done) | (simp; omega) | (dsimp only; omega)))); done))
  intro wa hb0' k0' k1' k2'
  (try simp only [List.setIfInBounds_toArray, List.set_cons_zero, List.set_cons_succ] at k0' k1' k2')
  try clear hb3
  try clear hb0
  try clear k0
  try clear k1
  try clear k2
  have hb0 := hb0'; clear hb0'
  have k0 := k0'; clear k0'
  have k1 := k1'; clear k1'
  have k2 := k2'; clear k2'
  have Lk0 := k0.later
  have Fk0 := k0.laterF
  have Qk0 := k0.lt
  have Lk1 := k1.later
  have Fk1 := k1.laterF
  have Qk1 := k1.lt
  have Lk2 := k2.later
  have Fk2 := k2.laterF
  have Qk2 := k2.lt
  have hb3 := fun (w' : World) (h : Below w'.heap.size w' wa) => h
  have hv := hb3 wa (bl_refl wa)
  go_upto_region 5 with (first | (go_at_call 11; (with_reducible refine (hfw.out _).mono ?_); rintro e w3 ⟨rfl, hb4⟩; replace hb3 := fun w h => bl_tt hb4 w (hb3 w h); have hv := hb3 wa (bl_refl wa)) | (go_at_call 17; (with_reducible refine (hbe.out _ (bl_tr hb0 hv)).mono ?_); rintro e w3 ⟨rfl, hb4⟩; replace hb3 := fun w h => bl_tt hb4 w (hb3 w h); have hv := hb3 wa (bl_refl wa)) | (go_at_call 29; (with_reducible refine (hme.out _).mono ?_); rintro e w3 ⟨rfl, hb4⟩; replace hb3 := fun w h => bl_tt hb4 w (hb3 w h); have hv := hb3 wa (bl_refl wa)) | (go_at_call 30; (with_reducible refine (hii.out _).mono ?_); rintro e w3 ⟨rfl, hb4⟩; replace hb3 := fun w h => bl_tt hb4 w (hb3 w h); have hv := hb3 wa (bl_refl wa)))
  apply absB3 (w0 := w) (g0 := w.heap.size) (g1 := w.heap.size + 1) (g2 := w.heap.size + 2)
  iterate 4 (focus ((with_reducible (repeat' (first | assumption | apply jA | apply jB | apply jC | apply jD | apply jE | apply jF | apply hb3 | apply jG | apply jH | apply jI | apply jJ | apply jK | apply hb3x | (apply jL; first | (simp; done) | rfl) | apply jM | apply jN | apply jO | apply jP | apply jQ | apply jR | apply jS | apply jT (hb := hb3 _ (jA _)) | omega | (simp; done) | (simp; omega) | (dsimp only; omega)))); done))
  intro wb hb0' k0' k1' k2'
  (try simp only [List.setIfInBounds_toArray, List.set_cons_zero, List.set_cons_succ] at k0' k1' k2')
  try clear hb3
  try clear Lk0
  try clear Fk0
  try clear Qk0
  try clear Lk1
  try clear Fk1
  try clear Qk1
  try clear Lk2
  try clear Fk2
  try clear Qk2
  try clear hb0
  try clear k0
  try clear k1
  try clear k2
  have hb0 := hb0'; clear hb0'
  have k0 := k0'; clear k0'
  have k1 := k1'; clear k1'
  have k2 := k2'; clear k2'
  have Lk0 := k0.later
  have Fk0 := k0.laterF
  have Qk0 := k0.lt
  have Lk1 := k1.later
  have Fk1 := k1.laterF
  have Qk1 := k1.lt
  have Lk2 := k2.later
  have Fk2 := k2.laterF
  have Qk2 := k2.lt
  have hq2 := k2.lt
  refine wp_any (w0 := wb) ⟨[9, 10], [], [some 48, some 49, some 50, some 51, some 52, some 53, some 54, some 7, some 8, none, none], [[], [0], [0, 1], [], [3], [3, 4], [0, 1, 2, 3, 4, 5], [], [], [0, 1, 2, 3, 4, 5, 6, 7, 8], [0, 1, 2, 3, 4, 5, 6, 7, 8, 9]], [[], [0], [1], [], [3], [4], [5], [], [], [], []]⟩ (fun γ => [(γ 7).n, (γ 8).n]) (by kernel_rfl) (by kernel_rfl) (by (with_reducible (repeat' (first | assumption | apply jA | apply jB | apply jC | apply jD | apply jE | apply jF | apply hb3 | omega | (simp; done) | (simp; omega) | (dsimp only; omega))))) (fun u => by simp only [putD, Act.put, List.setIfInBounds_toArray, List.set_cons_zero, List.set_cons_succ, Nat.zero_add, Nat.reduceAdd]; rfl) ?_
  apply RGW.on (i := 0) rfl
  · (simp only [gA, gB, gC] <;> rfl)
  · intro γ u W hcur hd
    clear hd
    (try dsimp only)
    refine ⟨rfl, ?_⟩
    go_simp <;> (try go_bits) <;> with_reducible rfl
  · exact fun _ _ _ => rfl
  · rfl
  dsimp only [nA, cA]
  apply RGW.on (i := 1) rfl
  · (simp only [gA, gB, gC] <;> rfl)
  · intro γ u W hcur hd
    obtain ⟨⟨h0, -, -⟩, -⟩ := hd
    dsimp only at h0
    (try simp only [h0])
    refine ⟨rfl, ?_⟩
    go_simp <;> (try go_bits) <;> with_reducible rfl
  · exact fun _ _ _ => rfl
  · rfl
  dsimp only [nA, cA]
  apply RGW.call (i := 2) rfl
  · (simp only [gA, gB, gC] <;> rfl)
  · intro γ u W hcur hd
    obtain ⟨⟨h1, -, -⟩, -⟩ := hd
    dsimp only at h1
    (try simp only [h1])
    refine ⟨rfl, fun K hK => ?_⟩
    go_simp
    (go_at_call 31; (with_reducible refine (r_Coord p _).mono ?_); rintro e w3 ⟨rfl, hb3⟩; replace hb3 := bl_tt hb3)
    (try dsimp only)
    exact hK.out _ _ rfl (by (with_reducible (repeat' (first | assumption | apply jA | apply jB | apply jC | apply jD | apply jE | apply jF | apply hb3 | omega | (simp; done) | (simp; omega) | (dsimp only; omega)))))
  · exact fun _ _ _ => rfl
  · rfl
  dsimp only [nA, cA]
  apply RGW.on (i := 3) rfl
  · (simp only [gA, gB, gC] <;> rfl)
  · intro γ u W hcur hd
    clear hd
    (try dsimp only)
    refine ⟨rfl, ?_⟩
    go_simp <;> (try go_bits) <;> with_reducible rfl
  · exact fun _ _ _ => rfl
  · rfl
  dsimp only [nA, cA]
  apply RGW.on (i := 4) rfl
  · (simp only [gA, gB, gC] <;> rfl)
  · intro γ u W hcur hd
    obtain ⟨⟨h3, -, -⟩, -⟩ := hd
    dsimp only at h3
    (try simp only [h3])
    refine ⟨rfl, ?_⟩
    go_simp <;> (try go_bits) <;> with_reducible rfl
  · exact fun _ _ _ => rfl
  · rfl
  dsimp only [nA, cA]
  apply RGW.on (i := 5) rfl
  · (simp only [gA, gB, gC] <;> rfl)
  · intro γ u W hcur hd
    obtain ⟨⟨h4, -, -⟩, -⟩ := hd
    dsimp only at h4
    (try simp only [h4])
    refine ⟨rfl, ?_⟩
    go_simp <;> (try go_bits) <;> with_reducible rfl
  · exact fun _ _ _ => rfl
  · rfl
  dsimp only [nA, cA]
  apply RGW.call (i := 6) rfl
  · (simp only [gA, gB, gC] <;> rfl)
  · intro γ u W hcur hd
    obtain ⟨⟨h5, -, -⟩, -⟩ := hd
    dsimp only at h5
    (try simp only [h5])
    refine ⟨rfl, fun K hK => ?_⟩
    go_simp
    (go_at_call 32; (with_reducible refine (r_Sides m.speed _).mono ?_); rintro e w3 ⟨rfl, hb3⟩; replace hb3 := bl_tt hb3)
    (try dsimp only)
    exact hK.out _ _ rfl (by (with_reducible (repeat' (first | assumption | apply jA | apply jB | apply jC | apply jD | apply jE | apply jF | apply hb3 | omega | (simp; done) | (simp; omega) | (dsimp only; omega)))))
  · exact fun _ _ _ => rfl
  · rfl
  dsimp only [nA, cA]
  apply RGW.alloc (i := 7) rfl
  · (simp only [gA, gB, gC] <;> rfl)
  · intro γ u W hcur hd
    clear hd
    (try dsimp only)
    refine ⟨rfl, fun K hK => ?_⟩
    go_simp
    exact hK.out _ _ rfl rfl
  · exact fun _ _ _ => rfl
  · rfl
  · rfl
  dsimp only [nA, cA]
  apply RGW.alloc (i := 8) rfl
  · (simp only [gA, gB, gC] <;> rfl)
  · intro γ u W hcur hd
    clear hd
    (try dsimp only)
    refine ⟨rfl, fun K hK => ?_⟩
    go_simp
    exact hK.out _ _ rfl rfl
  · exact fun _ _ _ => rfl
  · rfl
  · rfl
  dsimp only [nA, cA]
  refine RGW.skip (i := 9) rfl rfl ?_
  dsimp only [nA, cA]
  refine RGW.skip (i := 10) rfl rfl ?_
  dsimp only [nA, cA]
  refine RGW.fin (fun γ u wc hwc hd hdis => ?_)
  obtain ⟨⟨h0, -, -⟩, ⟨h1, -, -⟩, ⟨h2, -, -⟩, ⟨h3, -, -⟩, ⟨h4, -, -⟩, ⟨h5, -, -⟩, ⟨h6, -, -⟩, ⟨h7, r7, b7⟩, ⟨h8, r8, b8⟩, -⟩ := hd
  dsimp only at h0 h1 h2 h3 h4 h5 h6 h7 h8 r7 r8 b7 b8
  have n7_8 := hdis 7 8 rfl rfl (Nat.lt_of_lt_of_eq (by decide : 7 < 11) (by kernel_rfl)) (Nat.lt_of_lt_of_eq (by decide : 8 < 11) (by kernel_rfl)) (by decide) _ (List.mem_singleton.2 rfl) _ (List.mem_singleton.2 rfl)
  clear hdis
  simp only [h0, h1, h2, h3, h4, h5, h6, h7, h8]
  clear h8 h7 h6 h5 h4 h3 h2 h1 h0
  replace b7 := b7 _ (List.mem_singleton.2 rfl)
  generalize hγ7 : (γ 7).n = g7 at *
  clear hγ7
  replace b8 := b8 _ (List.mem_singleton.2 rfl)
  generalize hγ8 : (γ 8).n = g8 at *
  clear hγ8
  clear u
  simp only [List.map_cons, List.map_nil]
  apply PlanW.step
  · (simp only [gA, gB, gC] <;> rfl)
  · rfl
  intro K hK
  refine wp_store_keep (X := [g7, g8]) (w0 := wc) rfl rfl rfl (by with_reducible first | exact bx_refl _ _ | assumption) (by with_reducible first | assumption | (apply Blk.below (hb := hwc); assumption)) (by simp) (by kernel_rfl) (by rfl) (by simp [Value.oneCell']) (fun hres1 hcur => ?_)
  refine hK.out _ _ hcur (fun _ => ?_)
  clear hK K
  try simp only [Act.put, List.setIfInBounds_toArray, List.set_cons_zero, List.set_cons_succ]
  apply PlanW.step
  · (simp only [gA, gB, gC] <;> rfl)
  · rfl
  intro K hK
  refine wp_store_keep (X := [g7, g8]) (w0 := wc) rfl rfl rfl (by with_reducible first | exact bx_refl _ _ | assumption) (by with_reducible first | assumption | (apply Blk.below (hb := hwc); assumption)) (by simp) (by kernel_rfl) (by rfl) (by simp [Value.oneCell']) (fun hres2 hcur => ?_)
  refine hK.out _ _ hcur (fun _ => ?_)
  clear hK K
  try simp only [Act.put, List.setIfInBounds_toArray, List.set_cons_zero, List.set_cons_succ]
  refine PlanW.done ?_
  have hb3 := bl_tt hwc
  generalize g7 = gp at *
  generalize g8 = gv at *
  have hgp : w.heap.size + 3 ≤ gp := by omega
  apply absTB5 (w0 := w) (g0 := w.heap.size) (g1 := w.heap.size + 1) (g2 := w.heap.size + 2) (g3 := gp) (g4 := gv)
  iterate 6 (focus ((with_reducible (repeat' (first | assumption | apply jA | apply jB | apply jC | apply jD | apply jE | apply jF | apply hb3 | apply jG | apply jH | apply jI | apply jJ | apply jK | apply hb3x | (apply jL; first | (simp; done) | rfl) | apply jM | apply jN | apply jO | apply jP | apply jQ | apply jR | apply jS | apply jT (hb := hb3 _ (jA _)) | omega | (simp; done) | (simp; omega) | (dsimp only; omega)))); done))
  intro wd hb0' k0' k1' k2' k3' k4'
  (try simp only [List.setIfInBounds_toArray, List.set_cons_zero, List.set_cons_succ] at k0' k1' k2' k3' k4')
  try clear hb3
  try clear Lk0
  try clear Fk0
  try clear Qk0
  try clear Lk1
  try clear Fk1
  try clear Qk1
  try clear Lk2
  try clear Fk2
  try clear Qk2
  try clear hb0
  try clear k0
  try clear k1
  try clear k2
  try clear k3
  try clear k4
  have hb0 := hb0'; clear hb0'
  have k0 := k0'; clear k0'
  have k1 := k1'; clear k1'
  have k2 := k2'; clear k2'
  have k3 := k3'; clear k3'
  have k4 := k4'; clear k4'
  have Lk0 := k0.later
  have Fk0 := k0.laterF
  have Qk0 := k0.lt
  have Lk1 := k1.later
  have Fk1 := k1.laterF
  have Qk1 := k1.lt
  have Lk2 := k2.later
  have Fk2 := k2.laterF
  have Qk2 := k2.lt
  have Lk3 := k3.later
  have Fk3 := k3.laterF
  have Qk3 := k3.lt
  have Lk4 := k4.later
  have Fk4 := k4.laterF
  have Qk4 := k4.lt
  go_wp2
  refine wp_loop_rounds 4 ?_
  rw [rounds_succ]
  go_wp2
  refine wp_any (w0 := wd) ⟨[30], [], [some 59, some 60, some 61, some 62, some 63, some 64, some 65, some 66, some 67, some 68, some 69, some 70, some 71, some 72, some 73, some 74, some 75, some 76, some 77, some 78, some 79, some 80, some 81, some 82, some 83, some 84, some 85, some 86, some 87, some 88, none], [[], [], [1], [1, 2], [], [4], [4, 5], [], [7], [7, 8], [7, 8, 9], [], [], [11, 12], [11, 12, 13], [], [15], [15, 16], [15, 16, 17], [], [19], [19, 20], [19, 20, 21], [15, 16, 17, 18, 19, 20, 21, 22], [15, 16, 17, 18, 19, 20, 21, 22, 23], [11, 12, 13, 14, 15, 16, 17, 18, 19, 20, 21, 22, 23, 24], [7, 8, 9, 10, 11, 12, 13, 14, 15, 16, 17, 18, 19, 20, 21, 22, 23, 24, 25], [4, 5, 6, 7, 8, 9, 10, 11, 12, 13, 14, 15, 16, 17, 18, 19, 20, 21, 22, 23, 24, 25, 26], [1, 2, 3, 4, 5, 6, 7, 8, 9, 10, 11, 12, 13, 14, 15, 16, 17, 18, 19, 20, 21, 22, 23, 24, 25, 26, 27], [0, 1, 2, 3, 4, 5, 6, 7, 8, 9, 10, 11, 12, 13, 14, 15, 16, 17, 18, 19, 20, 21, 22, 23, 24, 25, 26, 27, 28], [0, 1, 2, 3, 4, 5, 6, 7, 8, 9, 10, 11, 12, 13, 14, 15, 16, 17, 18, 19, 20, 21, 22, 23, 24, 25, 26, 27, 28, 29]], [[], [], [1], [2], [], [4], [5], [], [7], [8], [9], [], [], [11, 12], [13], [], [15], [16], [17], [], [19], [20], [21], [18, 22], [23], [14, 24], [10, 25], [6, 26], [3, 27], [0], []]⟩ (fun _ => [gp]) (by kernel_rfl) (by kernel_rfl) (by (with_reducible (repeat' (first | assumption | apply jA | apply jB | apply jC | apply jD | apply jE | apply jF | apply hb3 | omega | (simp; done) | (simp; omega) | (dsimp only; omega))))) (fun u => by simp only [putD, Act.put, List.setIfInBounds_toArray, List.set_cons_zero, List.set_cons_succ, Nat.zero_add, Nat.reduceAdd]; rfl) ?_
  apply RGW.on (i := 0) rfl
  · (simp only [gA, gB, gC] <;> rfl)
  · intro γ u W hcur hd
    clear hd
    (try dsimp only)
    refine ⟨rfl, ?_⟩
    go_simp <;> (try go_bits) <;> with_reducible rfl
  · exact fun _ _ _ => rfl
  · rfl
  dsimp only [nA, cA]
  apply RGW.on (i := 1) rfl
  · (simp only [gA, gB, gC] <;> rfl)
  · intro γ u W hcur hd
    clear hd
    (try dsimp only)
    refine ⟨rfl, ?_⟩
    go_simp <;> (try go_bits) <;> with_reducible rfl
  · exact fun _ _ _ => rfl
  · rfl
  dsimp only [nA, cA]
  apply RGW.on (i := 2) rfl
  · (simp only [gA, gB, gC] <;> rfl)
  · intro γ u W hcur hd
    obtain ⟨⟨h1, -, -⟩, -⟩ := hd
    dsimp only at h1
    (try simp only [h1])
    refine ⟨rfl, ?_⟩
    go_simp <;> (try go_bits) <;> with_reducible rfl
  · exact fun _ _ _ => rfl
  · rfl
  dsimp only [nA, cA]
  apply RGW.on (i := 3) rfl
  · (simp only [gA, gB, gC] <;> rfl)
  · intro γ u W hcur hd
    obtain ⟨⟨h2, -, -⟩, -⟩ := hd
    dsimp only at h2
    (try simp only [h2])
    refine ⟨rfl, ?_⟩
    go_simp <;> (try go_bits) <;> with_reducible rfl
  · exact fun _ _ _ => rfl
  · rfl
  dsimp only [nA, cA]
  apply RGW.on (i := 4) rfl
  · (simp only [gA, gB, gC] <;> rfl)
  · intro γ u W hcur hd
    clear hd
    (try dsimp only)
    refine ⟨rfl, ?_⟩
    go_simp <;> (try go_bits) <;> with_reducible rfl
  · exact fun _ _ _ => rfl
  · rfl
  dsimp only [nA, cA]
  apply RGW.on (i := 5) rfl
  · (simp only [gA, gB, gC] <;> rfl)
  · intro γ u W hcur hd
    obtain ⟨⟨h4, -, -⟩, -⟩ := hd
    dsimp only at h4
    (try simp only [h4])
    refine ⟨rfl, ?_⟩
    go_simp <;> (try go_bits) <;> with_reducible rfl
  · exact fun _ _ _ => rfl
  · rfl
  dsimp only [nA, cA]
  apply RGW.on (i := 6) rfl
  · (simp only [gA, gB, gC] <;> rfl)
  · intro γ u W hcur hd
    obtain ⟨⟨h5, -, -⟩, -⟩ := hd
    dsimp only at h5
    (try simp only [h5])
    refine ⟨rfl, ?_⟩
    go_simp <;> (try go_bits) <;> with_reducible rfl
  · exact fun _ _ _ => rfl
  · rfl
  dsimp only [nA, cA]
  apply RGW.on (i := 7) rfl
  · (simp only [gA, gB, gC] <;> rfl)
  · intro γ u W hcur hd
    clear hd
    (try dsimp only)
    refine ⟨rfl, ?_⟩
    go_simp <;> (try go_bits) <;> with_reducible rfl
  · exact fun _ _ _ => rfl
  · rfl
  dsimp only [nA, cA]
  apply RGW.on (i := 8) rfl
  · (simp only [gA, gB, gC] <;> rfl)
  · intro γ u W hcur hd
    obtain ⟨⟨h7, -, -⟩, -⟩ := hd
    dsimp only at h7
    (try simp only [h7])
    refine ⟨rfl, ?_⟩
    go_simp <;> (try go_bits) <;> with_reducible rfl
  · exact fun _ _ _ => rfl
  · rfl
  dsimp only [nA, cA]
  apply RGW.on (i := 9) rfl
  · (simp only [gA, gB, gC] <;> rfl)
  · intro γ u W hcur hd
    obtain ⟨⟨h8, -, -⟩, -⟩ := hd
    dsimp only at h8
    (try simp only [h8])
    refine ⟨rfl, ?_⟩
    go_simp <;> (try go_bits) <;> with_reducible rfl
  · exact fun _ _ _ => rfl
  · rfl
  dsimp only [nA, cA]
  apply RGW.on (i := 10) rfl
  · (simp only [gA, gB, gC] <;> rfl)
  · intro γ u W hcur hd
    obtain ⟨⟨h9, -, -⟩, -⟩ := hd
    dsimp only at h9
    (try simp only [h9])
    refine ⟨rfl, ?_⟩
    go_simp <;> (try go_bits) <;> with_reducible rfl
  · exact fun _ _ _ => rfl
  · rfl
  dsimp only [nA, cA]
  apply RGW.on (i := 11) rfl
  · (simp only [gA, gB, gC] <;> rfl)
  · intro γ u W hcur hd
    clear hd
    (try dsimp only)
    refine ⟨rfl, ?_⟩
    go_simp <;> (try go_bits) <;> with_reducible rfl
  · exact fun _ _ _ => rfl
  · rfl
  dsimp only [nA, cA]
  apply RGW.on (i := 12) rfl
  · (simp only [gA, gB, gC] <;> rfl)
  · intro γ u W hcur hd
    clear hd
    (try dsimp only)
    refine ⟨rfl, ?_⟩
    go_simp <;> (try go_bits) <;> with_reducible rfl
  · exact fun _ _ _ => rfl
  · rfl
  dsimp only [nA, cA]
  apply RGW.on (i := 13) rfl
  · (simp only [gA, gB, gC] <;> rfl)
  · intro γ u W hcur hd
    obtain ⟨⟨h11, -, -⟩, ⟨h12, -, -⟩, -⟩ := hd
    dsimp only at h11 h12
    (try simp only [h11, h12])
    refine ⟨rfl, ?_⟩
    go_simp <;> (try go_bits) <;> with_reducible rfl
  · exact fun _ _ _ => rfl
  · rfl
  dsimp only [nA, cA]
  apply RGW.on (i := 14) rfl
  · (simp only [gA, gB, gC] <;> rfl)
  · intro γ u W hcur hd
    obtain ⟨⟨h13, -, -⟩, -⟩ := hd
    dsimp only at h13
    (try simp only [h13])
    refine ⟨rfl, ?_⟩
    go_simp <;> (try go_bits) <;> with_reducible rfl
  · exact fun _ _ _ => rfl
  · rfl
  dsimp only [nA, cA]
  apply RGW.on (i := 15) rfl
  · (simp only [gA, gB, gC] <;> rfl)
  · intro γ u W hcur hd
    clear hd
    (try dsimp only)
    refine ⟨rfl, ?_⟩
    go_simp <;> (try go_bits) <;> with_reducible rfl
  · exact fun _ _ _ => rfl
  · rfl
  dsimp only [nA, cA]
  apply RGW.on (i := 16) rfl
  · (simp only [gA, gB, gC] <;> rfl)
  · intro γ u W hcur hd
    obtain ⟨⟨h15, -, -⟩, -⟩ := hd
    dsimp only at h15
    (try simp only [h15])
    refine ⟨rfl, ?_⟩
    go_simp <;> (try go_bits) <;> with_reducible rfl
  · exact fun _ _ _ => rfl
  · rfl
  dsimp only [nA, cA]
  apply RGW.on (i := 17) rfl
  · (simp only [gA, gB, gC] <;> rfl)
  · intro γ u W hcur hd
    obtain ⟨⟨h16, -, -⟩, -⟩ := hd
    dsimp only at h16
    (try simp only [h16])
    refine ⟨rfl, ?_⟩
    go_simp <;> (try go_bits) <;> with_reducible rfl
  · exact fun _ _ _ => rfl
  · rfl
  dsimp only [nA, cA]
  apply RGW.on (i := 18) rfl
  · (simp only [gA, gB, gC] <;> rfl)
  · intro γ u W hcur hd
    obtain ⟨⟨h17, -, -⟩, -⟩ := hd
    dsimp only at h17
    (try simp only [h17])
    refine ⟨rfl, ?_⟩
    go_simp <;> (try go_bits) <;> with_reducible rfl
  · exact fun _ _ _ => rfl
  · rfl
  dsimp only [nA, cA]
  apply RGW.on (i := 19) rfl
  · (simp only [gA, gB, gC] <;> rfl)
  · intro γ u W hcur hd
    clear hd
    (try dsimp only)
    refine ⟨rfl, ?_⟩
    go_simp <;> (try go_bits) <;> with_reducible rfl
  · exact fun _ _ _ => rfl
  · rfl
  dsimp only [nA, cA]
  apply RGW.on (i := 20) rfl
  · (simp only [gA, gB, gC] <;> rfl)
  · intro γ u W hcur hd
    obtain ⟨⟨h19, -, -⟩, -⟩ := hd
    dsimp only at h19
    (try simp only [h19])
    refine ⟨rfl, ?_⟩
    go_simp <;> (try go_bits) <;> with_reducible rfl
  · exact fun _ _ _ => rfl
  · rfl
  dsimp only [nA, cA]
  apply RGW.on (i := 21) rfl
  · (simp only [gA, gB, gC] <;> rfl)
  · intro γ u W hcur hd
    obtain ⟨⟨h20, -, -⟩, -⟩ := hd
    dsimp only at h20
    (try simp only [h20])
    refine ⟨rfl, ?_⟩
    go_simp <;> (try go_bits) <;> with_reducible rfl
  · exact fun _ _ _ => rfl
  · rfl
  dsimp only [nA, cA]
  apply RGW.on (i := 22) rfl
  · (simp only [gA, gB, gC] <;> rfl)
  · intro γ u W hcur hd
    obtain ⟨⟨h21, -, -⟩, -⟩ := hd
    dsimp only at h21
    (try simp only [h21])
    refine ⟨rfl, ?_⟩
    go_simp <;> (try go_bits) <;> with_reducible rfl
  · exact fun _ _ _ => rfl
  · rfl
  dsimp only [nA, cA]
  apply RGW.on (i := 23) rfl
  · (simp only [gA, gB, gC] <;> rfl)
  · intro γ u W hcur hd
    obtain ⟨⟨h18, -, -⟩, ⟨h22, -, -⟩, -⟩ := hd
    dsimp only at h18 h22
    (try simp only [h18, h22])
    refine ⟨rfl, ?_⟩
    go_simp <;> (try go_bits) <;> with_reducible rfl
  · exact fun _ _ _ => rfl
  · rfl
  dsimp only [nA, cA]
  apply RGW.on (i := 24) rfl
  · (simp only [gA, gB, gC] <;> rfl)
  · intro γ u W hcur hd
    obtain ⟨⟨h23, -, -⟩, -⟩ := hd
    dsimp only at h23
    (try simp only [h23])
    refine ⟨rfl, ?_⟩
    go_simp <;> (try go_bits) <;> with_reducible rfl
  · exact fun _ _ _ => rfl
  · rfl
  dsimp only [nA, cA]
  apply RGW.call (i := 25) rfl
  · (simp only [gA, gB, gC] <;> rfl)
  · intro γ u W hcur hd
    obtain ⟨⟨h14, -, -⟩, ⟨h24, -, -⟩, -⟩ := hd
    dsimp only at h14 h24
    (try simp only [h14, h24])
    refine ⟨rfl, fun K hK => ?_⟩
    go_simp
    (go_at_call 33; (first | (with_reducible refine (hmx.out _).mono ?_) | (with_reducible refine (hmy.out _).mono ?_) | (with_reducible refine (hmz.out _).mono ?_)); rintro e w3 ⟨rfl, rfl⟩)
    (try dsimp only)
    exact hK.out _ _ rfl (by (with_reducible (repeat' (first | assumption | apply jA | apply jB | apply jC | apply jD | apply jE | apply jF | apply hb3 | omega | (simp; done) | (simp; omega) | (dsimp only; omega)))))
  · exact fun _ _ _ => rfl
  · rfl
  dsimp only [nA, cA]
  apply RGW.on (i := 26) rfl
  · (simp only [gA, gB, gC] <;> rfl)
  · intro γ u W hcur hd
    obtain ⟨⟨h10, -, -⟩, ⟨h25, -, -⟩, -⟩ := hd
    dsimp only at h10 h25
    (try simp only [h10, h25])
    refine ⟨rfl, ?_⟩
    go_simp <;> (try go_bits) <;> with_reducible rfl
  · exact fun _ _ _ => rfl
  · rfl
  dsimp only [nA, cA]
  apply RGW.on (i := 27) rfl
  · (simp only [gA, gB, gC] <;> rfl)
  · intro γ u W hcur hd
    obtain ⟨⟨h6, -, -⟩, ⟨h26, -, -⟩, -⟩ := hd
    dsimp only at h6 h26
    (try simp only [h6, h26])
    refine ⟨rfl, ?_⟩
    go_simp <;> (try go_bits) <;> with_reducible rfl
  · exact fun _ _ _ => rfl
  · rfl
  dsimp only [nA, cA]
  apply RGW.on (i := 28) rfl
  · (simp only [gA, gB, gC] <;> rfl)
  · intro γ u W hcur hd
    obtain ⟨⟨h3, -, -⟩, ⟨h27, -, -⟩, -⟩ := hd
    dsimp only at h3 h27
    (try simp only [h3, h27])
    refine ⟨rfl, ?_⟩
    go_simp <;> (try go_bits) <;> with_reducible rfl
  · exact fun _ _ _ => rfl
  · rfl
  dsimp only [nA, cA]
  apply RGW.on (i := 29) rfl
  · (simp only [gA, gB, gC] <;> rfl)
  · intro γ u W hcur hd
    obtain ⟨⟨h0, -, -⟩, -⟩ := hd
    dsimp only at h0
    (try simp only [h0])
    refine ⟨rfl, ?_⟩
    go_simp <;> (try go_bits) <;> with_reducible rfl
  · exact fun _ _ _ => rfl
  · rfl
  dsimp only [nA, cA]
  refine RGW.skip (i := 30) rfl rfl ?_
  dsimp only [nA, cA]
  refine RGW.fin (fun γ u we hwe hd hdis => ?_)
  obtain ⟨⟨h0, -, -⟩, ⟨h1, -, -⟩, ⟨h2, -, -⟩, ⟨h3, -, -⟩, ⟨h4, -, -⟩, ⟨h5, -, -⟩, ⟨h6, -, -⟩, ⟨h7, -, -⟩, ⟨h8, -, -⟩, ⟨h9, -, -⟩, ⟨h10, -, -⟩, ⟨h11, -, -⟩, ⟨h12, -, -⟩, ⟨h13, -, -⟩, ⟨h14, -, -⟩, ⟨h15, -, -⟩, ⟨h16, -, -⟩, ⟨h17, -, -⟩, ⟨h18, -, -⟩, ⟨h19, -, -⟩, ⟨h20, -, -⟩, ⟨h21, -, -⟩, ⟨h22, -, -⟩, ⟨h23, -, -⟩, ⟨h24, -, -⟩, ⟨h25, -, -⟩, ⟨h26, -, -⟩, ⟨h27, -, -⟩, ⟨h28, -, -⟩, ⟨h29, -, -⟩, -⟩ := hd
  dsimp only at h0 h1 h2 h3 h4 h5 h6 h7 h8 h9 h10 h11 h12 h13 h14 h15 h16 h17 h18 h19 h20 h21 h22 h23 h24 h25 h26 h27 h28 h29
  clear hdis
  simp only [h0, h1, h2, h3, h4, h5, h6, h7, h8, h9, h10, h11, h12, h13, h14, h15, h16, h17, h18, h19, h20, h21, h22, h23, h24, h25, h26, h27, h28, h29]
  clear h29 h28 h27 h26 h25 h24 h23 h22 h21 h20 h19 h18 h17 h16 h15 h14 h13 h12 h11 h10 h9 h8 h7 h6 h5 h4 h3 h2 h1 h0
  clear u
  simp only [List.map_cons, List.map_nil]
  apply PlanW.step
  · (simp only [gA, gB, gC] <;> rfl)
  · rfl
  intro K hK
  go_simp
  refine hK.out _ _ (by (with_reducible (repeat' (first | assumption | apply jG | apply jH | apply jI | apply jJ | apply jK | apply hb3x | omega | (simp; done) | (simp; omega) | (dsimp only; omega))))) (fun hcur => ?_)
  clear hK K
  try simp only [Act.put, List.setIfInBounds_toArray, List.set_cons_zero, List.set_cons_succ]
  refine PlanW.done ?_
  have hb3 := bl_tt hwe
  go_wp2
  apply absRB5 (w0 := w) (g0 := w.heap.size) (g1 := w.heap.size + 1) (g2 := w.heap.size + 2) (g3 := gp) (g4 := gv)
  iterate 6 (focus ((with_reducible (repeat' (first | assumption | apply jA | apply jB | apply jC | apply jD | apply jE | apply jF | apply hb3 | apply jG | apply jH | apply jI | apply jJ | apply jK | apply hb3x | (apply jL; first | (simp; done) | rfl) | apply jM | apply jN | apply jO | apply jP | apply jQ | apply jR | apply jS | apply jT (hb := hb3 _ (jA _)) | omega | (simp; done) | (simp; omega) | (dsimp only; omega)))); done))
  intro wd hb0' k0' k1' k2' k3' k4'
  (try simp only [List.setIfInBounds_toArray, List.set_cons_zero, List.set_cons_succ] at k0' k1' k2' k3' k4')
  try clear hb3
  try clear Lk0
  try clear Fk0
  try clear Qk0
  try clear Lk1
  try clear Fk1
  try clear Qk1
  try clear Lk2
  try clear Fk2
  try clear Qk2
  try clear Lk3
  try clear Fk3
  try clear Qk3
  try clear Lk4
  try clear Fk4
  try clear Qk4
  try clear hb0
  try clear k0
  try clear k1
  try clear k2
  try clear k3
  try clear k4
  have hb0 := hb0'; clear hb0'
  have k0 := k0'; clear k0'
  have k1 := k1'; clear k1'
  have k2 := k2'; clear k2'
  have k3 := k3'; clear k3'
  have k4 := k4'; clear k4'
  have Lk0 := k0.later
  have Fk0 := k0.laterF
  have Qk0 := k0.lt
  have Lk1 := k1.later
  have Fk1 := k1.laterF
  have Qk1 := k1.lt
  have Lk2 := k2.later
  have Fk2 := k2.laterF
  have Qk2 := k2.lt
  have Lk3 := k3.later
  have Fk3 := k3.laterF
  have Qk3 := k3.lt
  have Lk4 := k4.later
  have Fk4 := k4.laterF
  have Qk4 := k4.lt
  rw [rounds_succ]
  go_wp2
  refine wp_any (w0 := wd) ⟨[30], [], [some 59, some 60, some 61, some 62, some 63, some 64, some 65, some 66, some 67, some 68, some 69, some 70, some 71, some 72, some 73, some 74, some 75, some 76, some 77, some 78, some 79, some 80, some 81, some 82, some 83, some 84, some 85, some 86, some 87, some 88, none], [[], [], [1], [1, 2], [], [4], [4, 5], [], [7], [7, 8], [7, 8, 9], [], [], [11, 12], [11, 12, 13], [], [15], [15, 16], [15, 16, 17], [], [19], [19, 20], [19, 20, 21], [15, 16, 17, 18, 19, 20, 21, 22], [15, 16, 17, 18, 19, 20, 21, 22, 23], [11, 12, 13, 14, 15, 16, 17, 18, 19, 20, 21, 22, 23, 24], [7, 8, 9, 10, 11, 12, 13, 14, 15, 16, 17, 18, 19, 20, 21, 22, 23, 24, 25], [4, 5, 6, 7, 8, 9, 10, 11, 12, 13, 14, 15, 16, 17, 18, 19, 20, 21, 22, 23, 24, 25, 26], [1, 2, 3, 4, 5, 6, 7, 8, 9, 10, 11, 12, 13, 14, 15, 16, 17, 18, 19, 20, 21, 22, 23, 24, 25, 26, 27], [0, 1, 2, 3, 4, 5, 6, 7, 8, 9, 10, 11, 12, 13, 14, 15, 16, 17, 18, 19, 20, 21, 22, 23, 24, 25, 26, 27, 28], [0, 1, 2, 3, 4, 5, 6, 7, 8, 9, 10, 11, 12, 13, 14, 15, 16, 17, 18, 19, 20, 21, 22, 23, 24, 25, 26, 27, 28, 29]], [[], [], [1], [2], [], [4], [5], [], [7], [8], [9], [], [], [11, 12], [13], [], [15], [16], [17], [], [19], [20], [21], [18, 22], [23], [14, 24], [10, 25], [6, 26], [3, 27], [0], []]⟩ (fun _ => [gp]) (by kernel_rfl) (by kernel_rfl) (by (with_reducible (repeat' (first | assumption | apply jA | apply jB | apply jC | apply jD | apply jE | apply jF | apply hb3 | omega | (simp; done) | (simp; omega) | (dsimp only; omega))))) (fun u => by simp only [putD, Act.put, List.setIfInBounds_toArray, List.set_cons_zero, List.set_cons_succ, Nat.zero_add, Nat.reduceAdd]; rfl) ?_
  apply RGW.on (i := 0) rfl
  · (simp only [gA, gB, gC] <;> rfl)
  · intro γ u W hcur hd
    clear hd
    (try dsimp only)
    refine ⟨rfl, ?_⟩
    go_simp <;> (try go_bits) <;> with_reducible rfl
  · exact fun _ _ _ => rfl
  · rfl
  dsimp only [nA, cA]
  apply RGW.on (i := 1) rfl
  · (simp only [gA, gB, gC] <;> rfl)
  · intro γ u W hcur hd
    clear hd
    (try dsimp only)
    refine ⟨rfl, ?_⟩
    go_simp <;> (try go_bits) <;> with_reducible rfl
  · exact fun _ _ _ => rfl
  · rfl
  dsimp only [nA, cA]
  apply RGW.on (i := 2) rfl
  · (simp only [gA, gB, gC] <;> rfl)
  · intro γ u W hcur hd
    obtain ⟨⟨h1, -, -⟩, -⟩ := hd
    dsimp only at h1
    (try simp only [h1])
    refine ⟨rfl, ?_⟩
    go_simp <;> (try go_bits) <;> with_reducible rfl
  · exact fun _ _ _ => rfl
  · rfl
  dsimp only [nA, cA]
  apply RGW.on (i := 3) rfl
  · (simp only [gA, gB, gC] <;> rfl)
  · intro γ u W hcur hd
    obtain ⟨⟨h2, -, -⟩, -⟩ := hd
    dsimp only at h2
    (try simp only [h2])
    refine ⟨rfl, ?_⟩
    go_simp <;> (try go_bits) <;> with_reducible rfl
  · exact fun _ _ _ => rfl
  · rfl
  dsimp only [nA, cA]
  apply RGW.on (i := 4) rfl
  · (simp only [gA, gB, gC] <;> rfl)
  · intro γ u W hcur hd
    clear hd
    (try dsimp only)
    refine ⟨rfl, ?_⟩
    go_simp <;> (try go_bits) <;> with_reducible rfl
  · exact fun _ _ _ => rfl
  · rfl
  dsimp only [nA, cA]
  apply RGW.on (i := 5) rfl
  · (simp only [gA, gB, gC] <;> rfl)
  · intro γ u W hcur hd
    obtain ⟨⟨h4, -, -⟩, -⟩ := hd
    dsimp only at h4
    (try simp only [h4])
    refine ⟨rfl, ?_⟩
    go_simp <;> (try go_bits) <;> with_reducible rfl
  · exact fun _ _ _ => rfl
  · rfl
  dsimp only [nA, cA]
  apply RGW.on (i := 6) rfl
  · (simp only [gA, gB, gC] <;> rfl)
  · intro γ u W hcur hd
    obtain ⟨⟨h5, -, -⟩, -⟩ := hd
    dsimp only at h5
    (try simp only [h5])
    refine ⟨rfl, ?_⟩
    go_simp <;> (try go_bits) <;> with_reducible rfl
  · exact fun _ _ _ => rfl
  · rfl
  dsimp only [nA, cA]
  apply RGW.on (i := 7) rfl
  · (simp only [gA, gB, gC] <;> rfl)
  · intro γ u W hcur hd
    clear hd
    (try dsimp only)
    refine ⟨rfl, ?_⟩
    go_simp <;> (try go_bits) <;> with_reducible rfl
  · exact fun _ _ _ => rfl
  · rfl
  dsimp only [nA, cA]
  apply RGW.on (i := 8) rfl
  · (simp only [gA, gB, gC] <;> rfl)
  · intro γ u W hcur hd
    obtain ⟨⟨h7, -, -⟩, -⟩ := hd
    dsimp only at h7
    (try simp only [h7])
    refine ⟨rfl, ?_⟩
    go_simp <;> (try go_bits) <;> with_reducible rfl
  · exact fun _ _ _ => rfl
  · rfl
  dsimp only [nA, cA]
  apply RGW.on (i := 9) rfl
  · (simp only [gA, gB, gC] <;> rfl)
  · intro γ u W hcur hd
    obtain ⟨⟨h8, -, -⟩, -⟩ := hd
    dsimp only at h8
    (try simp only [h8])
    refine ⟨rfl, ?_⟩
    go_simp <;> (try go_bits) <;> with_reducible rfl
  · exact fun _ _ _ => rfl
  · rfl
  dsimp only [nA, cA]
  apply RGW.on (i := 10) rfl
  · (simp only [gA, gB, gC] <;> rfl)
  · intro γ u W hcur hd
    obtain ⟨⟨h9, -, -⟩, -⟩ := hd
    dsimp only at h9
    (try simp only [h9])
    refine ⟨rfl, ?_⟩
    go_simp <;> (try go_bits) <;> with_reducible rfl
  · exact fun _ _ _ => rfl
  · rfl
  dsimp only [nA, cA]
  apply RGW.on (i := 11) rfl
  · (simp only [gA, gB, gC] <;> rfl)
  · intro γ u W hcur hd
    clear hd
    (try dsimp only)
    refine ⟨rfl, ?_⟩
    go_simp <;> (try go_bits) <;> with_reducible rfl
  · exact fun _ _ _ => rfl
  · rfl
  dsimp only [nA, cA]
  apply RGW.on (i := 12) rfl
  · (simp only [gA, gB, gC] <;> rfl)
  · intro γ u W hcur hd
    clear hd
    (try dsimp only)
    refine ⟨rfl, ?_⟩
    go_simp <;> (try go_bits) <;> with_reducible rfl
  · exact fun _ _ _ => rfl
  · rfl
  dsimp only [nA, cA]
  apply RGW.on (i := 13) rfl
  · (simp only [gA, gB, gC] <;> rfl)
  · intro γ u W hcur hd
    obtain ⟨⟨h11, -, -⟩, ⟨h12, -, -⟩, -⟩ := hd
    dsimp only at h11 h12
    (try simp only [h11, h12])
    refine ⟨rfl, ?_⟩
    go_simp <;> (try go_bits) <;> with_reducible rfl
  · exact fun _ _ _ => rfl
  · rfl
  dsimp only [nA, cA]
  apply RGW.on (i := 14) rfl
  · (simp only [gA, gB, gC] <;> rfl)
  · intro γ u W hcur hd
    obtain ⟨⟨h13, -, -⟩, -⟩ := hd
    dsimp only at h13
    (try simp only [h13])
    refine ⟨rfl, ?_⟩
    go_simp <;> (try go_bits) <;> with_reducible rfl
  · exact fun _ _ _ => rfl
  · rfl
  dsimp only [nA, cA]
  apply RGW.on (i := 15) rfl
  · (simp only [gA, gB, gC] <;> rfl)
  · intro γ u W hcur hd
    clear hd
    (try dsimp only)
    refine ⟨rfl, ?_⟩
    go_simp <;> (try go_bits) <;> with_reducible rfl
  · exact fun _ _ _ => rfl
  · rfl
  dsimp only [nA, cA]
  apply RGW.on (i := 16) rfl
  · (simp only [gA, gB, gC] <;> rfl)
  · intro γ u W hcur hd
    obtain ⟨⟨h15, -, -⟩, -⟩ := hd
    dsimp only at h15
    (try simp only [h15])
    refine ⟨rfl, ?_⟩
    go_simp <;> (try go_bits) <;> with_reducible rfl
  · exact fun _ _ _ => rfl
  · rfl
  dsimp only [nA, cA]
  apply RGW.on (i := 17) rfl
  · (simp only [gA, gB, gC] <;> rfl)
  · intro γ u W hcur hd
    obtain ⟨⟨h16, -, -⟩, -⟩ := hd
    dsimp only at h16
    (try simp only [h16])
    refine ⟨rfl, ?_⟩
    go_simp <;> (try go_bits) <;> with_reducible rfl
  · exact fun _ _ _ => rfl
  · rfl
  dsimp only [nA, cA]
  apply RGW.on (i := 18) rfl
  · (simp only [gA, gB, gC] <;> rfl)
  · intro γ u W hcur hd
    obtain ⟨⟨h17, -, -⟩, -⟩ := hd
    dsimp only at h17
    (try simp only [h17])
    refine ⟨rfl, ?_⟩
    go_simp <;> (try go_bits) <;> with_reducible rfl
  · exact fun _ _ _ => rfl
  · rfl
  dsimp only [nA, cA]
  apply RGW.on (i := 19) rfl
  · (simp only [gA, gB, gC] <;> rfl)
  · intro γ u W hcur hd
    clear hd
    (try dsimp only)
    refine ⟨rfl, ?_⟩
    go_simp <;> (try go_bits) <;> with_reducible rfl
  · exact fun _ _ _ => rfl
  · rfl
  dsimp only [nA, cA]
  apply RGW.on (i := 20) rfl
  · (simp only [gA, gB, gC] <;> rfl)
  · intro γ u W hcur hd
    obtain ⟨⟨h19, -, -⟩, -⟩ := hd
    dsimp only at h19
    (try simp only [h19])
    refine ⟨rfl, ?_⟩
    go_simp <;> (try go_bits) <;> with_reducible rfl
  · exact fun _ _ _ => rfl
  · rfl
  dsimp only [nA, cA]
  apply RGW.on (i := 21) rfl
  · (simp only [gA, gB, gC] <;> rfl)
  · intro γ u W hcur hd
    obtain ⟨⟨h20, -, -⟩, -⟩ := hd
    dsimp only at h20
    (try simp only [h20])
    refine ⟨rfl, ?_⟩
    go_simp <;> (try go_bits) <;> with_reducible rfl
  · exact fun _ _ _ => rfl
  · rfl
  dsimp only [nA, cA]
  apply RGW.on (i := 22) rfl
  · (simp only [gA, gB, gC] <;> rfl)
  · intro γ u W hcur hd
    obtain ⟨⟨h21, -, -⟩, -⟩ := hd
    dsimp only at h21
    (try simp only [h21])
    refine ⟨rfl, ?_⟩
    go_simp <;> (try go_bits) <;> with_reducible rfl
  · exact fun _ _ _ => rfl
  · rfl
  dsimp only [nA, cA]
  apply RGW.on (i := 23) rfl
  · (simp only [gA, gB, gC] <;> rfl)
  · intro γ u W hcur hd
    obtain ⟨⟨h18, -, -⟩, ⟨h22, -, -⟩, -⟩ := hd
    dsimp only at h18 h22
    (try simp only [h18, h22])
    refine ⟨rfl, ?_⟩
    go_simp <;> (try go_bits) <;> with_reducible rfl
  · exact fun _ _ _ => rfl
  · rfl
  dsimp only [nA, cA]
  apply RGW.on (i := 24) rfl
  · (simp only [gA, gB, gC] <;> rfl)
  · intro γ u W hcur hd
    obtain ⟨⟨h23, -, -⟩, -⟩ := hd
    dsimp only at h23
    (try simp only [h23])
    refine ⟨rfl, ?_⟩
    go_simp <;> (try go_bits) <;> with_reducible rfl
  · exact fun _ _ _ => rfl
  · rfl
  dsimp only [nA, cA]
  apply RGW.call (i := 25) rfl
  · (simp only [gA, gB, gC] <;> rfl)
  · intro γ u W hcur hd
    obtain ⟨⟨h14, -, -⟩, ⟨h24, -, -⟩, -⟩ := hd
    dsimp only at h14 h24
    (try simp only [h14, h24])
    refine ⟨rfl, fun K hK => ?_⟩
    go_simp
    (go_at_call 33; (first | (with_reducible refine (hmx.out _).mono ?_) | (with_reducible refine (hmy.out _).mono ?_) | (with_reducible refine (hmz.out _).mono ?_)); rintro e w3 ⟨rfl, rfl⟩)
    (try dsimp only)
    exact hK.out _ _ rfl (by (with_reducible (repeat' (first | assumption | apply jA | apply jB | apply jC | apply jD | apply jE | apply jF | apply hb3 | omega | (simp; done) | (simp; omega) | (dsimp only; omega)))))
  · exact fun _ _ _ => rfl
  · rfl
  dsimp only [nA, cA]
  apply RGW.on (i := 26) rfl
  · (simp only [gA, gB, gC] <;> rfl)
  · intro γ u W hcur hd
    obtain ⟨⟨h10, -, -⟩, ⟨h25, -, -⟩, -⟩ := hd
    dsimp only at h10 h25
    (try simp only [h10, h25])
    refine ⟨rfl, ?_⟩
    go_simp <;> (try go_bits) <;> with_reducible rfl
  · exact fun _ _ _ => rfl
  · rfl
  dsimp only [nA, cA]
  apply RGW.on (i := 27) rfl
  · (simp only [gA, gB, gC] <;> rfl)
  · intro γ u W hcur hd
    obtain ⟨⟨h6, -, -⟩, ⟨h26, -, -⟩, -⟩ := hd
    dsimp only at h6 h26
    (try simp only [h6, h26])
    refine ⟨rfl, ?_⟩
    go_simp <;> (try go_bits) <;> with_reducible rfl
  · exact fun _ _ _ => rfl
  · rfl
  dsimp only [nA, cA]
  apply RGW.on (i := 28) rfl
  · (simp only [gA, gB, gC] <;> rfl)
  · intro γ u W hcur hd
    obtain ⟨⟨h3, -, -⟩, ⟨h27, -, -⟩, -⟩ := hd
    dsimp only at h3 h27
    (try simp only [h3, h27])
    refine ⟨rfl, ?_⟩
    go_simp <;> (try go_bits) <;> with_reducible rfl
  · exact fun _ _ _ => rfl
  · rfl
  dsimp only [nA, cA]
  apply RGW.on (i := 29) rfl
  · (simp only [gA, gB, gC] <;> rfl)
  · intro γ u W hcur hd
    obtain ⟨⟨h0, -, -⟩, -⟩ := hd
    dsimp only at h0
    (try simp only [h0])
    refine ⟨rfl, ?_⟩
    go_simp <;> (try go_bits) <;> with_reducible rfl
  · exact fun _ _ _ => rfl
  · rfl
  dsimp only [nA, cA]
  refine RGW.skip (i := 30) rfl rfl ?_
  dsimp only [nA, cA]
  refine RGW.fin (fun γ u we hwe hd hdis => ?_)
  obtain ⟨⟨h0, -, -⟩, ⟨h1, -, -⟩, ⟨h2, -, -⟩, ⟨h3, -, -⟩, ⟨h4, -, -⟩, ⟨h5, -, -⟩, ⟨h6, -, -⟩, ⟨h7, -, -⟩, ⟨h8, -, -⟩, ⟨h9, -, -⟩, ⟨h10, -, -⟩, ⟨h11, -, -⟩, ⟨h12, -, -⟩, ⟨h13, -, -⟩, ⟨h14, -, -⟩, ⟨h15, -, -⟩, ⟨h16, -, -⟩, ⟨h17, -, -⟩, ⟨h18, -, -⟩, ⟨h19, -, -⟩, ⟨h20, -, -⟩, ⟨h21, -, -⟩, ⟨h22, -, -⟩, ⟨h23, -, -⟩, ⟨h24, -, -⟩, ⟨h25, -, -⟩, ⟨h26, -, -⟩, ⟨h27, -, -⟩, ⟨h28, -, -⟩, ⟨h29, -, -⟩, -⟩ := hd
  dsimp only at h0 h1 h2 h3 h4 h5 h6 h7 h8 h9 h10 h11 h12 h13 h14 h15 h16 h17 h18 h19 h20 h21 h22 h23 h24 h25 h26 h27 h28 h29
  clear hdis
  simp only [h0, h1, h2, h3, h4, h5, h6, h7, h8, h9, h10, h11, h12, h13, h14, h15, h16, h17, h18, h19, h20, h21, h22, h23, h24, h25, h26, h27, h28, h29]
  clear h29 h28 h27 h26 h25 h24 h23 h22 h21 h20 h19 h18 h17 h16 h15 h14 h13 h12 h11 h10 h9 h8 h7 h6 h5 h4 h3 h2 h1 h0
  clear u
  simp only [List.map_cons, List.map_nil]
  apply PlanW.step
  · (simp only [gA, gB, gC] <;> rfl)
  · rfl
  intro K hK
  go_simp
  refine hK.out _ _ (by (with_reducible (repeat' (first | assumption | apply jG | apply jH | apply jI | apply jJ | apply jK | apply hb3x | omega | (simp; done) | (simp; omega) | (dsimp only; omega))))) (fun hcur => ?_)
  clear hK K
  try simp only [Act.put, List.setIfInBounds_toArray, List.set_cons_zero, List.set_cons_succ]
  refine PlanW.done ?_
  have hb3 := bl_tt hwe
  go_wp2
  apply absRB5 (w0 := w) (g0 := w.heap.size) (g1 := w.heap.size + 1) (g2 := w.heap.size + 2) (g3 := gp) (g4 := gv)
  iterate 6 (focus ((with_reducible (repeat' (first | assumption | apply jA | apply jB | apply jC | apply jD | apply jE | apply jF | apply hb3 | apply jG | apply jH | apply jI | apply jJ | apply jK | apply hb3x | (apply jL; first | (simp; done) | rfl) | apply jM | apply jN | apply jO | apply jP | apply jQ | apply jR | apply jS | apply jT (hb := hb3 _ (jA _)) | omega | (simp; done) | (simp; omega) | (dsimp only; omega)))); done))
  intro wd hb0' k0' k1' k2' k3' k4'
  (try simp only [List.setIfInBounds_toArray, List.set_cons_zero, List.set_cons_succ] at k0' k1' k2' k3' k4')
  try clear hb3
  try clear Lk0
  try clear Fk0
  try clear Qk0
  try clear Lk1
  try clear Fk1
  try clear Qk1
  try clear Lk2
  try clear Fk2
  try clear Qk2
  try clear Lk3
  try clear Fk3
  try clear Qk3
  try clear Lk4
  try clear Fk4
  try clear Qk4
  try clear hb0
  try clear k0
  try clear k1
  try clear k2
  try clear k3
  try clear k4
  have hb0 := hb0'; clear hb0'
  have k0 := k0'; clear k0'
  have k1 := k1'; clear k1'
  have k2 := k2'; clear k2'
  have k3 := k3'; clear k3'
  have k4 := k4'; clear k4'
  have Lk0 := k0.later
  have Fk0 := k0.laterF
  have Qk0 := k0.lt
  have Lk1 := k1.later
  have Fk1 := k1.laterF
  have Qk1 := k1.lt
  have Lk2 := k2.later
  have Fk2 := k2.laterF
  have Qk2 := k2.lt
  have Lk3 := k3.later
  have Fk3 := k3.laterF
  have Qk3 := k3.lt
  have Lk4 := k4.later
  have Fk4 := k4.laterF
  have Qk4 := k4.lt
  rw [rounds_succ]
  go_wp2
  refine wp_any (w0 := wd) ⟨[30], [], [some 59, some 60, some 61, some 62, some 63, some 64, some 65, some 66, some 67, some 68, some 69, some 70, some 71, some 72, some 73, some 74, some 75, some 76, some 77, some 78, some 79, some 80, some 81, some 82, some 83, some 84, some 85, some 86, some 87, some 88, none], [[], [], [1], [1, 2], [], [4], [4, 5], [], [7], [7, 8], [7, 8, 9], [], [], [11, 12], [11, 12, 13], [], [15], [15, 16], [15, 16, 17], [], [19], [19, 20], [19, 20, 21], [15, 16, 17, 18, 19, 20, 21, 22], [15, 16, 17, 18, 19, 20, 21, 22, 23], [11, 12, 13, 14, 15, 16, 17, 18, 19, 20, 21, 22, 23, 24], [7, 8, 9, 10, 11, 12, 13, 14, 15, 16, 17, 18, 19, 20, 21, 22, 23, 24, 25], [4, 5, 6, 7, 8, 9, 10, 11, 12, 13, 14, 15, 16, 17, 18, 19, 20, 21, 22, 23, 24, 25, 26], [1, 2, 3, 4, 5, 6, 7, 8, 9, 10, 11, 12, 13, 14, 15, 16, 17, 18, 19, 20, 21, 22, 23, 24, 25, 26, 27], [0, 1, 2, 3, 4, 5, 6, 7, 8, 9, 10, 11, 12, 13, 14, 15, 16, 17, 18, 19, 20, 21, 22, 23, 24, 25, 26, 27, 28], [0, 1, 2, 3, 4, 5, 6, 7, 8, 9, 10, 11, 12, 13, 14, 15, 16, 17, 18, 19, 20, 21, 22, 23, 24, 25, 26, 27, 28, 29]], [[], [], [1], [2], [], [4], [5], [], [7], [8], [9], [], [], [11, 12], [13], [], [15], [16], [17], [], [19], [20], [21], [18, 22], [23], [14, 24], [10, 25], [6, 26], [3, 27], [0], []]⟩ (fun _ => [gp]) (by kernel_rfl) (by kernel_rfl) (by (with_reducible (repeat' (first | assumption | apply jA | apply jB | apply jC | apply jD | apply jE | apply jF | apply hb3 | omega | (simp; done) | (simp; omega) | (dsimp only; omega))))) (fun u => by simp only [putD, Act.put, List.setIfInBounds_toArray, List.set_cons_zero, List.set_cons_succ, Nat.zero_add, Nat.reduceAdd]; rfl) ?_
  apply RGW.on (i := 0) rfl
  · (simp only [gA, gB, gC] <;> rfl)
  · intro γ u W hcur hd
    clear hd
    (try dsimp only)
    refine ⟨rfl, ?_⟩
    go_simp <;> (try go_bits) <;> with_reducible rfl
  · exact fun _ _ _ => rfl
  · rfl
  dsimp only [nA, cA]
  apply RGW.on (i := 1) rfl
  · (simp only [gA, gB, gC] <;> rfl)
  · intro γ u W hcur hd
    clear hd
    (try dsimp only)
    refine ⟨rfl, ?_⟩
    go_simp <;> (try go_bits) <;> with_reducible rfl
  · exact fun _ _ _ => rfl
  · rfl
  dsimp only [nA, cA]
  apply RGW.on (i := 2) rfl
  · (simp only [gA, gB, gC] <;> rfl)
  · intro γ u W hcur hd
    obtain ⟨⟨h1, -, -⟩, -⟩ := hd
    dsimp only at h1
    (try simp only [h1])
    refine ⟨rfl, ?_⟩
    go_simp <;> (try go_bits) <;> with_reducible rfl
  · exact fun _ _ _ => rfl
  · rfl
  dsimp only [nA, cA]
  apply RGW.on (i := 3) rfl
  · (simp only [gA, gB, gC] <;> rfl)
  · intro γ u W hcur hd
    obtain ⟨⟨h2, -, -⟩, -⟩ := hd
    dsimp only at h2
    (try simp only [h2])
    refine ⟨rfl, ?_⟩
    go_simp <;> (try go_bits) <;> with_reducible rfl
  · exact fun _ _ _ => rfl
  · rfl
  dsimp only [nA, cA]
  apply RGW.on (i := 4) rfl
  · (simp only [gA, gB, gC] <;> rfl)
  · intro γ u W hcur hd
    clear hd
    (try dsimp only)
    refine ⟨rfl, ?_⟩
    go_simp <;> (try go_bits) <;> with_reducible rfl
  · exact fun _ _ _ => rfl
  · rfl
  dsimp only [nA, cA]
  apply RGW.on (i := 5) rfl
  · (simp only [gA, gB, gC] <;> rfl)
  · intro γ u W hcur hd
    obtain ⟨⟨h4, -, -⟩, -⟩ := hd
    dsimp only at h4
    (try simp only [h4])
    refine ⟨rfl, ?_⟩
    go_simp <;> (try go_bits) <;> with_reducible rfl
  · exact fun _ _ _ => rfl
  · rfl
  dsimp only [nA, cA]
  apply RGW.on (i := 6) rfl
  · (simp only [gA, gB, gC] <;> rfl)
  · intro γ u W hcur hd
    obtain ⟨⟨h5, -, -⟩, -⟩ := hd
    dsimp only at h5
    (try simp only [h5])
    refine ⟨rfl, ?_⟩
    go_simp <;> (try go_bits) <;> with_reducible rfl
  · exact fun _ _ _ => rfl
  · rfl
  dsimp only [nA, cA]
  apply RGW.on (i := 7) rfl
  · (simp only [gA, gB, gC] <;> rfl)
  · intro γ u W hcur hd
    clear hd
    (try dsimp only)
    refine ⟨rfl, ?_⟩
    go_simp <;> (try go_bits) <;> with_reducible rfl
  · exact fun _ _ _ => rfl
  · rfl
  dsimp only [nA, cA]
  apply RGW.on (i := 8) rfl
  · (simp only [gA, gB, gC] <;> rfl)
  · intro γ u W hcur hd
    obtain ⟨⟨h7, -, -⟩, -⟩ := hd
    dsimp only at h7
    (try simp only [h7])
    refine ⟨rfl, ?_⟩
    go_simp <;> (try go_bits) <;> with_reducible rfl
  · exact fun _ _ _ => rfl
  · rfl
  dsimp only [nA, cA]
  apply RGW.on (i := 9) rfl
  · (simp only [gA, gB, gC] <;> rfl)
  · intro γ u W hcur hd
    obtain ⟨⟨h8, -, -⟩, -⟩ := hd
    dsimp only at h8
    (try simp only [h8])
    refine ⟨rfl, ?_⟩
    go_simp <;> (try go_bits) <;> with_reducible rfl
  · exact fun _ _ _ => rfl
  · rfl
  dsimp only [nA, cA]
  apply RGW.on (i := 10) rfl
  · (simp only [gA, gB, gC] <;> rfl)
  · intro γ u W hcur hd
    obtain ⟨⟨h9, -, -⟩, -⟩ := hd
    dsimp only at h9
    (try simp only [h9])
    refine ⟨rfl, ?_⟩
    go_simp <;> (try go_bits) <;> with_reducible rfl
  · exact fun _ _ _ => rfl
  · rfl
  dsimp only [nA, cA]
  apply RGW.on (i := 11) rfl
  · (simp only [gA, gB, gC] <;> rfl)
  · intro γ u W hcur hd
    clear hd
    (try dsimp only)
    refine ⟨rfl, ?_⟩
    go_simp <;> (try go_bits) <;> with_reducible rfl
  · exact fun _ _ _ => rfl
  · rfl
  dsimp only [nA, cA]
  apply RGW.on (i := 12) rfl
  · (simp only [gA, gB, gC] <;> rfl)
  · intro γ u W hcur hd
    clear hd
    (try dsimp only)
    refine ⟨rfl, ?_⟩
    go_simp <;> (try go_bits) <;> with_reducible rfl
  · exact fun _ _ _ => rfl
  · rfl
  dsimp only [nA, cA]
  apply RGW.on (i := 13) rfl
  · (simp only [gA, gB, gC] <;> rfl)
  · intro γ u W hcur hd
    obtain ⟨⟨h11, -, -⟩, ⟨h12, -, -⟩, -⟩ := hd
    dsimp only at h11 h12
    (try simp only [h11, h12])
    refine ⟨rfl, ?_⟩
    go_simp <;> (try go_bits) <;> with_reducible rfl
  · exact fun _ _ _ => rfl
  · rfl
  dsimp only [nA, cA]
  apply RGW.on (i := 14) rfl
  · (simp only [gA, gB, gC] <;> rfl)
  · intro γ u W hcur hd
    obtain ⟨⟨h13, -, -⟩, -⟩ := hd
    dsimp only at h13
    (try simp only [h13])
    refine ⟨rfl, ?_⟩
    go_simp <;> (try go_bits) <;> with_reducible rfl
  · exact fun _ _ _ => rfl
  · rfl
  dsimp only [nA, cA]
  apply RGW.on (i := 15) rfl
  · (simp only [gA, gB, gC] <;> rfl)
  · intro γ u W hcur hd
    clear hd
    (try dsimp only)
    refine ⟨rfl, ?_⟩
    go_simp <;> (try go_bits) <;> with_reducible rfl
  · exact fun _ _ _ => rfl
  · rfl
  dsimp only [nA, cA]
  apply RGW.on (i := 16) rfl
  · (simp only [gA, gB, gC] <;> rfl)
  · intro γ u W hcur hd
    obtain ⟨⟨h15, -, -⟩, -⟩ := hd
    dsimp only at h15
    (try simp only [h15])
    refine ⟨rfl, ?_⟩
    go_simp <;> (try go_bits) <;> with_reducible rfl
  · exact fun _ _ _ => rfl
  · rfl
  dsimp only [nA, cA]
  apply RGW.on (i := 17) rfl
  · (simp only [gA, gB, gC] <;> rfl)
  · intro γ u W hcur hd
    obtain ⟨⟨h16, -, -⟩, -⟩ := hd
    dsimp only at h16
    (try simp only [h16])
    refine ⟨rfl, ?_⟩
    go_simp <;> (try go_bits) <;> with_reducible rfl
  · exact fun _ _ _ => rfl
  · rfl
  dsimp only [nA, cA]
  apply RGW.on (i := 18) rfl
  · (simp only [gA, gB, gC] <;> rfl)
  · intro γ u W hcur hd
    obtain ⟨⟨h17, -, -⟩, -⟩ := hd
    dsimp only at h17
    (try simp only [h17])
    refine ⟨rfl, ?_⟩
    go_simp <;> (try go_bits) <;> with_reducible rfl
  · exact fun _ _ _ => rfl
  · rfl
  dsimp only [nA, cA]
  apply RGW.on (i := 19) rfl
  · (simp only [gA, gB, gC] <;> rfl)
  · intro γ u W hcur hd
    clear hd
    (try dsimp only)
    refine ⟨rfl, ?_⟩
    go_simp <;> (try go_bits) <;> with_reducible rfl
  · exact fun _ _ _ => rfl
  · rfl
  dsimp only [nA, cA]
  apply RGW.on (i := 20) rfl
  · (simp only [gA, gB, gC] <;> rfl)
  · intro γ u W hcur hd
    obtain ⟨⟨h19, -, -⟩, -⟩ := hd
    dsimp only at h19
    (try simp only [h19])
    refine ⟨rfl, ?_⟩
    go_simp <;> (try go_bits) <;> with_reducible rfl
  · exact fun _ _ _ => rfl
  · rfl
  dsimp only [nA, cA]
  apply RGW.on (i := 21) rfl
  · (simp only [gA, gB, gC] <;> rfl)
  · intro γ u W hcur hd
    obtain ⟨⟨h20, -, -⟩, -⟩ := hd
    dsimp only at h20
    (try simp only [h20])
    refine ⟨rfl, ?_⟩
    go_simp <;> (try go_bits) <;> with_reducible rfl
  · exact fun _ _ _ => rfl
  · rfl
  dsimp only [nA, cA]
  apply RGW.on (i := 22) rfl
  · (simp only [gA, gB, gC] <;> rfl)
  · intro γ u W hcur hd
    obtain ⟨⟨h21, -, -⟩, -⟩ := hd
    dsimp only at h21
    (try simp only [h21])
    refine ⟨rfl, ?_⟩
    go_simp <;> (try go_bits) <;> with_reducible rfl
  · exact fun _ _ _ => rfl
  · rfl
  dsimp only [nA, cA]
  apply RGW.on (i := 23) rfl
  · (simp only [gA, gB, gC] <;> rfl)
  · intro γ u W hcur hd
    obtain ⟨⟨h18, -, -⟩, ⟨h22, -, -⟩, -⟩ := hd
    dsimp only at h18 h22
    (try simp only [h18, h22])
    refine ⟨rfl, ?_⟩
    go_simp <;> (try go_bits) <;> with_reducible rfl
  · exact fun _ _ _ => rfl
  · rfl
  dsimp only [nA, cA]
  apply RGW.on (i := 24) rfl
  · (simp only [gA, gB, gC] <;> rfl)
  · intro γ u W hcur hd
    obtain ⟨⟨h23, -, -⟩, -⟩ := hd
    dsimp only at h23
    (try simp only [h23])
    refine ⟨rfl, ?_⟩
    go_simp <;> (try go_bits) <;> with_reducible rfl
  · exact fun _ _ _ => rfl
  · rfl
  dsimp only [nA, cA]
  apply RGW.call (i := 25) rfl
  · (simp only [gA, gB, gC] <;> rfl)
  · intro γ u W hcur hd
    obtain ⟨⟨h14, -, -⟩, ⟨h24, -, -⟩, -⟩ := hd
    dsimp only at h14 h24
    (try simp only [h14, h24])
    refine ⟨rfl, fun K hK => ?_⟩
    go_simp
    (go_at_call 33; (first | (with_reducible refine (hmx.out _).mono ?_) | (with_reducible refine (hmy.out _).mono ?_) | (with_reducible refine (hmz.out _).mono ?_)); rintro e w3 ⟨rfl, rfl⟩)
    (try dsimp only)
    exact hK.out _ _ rfl (by (with_reducible (repeat' (first | assumption | apply jA | apply jB | apply jC | apply jD | apply jE | apply jF | apply hb3 | omega | (simp; done) | (simp; omega) | (dsimp only; omega)))))
  · exact fun _ _ _ => rfl
  · rfl
  dsimp only [nA, cA]
  apply RGW.on (i := 26) rfl
  · (simp only [gA, gB, gC] <;> rfl)
  · intro γ u W hcur hd
    obtain ⟨⟨h10, -, -⟩, ⟨h25, -, -⟩, -⟩ := hd
    dsimp only at h10 h25
    (try simp only [h10, h25])
    refine ⟨rfl, ?_⟩
    go_simp <;> (try go_bits) <;> with_reducible rfl
  · exact fun _ _ _ => rfl
  · rfl
  dsimp only [nA, cA]
  apply RGW.on (i := 27) rfl
  · (simp only [gA, gB, gC] <;> rfl)
  · intro γ u W hcur hd
    obtain ⟨⟨h6, -, -⟩, ⟨h26, -, -⟩, -⟩ := hd
    dsimp only at h6 h26
    (try simp only [h6, h26])
    refine ⟨rfl, ?_⟩
    go_simp <;> (try go_bits) <;> with_reducible rfl
  · exact fun _ _ _ => rfl
  · rfl
  dsimp only [nA, cA]
  apply RGW.on (i := 28) rfl
  · (simp only [gA, gB, gC] <;> rfl)
  · intro γ u W hcur hd
    obtain ⟨⟨h3, -, -⟩, ⟨h27, -, -⟩, -⟩ := hd
    dsimp only at h3 h27
    (try simp only [h3, h27])
    refine ⟨rfl, ?_⟩
    go_simp <;> (try go_bits) <;> with_reducible rfl
  · exact fun _ _ _ => rfl
  · rfl
  dsimp only [nA, cA]
  apply RGW.on (i := 29) rfl
  · (simp only [gA, gB, gC] <;> rfl)
  · intro γ u W hcur hd
    obtain ⟨⟨h0, -, -⟩, -⟩ := hd
    dsimp only at h0
    (try simp only [h0])
    refine ⟨rfl, ?_⟩
    go_simp <;> (try go_bits) <;> with_reducible rfl
  · exact fun _ _ _ => rfl
  · rfl
  dsimp only [nA, cA]
  refine RGW.skip (i := 30) rfl rfl ?_
  dsimp only [nA, cA]
  refine RGW.fin (fun γ u we hwe hd hdis => ?_)
  obtain ⟨⟨h0, -, -⟩, ⟨h1, -, -⟩, ⟨h2, -, -⟩, ⟨h3, -, -⟩, ⟨h4, -, -⟩, ⟨h5, -, -⟩, ⟨h6, -, -⟩, ⟨h7, -, -⟩, ⟨h8, -, -⟩, ⟨h9, -, -⟩, ⟨h10, -, -⟩, ⟨h11, -, -⟩, ⟨h12, -, -⟩, ⟨h13, -, -⟩, ⟨h14, -, -⟩, ⟨h15, -, -⟩, ⟨h16, -, -⟩, ⟨h17, -, -⟩, ⟨h18, -, -⟩, ⟨h19, -, -⟩, ⟨h20, -, -⟩, ⟨h21, -, -⟩, ⟨h22, -, -⟩, ⟨h23, -, -⟩, ⟨h24, -, -⟩, ⟨h25, -, -⟩, ⟨h26, -, -⟩, ⟨h27, -, -⟩, ⟨h28, -, -⟩, ⟨h29, -, -⟩, -⟩ := hd
  dsimp only at h0 h1 h2 h3 h4 h5 h6 h7 h8 h9 h10 h11 h12 h13 h14 h15 h16 h17 h18 h19 h20 h21 h22 h23 h24 h25 h26 h27 h28 h29
  clear hdis
  simp only [h0, h1, h2, h3, h4, h5, h6, h7, h8, h9, h10, h11, h12, h13, h14, h15, h16, h17, h18, h19, h20, h21, h22, h23, h24, h25, h26, h27, h28, h29]
  clear h29 h28 h27 h26 h25 h24 h23 h22 h21 h20 h19 h18 h17 h16 h15 h14 h13 h12 h11 h10 h9 h8 h7 h6 h5 h4 h3 h2 h1 h0
  clear u
  simp only [List.map_cons, List.map_nil]
  apply PlanW.step
  · (simp only [gA, gB, gC] <;> rfl)
  · rfl
  intro K hK
  go_simp
  refine hK.out _ _ (by (with_reducible (repeat' (first | assumption | apply jG | apply jH | apply jI | apply jJ | apply jK | apply hb3x | omega | (simp; done) | (simp; omega) | (dsimp only; omega))))) (fun hcur => ?_)
  clear hK K
  try simp only [Act.put, List.setIfInBounds_toArray, List.set_cons_zero, List.set_cons_succ]
  refine PlanW.done ?_
  have hb3 := bl_tt hwe
  go_wp2
  apply absRB5 (w0 := w) (g0 := w.heap.size) (g1 := w.heap.size + 1) (g2 := w.heap.size + 2) (g3 := gp) (g4 := gv)
  iterate 6 (focus ((with_reducible (repeat' (first | assumption | apply jA | apply jB | apply jC | apply jD | apply jE | apply jF | apply hb3 | apply jG | apply jH | apply jI | apply jJ | apply jK | apply hb3x | (apply jL; first | (simp; done) | rfl) | apply jM | apply jN | apply jO | apply jP | apply jQ | apply jR | apply jS | apply jT (hb := hb3 _ (jA _)) | omega | (simp; done) | (simp; omega) | (dsimp only; omega)))); done))
  intro wd hb0' k0' k1' k2' k3' k4'
  (try simp only [List.setIfInBounds_toArray, List.set_cons_zero, List.set_cons_succ] at k0' k1' k2' k3' k4')
  try clear hb3
  try clear Lk0
  try clear Fk0
  try clear Qk0
  try clear Lk1
  try clear Fk1
  try clear Qk1
  try clear Lk2
  try clear Fk2
  try clear Qk2
  try clear Lk3
  try clear Fk3
  try clear Qk3
  try clear Lk4
  try clear Fk4
  try clear Qk4
  try clear hb0
  try clear k0
  try clear k1
  try clear k2
  try clear k3
  try clear k4
  have hb0 := hb0'; clear hb0'
  have k0 := k0'; clear k0'
  have k1 := k1'; clear k1'
  have k2 := k2'; clear k2'
  have k3 := k3'; clear k3'
  have k4 := k4'; clear k4'
  have Lk0 := k0.later
  have Fk0 := k0.laterF
  have Qk0 := k0.lt
  have Lk1 := k1.later
  have Fk1 := k1.laterF
  have Qk1 := k1.lt
  have Lk2 := k2.later
  have Fk2 := k2.laterF
  have Qk2 := k2.lt
  have Lk3 := k3.later
  have Fk3 := k3.laterF
  have Qk3 := k3.lt
  have Lk4 := k4.later
  have Fk4 := k4.laterF
  have Qk4 := k4.lt
  clear hmx hmy hmz
  rw [rounds_succ]
  go_upto_region 11 with fail
  apply absB4 (w0 := w) (g0 := w.heap.size) (g1 := w.heap.size + 1) (g2 := w.heap.size + 2) (g3 := wd.heap.size)
  iterate 5 (focus ((with_reducible (repeat' (first | assumption | apply jA | apply jB | apply jC | apply jD | apply jE | apply jF | apply hb3 | apply jG | apply jH | apply jI | apply jJ | apply jK | apply hb3x | (apply jL; first | (simp; done) | rfl) | apply jM | apply jN | apply jO | apply jP | apply jQ | apply jR | apply jS | apply jT (hb := hb3 _ (jA _)) | omega | (simp; done) | (simp; omega) | (dsimp only; omega)))); done))
  intro wf hb0' k0' k1' k2' k5'
  (try simp only [List.setIfInBounds_toArray, List.set_cons_zero, List.set_cons_succ] at k0' k1' k2' k5')
  try clear hb3
  try clear Lk0
  try clear Fk0
  try clear Qk0
  try clear Lk1
  try clear Fk1
  try clear Qk1
  try clear Lk2
  try clear Fk2
  try clear Qk2
  try clear Lk3
  try clear Fk3
  try clear Qk3
  try clear Lk4
  try clear Fk4
  try clear Qk4
  try clear hb0
  try clear k0
  try clear k1
  try clear k2
  try clear k5
  have hb0 := hb0'; clear hb0'
  have k0 := k0'; clear k0'
  have k1 := k1'; clear k1'
  have k2 := k2'; clear k2'
  have k5 := k5'; clear k5'
  have Lk0 := k0.later
  have Fk0 := k0.laterF
  have Qk0 := k0.lt
  have Lk1 := k1.later
  have Fk1 := k1.laterF
  have Qk1 := k1.lt
  have Lk2 := k2.later
  have Fk2 := k2.laterF
  have Qk2 := k2.lt
  have Lk5 := k5.later
  have Fk5 := k5.laterF
  have Qk5 := k5.lt
  generalize p.x + m.ticks * (m.speed.x.lo + ux) = tx at *
  generalize p.y + m.ticks * (m.speed.y.lo + uy) = ty at *
  generalize p.z + m.ticks * (m.speed.z.lo + uz) = tz at *
  clear bux buy buz mx0 mx1 my0 my1 mz0 mz1
  refine wp_any (w0 := wf) ⟨[10, 11], [8], [some 97, some 98, some 99, some 100, some 101, some 102, some 96, some 103, some 104, some 11, none, none], [[], [0], [], [], [3], [0, 1, 2, 3, 4], [0, 1, 2, 3, 4, 5], [0, 1, 2, 3, 4, 5, 6], [0, 1, 2, 3, 4, 5, 6], [], [0, 1, 2, 3, 4, 5, 6, 7, 9], [0, 1, 2, 3, 4, 5, 6, 7, 8, 9, 10]], [[], [0], [], [], [3], [1, 2, 4], [1, 5], [1, 6], [1, 6], [], [], []]⟩ (fun γ => [(γ 9).n]) (by kernel_rfl) (by kernel_rfl) (by (with_reducible (repeat' (first | assumption | apply jA | apply jB | apply jC | apply jD | apply jE | apply jF | apply hb3 | omega | (simp; done) | (simp; omega) | (dsimp only; omega))))) (fun u => by simp only [putD, Act.put, List.setIfInBounds_toArray, List.set_cons_zero, List.set_cons_succ, Nat.zero_add, Nat.reduceAdd]; rfl) ?_
  apply RGW.on (i := 0) rfl
  · (simp only [gA, gB, gC] <;> rfl)
  · intro γ u W hcur hd
    clear hd
    (try dsimp only)
    refine ⟨rfl, ?_⟩
    go_simp <;> (try go_bits) <;> with_reducible rfl
  · exact fun _ _ _ => rfl
  · rfl
  dsimp only [nA, cA]
  apply RGW.gh (⟨fun γ => vNt n.world (.slice (γ 1).A nl (γ 1).c), fun γ W => NtIn n (γ 1).A (γ 1).c W, fun _ => []⟩) (i := 1) rfl
  · (simp only [gA, gB, gC] <;> rfl)
  · intro γ u W hcur hd
    obtain ⟨⟨h0, -, -⟩, -⟩ := hd
    dsimp only at h0
    (try simp only [h0])
    refine ⟨rfl, fun K hK => ?_⟩
    go_simp
    (go_at_call 13; (with_reducible refine (hcp.out _ (bl_tr hb0 hcur)).mono ?_); rintro e w3 ⟨Ax, cx, rfl, hb3, hox⟩; dsimp only; exact hK.out ⟨0, undef, Ax, cx⟩ _ _ (by simp [up]) hb3 (by simpa [up] using hox) (by simp))
  · intro γ γ' hg
    try dsimp only
    have e1 := hg 1 (by decide)
    simp only [e1]
    try exact ⟨trivial, fun _ h => h⟩
  · intro γ W W' hbl hR
    first | exact hR.below hbl | exact own_below hR hbl | exact trivial | exact ⟨hR.1.below hbl, hR.2⟩
  · rfl
  dsimp only [nA, cA]
  apply RGW.on (i := 2) rfl
  · (simp only [gA, gB, gC] <;> rfl)
  · intro γ u W hcur hd
    clear hd
    (try dsimp only)
    refine ⟨rfl, ?_⟩
    go_simp <;> (try go_bits) <;> with_reducible rfl
  · exact fun _ _ _ => rfl
  · rfl
  dsimp only [nA, cA]
  apply RGW.on (i := 3) rfl
  · (simp only [gA, gB, gC] <;> rfl)
  · intro γ u W hcur hd
    clear hd
    (try dsimp only)
    refine ⟨rfl, ?_⟩
    go_simp <;> (try go_bits) <;> with_reducible rfl
  · exact fun _ _ _ => rfl
  · rfl
  dsimp only [nA, cA]
  apply RGW.on (i := 4) rfl
  · (simp only [gA, gB, gC] <;> rfl)
  · intro γ u W hcur hd
    obtain ⟨⟨h3, -, -⟩, -⟩ := hd
    dsimp only at h3
    (try simp only [h3])
    refine ⟨rfl, ?_⟩
    go_simp <;> (try go_bits) <;> with_reducible rfl
  · exact fun _ _ _ => rfl
  · rfl
  dsimp only [nA, cA]
  apply RGW.call (i := 5) rfl
  · (simp only [gA, gB, gC] <;> rfl)
  · intro γ u W hcur hd
    obtain ⟨⟨h1, r1, -⟩, ⟨h2, -, -⟩, ⟨h4, -, -⟩, -⟩ := hd
    dsimp only at h1 h2 h4 r1
    (try simp only [h1, h2, h4])
    refine ⟨rfl, fun K hK => ?_⟩
    go_simp
    (go_at_call 34; (with_reducible refine (hca.out _ _ _ r1).mono ?_); rintro e w3 ⟨rfl, hb3⟩; replace hb3 := bl_tt hb3)
    (try dsimp only)
    exact hK.out _ _ rfl (by (with_reducible (repeat' (first | assumption | apply jA | apply jB | apply jC | apply jD | apply jE | apply jF | apply hb3 | omega | (simp; done) | (simp; omega) | (dsimp only; omega)))))
  · exact fun _ _ _ => rfl
  · rfl
  dsimp only [nA, cA]
  apply RGW.on (i := 6) rfl
  · (simp only [gA, gB, gC] <;> rfl)
  · intro γ u W hcur hd
    obtain ⟨⟨h1, r1, -⟩, ⟨h5, -, -⟩, -⟩ := hd
    dsimp only at h1 h5 r1
    (try simp only [h1, h5])
    refine ⟨rfl, ?_⟩
    go_simp <;> (try go_bits) <;> with_reducible rfl
  · exact fun _ _ _ => rfl
  · rfl
  dsimp only [nA, cA]
  apply RGW.on (i := 7) rfl
  · (simp only [gA, gB, gC] <;> rfl)
  · intro γ u W hcur hd
    obtain ⟨⟨h1, r1, -⟩, ⟨h6, -, -⟩, -⟩ := hd
    dsimp only at h1 h6 r1
    (try simp only [h1, h6])
    refine ⟨rfl, ?_⟩
    go_simp <;> (try go_bits) <;> with_reducible rfl
  · exact fun _ _ _ => rfl
  · rfl
  dsimp only [nA, cA]
  apply RGW.onL (i := 8) rfl
  · (simp only [gA, gB, gC] <;> rfl)
  · intro γ u Wm W hcur hd hX
    obtain ⟨⟨h1, r1, -⟩, ⟨h6, -, -⟩, -⟩ := hd
    dsimp only at h1 h6 r1
    (try simp only [h1, h6])
    refine ⟨rfl, ?_⟩
    go_simp <;> (try go_bits) <;> with_reducible rfl
  · exact fun _ _ _ => rfl
  dsimp only [nA, cA]
  apply RGW.alloc (i := 9) rfl
  · (simp only [gA, gB, gC] <;> rfl)
  · intro γ u W hcur hd
    clear hd
    (try dsimp only)
    refine ⟨rfl, fun K hK => ?_⟩
    go_simp
    exact hK.out _ _ rfl rfl
  · exact fun _ _ _ => rfl
  · rfl
  · rfl
  dsimp only [nA, cA]
  refine RGW.skip (i := 10) rfl rfl ?_
  dsimp only [nA, cA]
  refine RGW.skip (i := 11) rfl rfl ?_
  dsimp only [nA, cA]
  refine RGW.fin (fun γ u wg hwg hd hdis => ?_)
  obtain ⟨⟨h0, -, -⟩, ⟨h1, r1, b1⟩, ⟨h2, -, -⟩, ⟨h3, -, -⟩, ⟨h4, -, -⟩, ⟨h5, -, -⟩, ⟨h6, -, -⟩, ⟨h7, -, -⟩, ⟨h8, -, -⟩, ⟨h9, r9, b9⟩, -⟩ := hd
  dsimp only at h0 h1 h2 h3 h4 h5 h6 h7 h8 h9 r1 r9 b1 b9
  clear hdis
  simp only [h0, h1, h2, h3, h4, h5, h6, h7, h8, h9]
  clear h9 h8 h7 h6 h5 h4 h3 h2 h1 h0
  replace b9 := b9 _ (List.mem_singleton.2 rfl)
  generalize hγ9 : (γ 9).n = g9 at *
  clear hγ9
  clear u
  simp only [List.map_cons, List.map_nil]
  apply PlanW.step
  · (simp only [gA, gB, gC] <;> rfl)
  · rfl
  intro K hK
  refine wp_store_keep (X := [g9]) (w0 := wg) rfl rfl rfl (by with_reducible first | exact bx_refl _ _ | assumption) (by with_reducible first | assumption | (apply Blk.below (hb := hwg); assumption)) (by simp) (by kernel_rfl) (by rfl) (by simp [Value.oneCell']) (fun hres1 hcur => ?_)
  refine hK.out _ _ hcur (fun _ => ?_)
  clear hK K
  try simp only [Act.put, List.setIfInBounds_toArray, List.set_cons_zero, List.set_cons_succ]
  apply PlanW.step
  · (simp only [gA, gB, gC] <;> rfl)
  · rfl
  intro K hK
  go_simp
  refine hK.out _ _ (by (with_reducible (repeat' (first | assumption | apply jG | apply jH | apply jI | apply jJ | apply jK | apply hb3x | omega | (simp; done) | (simp; omega) | (dsimp only; omega))))) (fun hcur => ?_)
  clear hK K
  try simp only [Act.put, List.setIfInBounds_toArray, List.set_cons_zero, List.set_cons_succ]
  refine PlanW.done ?_
  have hb3 := bl_tt hwg
  clear r1
  generalize g9 = ggk6 at *
  apply absTB5 (w0 := w) (g0 := w.heap.size) (g1 := w.heap.size + 1) (g2 := w.heap.size + 2) (g3 := wd.heap.size) (g4 := ggk6)
  iterate 6 (focus ((with_reducible (repeat' (first | assumption | apply jA | apply jB | apply jC | apply jD | apply jE | apply jF | apply hb3 | apply jG | apply jH | apply jI | apply jJ | apply jK | apply hb3x | (apply jL; first | (simp; done) | rfl) | apply jM | apply jN | apply jO | apply jP | apply jQ | apply jR | apply jS | apply jT (hb := hb3 _ (jA _)) | omega | (simp; done) | (simp; omega) | (dsimp only; omega)))); done))
  intro wh hb0' k0' k1' k2' k5' k6'
  (try simp only [List.setIfInBounds_toArray, List.set_cons_zero, List.set_cons_succ] at k0' k1' k2' k5' k6')
  try clear hb3
  try clear Lk0
  try clear Fk0
  try clear Qk0
  try clear Lk1
  try clear Fk1
  try clear Qk1
  try clear Lk2
  try clear Fk2
  try clear Qk2
  try clear Lk5
  try clear Fk5
  try clear Qk5
  try clear hb0
  try clear k0
  try clear k1
  try clear k2
  try clear k5
  try clear k6
  have hb0 := hb0'; clear hb0'
  have k0 := k0'; clear k0'
  have k1 := k1'; clear k1'
  have k2 := k2'; clear k2'
  have k5 := k5'; clear k5'
  have k6 := k6'; clear k6'
  have Lk0 := k0.later
  have Fk0 := k0.laterF
  have Qk0 := k0.lt
  have Lk1 := k1.later
  have Fk1 := k1.laterF
  have Qk1 := k1.lt
  have Lk2 := k2.later
  have Fk2 := k2.laterF
  have Qk2 := k2.lt
  have Lk5 := k5.later
  have Fk5 := k5.laterF
  have Qk5 := k5.lt
  have Lk6 := k6.later
  have Fk6 := k6.laterF
  have Qk6 := k6.lt
  cases WI
  · clear fA hic hbc hib hcb
    have hb3 := fun (w' : World) (h : Below w'.heap.size w' wh) => h
    have hv := hb3 wh (bl_refl wh)
    go_upto_region 18 with (go_at_call 30; (with_reducible refine (hiw.out _).mono ?_); rintro e w3 ⟨rfl, hb4⟩; replace hb3 := fun w h => bl_tt hb4 w (hb3 w h); have hv := hb3 wh (bl_refl wh))
    apply absB4 (w0 := w) (g0 := w.heap.size) (g1 := w.heap.size + 1) (g2 := w.heap.size + 2) (g3 := ggk6)
    iterate 5 (focus ((with_reducible (repeat' (first | assumption | apply jA | apply jB | apply jC | apply jD | apply jE | apply jF | apply hb3 | apply jG | apply jH | apply jI | apply jJ | apply jK | apply hb3x | (apply jL; first | (simp; done) | rfl) | apply jM | apply jN | apply jO | apply jP | apply jQ | apply jR | apply jS | apply jT (hb := hb3 _ (jA _)) | omega | (simp; done) | (simp; omega) | (dsimp only; omega)))); done))
    intro y1 hb0' k0' k1' k2' k6'
    (try simp only [List.setIfInBounds_toArray, List.set_cons_zero, List.set_cons_succ] at k0' k1' k2' k6')
    try clear hb3
    try clear Lk0
    try clear Fk0
    try clear Qk0
    try clear Lk1
    try clear Fk1
    try clear Qk1
    try clear Lk2
    try clear Fk2
    try clear Qk2
    try clear Lk5
    try clear Fk5
    try clear Qk5
    try clear Lk6
    try clear Fk6
    try clear Qk6
    try clear hb0
    try clear k0
    try clear k1
    try clear k2
    try clear k6
    have hb0 := hb0'; clear hb0'
    have k0 := k0'; clear k0'
    have k1 := k1'; clear k1'
    have k2 := k2'; clear k2'
    have k6 := k6'; clear k6'
    have Lk0 := k0.later
    have Fk0 := k0.laterF
    have Qk0 := k0.lt
    have Lk1 := k1.later
    have Fk1 := k1.laterF
    have Qk1 := k1.lt
    have Lk2 := k2.later
    have Fk2 := k2.laterF
    have Qk2 := k2.lt
    have Lk6 := k6.later
    have Fk6 := k6.laterF
    have Qk6 := k6.lt
    go_upto_region 20 with fail
    apply absB5 (w0 := w) (g0 := w.heap.size) (g1 := w.heap.size + 1) (g2 := w.heap.size + 2) (g3 := ggk6) (g4 := y1.heap.size)
    iterate 6 (focus ((with_reducible (repeat' (first | assumption | apply jA | apply jB | apply jC | apply jD | apply jE | apply jF | apply hb3 | apply jG | apply jH | apply jI | apply jJ | apply jK | apply hb3x | (apply jL; first | (simp; done) | rfl) | apply jM | apply jN | apply jO | apply jP | apply jQ | apply jR | apply jS | apply jT (hb := hb3 _ (jA _)) | omega | (simp; done) | (simp; omega) | (dsimp only; omega)))); done))
    intro y2 hb0' k0' k1' k2' k6' k7'
    (try simp only [List.setIfInBounds_toArray, List.set_cons_zero, List.set_cons_succ] at k0' k1' k2' k6' k7')
    try clear hb3
    try clear Lk0
    try clear Fk0
    try clear Qk0
    try clear Lk1
    try clear Fk1
    try clear Qk1
    try clear Lk2
    try clear Fk2
    try clear Qk2
    try clear Lk6
    try clear Fk6
    try clear Qk6
    try clear hb0
    try clear k0
    try clear k1
    try clear k2
    try clear k6
    try clear k7
    have hb0 := hb0'; clear hb0'
    have k0 := k0'; clear k0'
    have k1 := k1'; clear k1'
    have k2 := k2'; clear k2'
    have k6 := k6'; clear k6'
    have k7 := k7'; clear k7'
    have Lk0 := k0.later
    have Fk0 := k0.laterF
    have Qk0 := k0.lt
    have Lk1 := k1.later
    have Fk1 := k1.laterF
    have Qk1 := k1.lt
    have Lk2 := k2.later
    have Fk2 := k2.laterF
    have Qk2 := k2.lt
    have Lk6 := k6.later
    have Fk6 := k6.laterF
    have Qk6 := k6.lt
    have Lk7 := k7.later
    have Fk7 := k7.laterF
    have Qk7 := k7.lt
    refine wp_any (w0 := y2) ⟨[9, 10], [7], [some 145, some 146, some 147, some 148, some 149, some 144, some 150, some 151, some 16, none, none], [[], [0], [], [], [0, 1, 2, 3], [0, 1, 2, 3, 4], [0, 1, 2, 3, 4, 5], [0, 1, 2, 3, 4, 5], [], [0, 1, 2, 3, 4, 5, 6, 8], [0, 1, 2, 3, 4, 5, 6, 7, 8, 9]], [[], [0], [], [], [1, 2, 3], [1, 4], [1, 5], [1, 5], [], [], []]⟩ (fun γ => [(γ 8).n]) (by kernel_rfl) (by kernel_rfl) (by (with_reducible (repeat' (first | assumption | apply jA | apply jB | apply jC | apply jD | apply jE | apply jF | apply hb3 | omega | (simp; done) | (simp; omega) | (dsimp only; omega))))) (fun u => by simp only [putD, Act.put, List.setIfInBounds_toArray, List.set_cons_zero, List.set_cons_succ, Nat.zero_add, Nat.reduceAdd]; rfl) ?_
    apply RGW.on (i := 0) rfl
    · (simp only [gA, gB, gC] <;> rfl)
    · intro γ u W hcur hd
      clear hd
      (try dsimp only)
      refine ⟨rfl, ?_⟩
      go_simp <;> (try go_bits) <;> with_reducible rfl
    · exact fun _ _ _ => rfl
    · rfl
    dsimp only [nA, cA]
    apply RGW.gh (⟨fun γ => vNt n.world (.slice (γ 1).A nl (γ 1).c), fun γ W => NtIn n (γ 1).A (γ 1).c W, fun _ => []⟩) (i := 1) rfl
    · (simp only [gA, gB, gC] <;> rfl)
    · intro γ u W hcur hd
      obtain ⟨⟨h0, -, -⟩, -⟩ := hd
      dsimp only at h0
      (try simp only [h0])
      refine ⟨rfl, fun K hK => ?_⟩
      go_simp
      (go_at_call 13; (with_reducible refine (hcp.out _ (bl_tr hb0 hcur)).mono ?_); rintro e w3 ⟨Ax, cx, rfl, hb3, hox⟩; dsimp only; exact hK.out ⟨0, undef, Ax, cx⟩ _ _ (by simp [up]) hb3 (by simpa [up] using hox) (by simp))
    · intro γ γ' hg
      try dsimp only
      have e1 := hg 1 (by decide)
      simp only [e1]
      try exact ⟨trivial, fun _ h => h⟩
    · intro γ W W' hbl hR
      first | exact hR.below hbl | exact own_below hR hbl | exact trivial | exact ⟨hR.1.below hbl, hR.2⟩
    · rfl
    dsimp only [nA, cA]
    apply RGW.on (i := 2) rfl
    · (simp only [gA, gB, gC] <;> rfl)
    · intro γ u W hcur hd
      clear hd
      (try dsimp only)
      refine ⟨rfl, ?_⟩
      go_simp <;> (try go_bits) <;> with_reducible rfl
    · exact fun _ _ _ => rfl
    · rfl
    dsimp only [nA, cA]
    apply RGW.on (i := 3) rfl
    · (simp only [gA, gB, gC] <;> rfl)
    · intro γ u W hcur hd
      clear hd
      (try dsimp only)
      refine ⟨rfl, ?_⟩
      go_simp <;> (try go_bits) <;> with_reducible rfl
    · exact fun _ _ _ => rfl
    · rfl
    dsimp only [nA, cA]
    apply RGW.call (i := 4) rfl
    · (simp only [gA, gB, gC] <;> rfl)
    · intro γ u W hcur hd
      obtain ⟨⟨h1, r1, -⟩, ⟨h2, -, -⟩, ⟨h3, -, -⟩, -⟩ := hd
      dsimp only at h1 h2 h3 r1
      (try simp only [h1, h2, h3])
      refine ⟨rfl, fun K hK => ?_⟩
      go_simp
      (go_at_call 34; (with_reducible refine (hcs.out _ _ _ r1).mono ?_); rintro e w3 ⟨rfl, hb3⟩; replace hb3 := bl_tt hb3)
      (try dsimp only)
      exact hK.out _ _ rfl (by (with_reducible (repeat' (first | assumption | apply jA | apply jB | apply jC | apply jD | apply jE | apply jF | apply hb3 | omega | (simp; done) | (simp; omega) | (dsimp only; omega)))))
    · exact fun _ _ _ => rfl
    · rfl
    dsimp only [nA, cA]
    apply RGW.on (i := 5) rfl
    · (simp only [gA, gB, gC] <;> rfl)
    · intro γ u W hcur hd
      obtain ⟨⟨h1, r1, -⟩, ⟨h4, -, -⟩, -⟩ := hd
      dsimp only at h1 h4 r1
      (try simp only [h1, h4])
      refine ⟨rfl, ?_⟩
      go_simp <;> (try go_bits) <;> with_reducible rfl
    · exact fun _ _ _ => rfl
    · rfl
    dsimp only [nA, cA]
    apply RGW.on (i := 6) rfl
    · (simp only [gA, gB, gC] <;> rfl)
    · intro γ u W hcur hd
      obtain ⟨⟨h1, r1, -⟩, ⟨h5, -, -⟩, -⟩ := hd
      dsimp only at h1 h5 r1
      (try simp only [h1, h5])
      refine ⟨rfl, ?_⟩
      go_simp <;> (try go_bits) <;> with_reducible rfl
    · exact fun _ _ _ => rfl
    · rfl
    dsimp only [nA, cA]
    apply RGW.onL (i := 7) rfl
    · (simp only [gA, gB, gC] <;> rfl)
    · intro γ u Wm W hcur hd hX
      obtain ⟨⟨h1, r1, -⟩, ⟨h5, -, -⟩, -⟩ := hd
      dsimp only at h1 h5 r1
      (try simp only [h1, h5])
      refine ⟨rfl, ?_⟩
      go_simp <;> (try go_bits) <;> with_reducible rfl
    · exact fun _ _ _ => rfl
    dsimp only [nA, cA]
    apply RGW.alloc (i := 8) rfl
    · (simp only [gA, gB, gC] <;> rfl)
    · intro γ u W hcur hd
      clear hd
      (try dsimp only)
      refine ⟨rfl, fun K hK => ?_⟩
      go_simp
      exact hK.out _ _ rfl rfl
    · exact fun _ _ _ => rfl
    · rfl
    · rfl
    dsimp only [nA, cA]
    refine RGW.skip (i := 9) rfl rfl ?_
    dsimp only [nA, cA]
    refine RGW.skip (i := 10) rfl rfl ?_
    dsimp only [nA, cA]
    refine RGW.fin (fun γ u y3 hy3 hd hdis => ?_)
    obtain ⟨⟨h0, -, -⟩, ⟨h1, r1, b1⟩, ⟨h2, -, -⟩, ⟨h3, -, -⟩, ⟨h4, -, -⟩, ⟨h5, -, -⟩, ⟨h6, -, -⟩, ⟨h7, -, -⟩, ⟨h8, r8, b8⟩, -⟩ := hd
    dsimp only at h0 h1 h2 h3 h4 h5 h6 h7 h8 r1 r8 b1 b8
    clear hdis
    simp only [h0, h1, h2, h3, h4, h5, h6, h7, h8]
    clear h8 h7 h6 h5 h4 h3 h2 h1 h0
    replace b8 := b8 _ (List.mem_singleton.2 rfl)
    generalize hγ8 : (γ 8).n = g8 at *
    clear hγ8
    clear u
    simp only [List.map_cons, List.map_nil]
    apply PlanW.step
    · (simp only [gA, gB, gC] <;> rfl)
    · rfl
    intro K hK
    refine wp_store_keep (X := [g8]) (w0 := y3) rfl rfl rfl (by with_reducible first | exact bx_refl _ _ | assumption) (by with_reducible first | assumption | (apply Blk.below (hb := hy3); assumption)) (by simp) (by kernel_rfl) (by rfl) (by simp [Value.oneCell']) (fun hres1 hcur => ?_)
    refine hK.out _ _ hcur (fun _ => ?_)
    clear hK K
    try simp only [Act.put, List.setIfInBounds_toArray, List.set_cons_zero, List.set_cons_succ]
    apply PlanW.step
    · (simp only [gA, gB, gC] <;> rfl)
    · rfl
    intro K hK
    go_simp
    refine hK.out _ _ (by (with_reducible (repeat' (first | assumption | apply jG | apply jH | apply jI | apply jJ | apply jK | apply hb3x | omega | (simp; done) | (simp; omega) | (dsimp only; omega))))) (fun hcur => ?_)
    clear hK K
    try simp only [Act.put, List.setIfInBounds_toArray, List.set_cons_zero, List.set_cons_succ]
    refine PlanW.done ?_
    have hb3 := bl_tt hy3
    clear r1
    generalize g8 = ggk8 at *
    apply absTB6 (w0 := w) (g0 := w.heap.size) (g1 := w.heap.size + 1) (g2 := w.heap.size + 2) (g3 := ggk6) (g4 := y1.heap.size) (g5 := ggk8)
    iterate 7 (focus ((with_reducible (repeat' (first | assumption | apply jA | apply jB | apply jC | apply jD | apply jE | apply jF | apply hb3 | apply jG | apply jH | apply jI | apply jJ | apply jK | apply hb3x | (apply jL; first | (simp; done) | rfl) | apply jM | apply jN | apply jO | apply jP | apply jQ | apply jR | apply jS | apply jT (hb := hb3 _ (jA _)) | omega | (simp; done) | (simp; omega) | (dsimp only; omega)))); done))
    intro y4 hb0' k0' k1' k2' k6' k7' k8'
    (try simp only [List.setIfInBounds_toArray, List.set_cons_zero, List.set_cons_succ] at k0' k1' k2' k6' k7' k8')
    try clear hb3
    try clear Lk0
    try clear Fk0
    try clear Qk0
    try clear Lk1
    try clear Fk1
    try clear Qk1
    try clear Lk2
    try clear Fk2
    try clear Qk2
    try clear Lk6
    try clear Fk6
    try clear Qk6
    try clear Lk7
    try clear Fk7
    try clear Qk7
    try clear hb0
    try clear k0
    try clear k1
    try clear k2
    try clear k6
    try clear k7
    try clear k8
    have hb0 := hb0'; clear hb0'
    have k0 := k0'; clear k0'
    have k1 := k1'; clear k1'
    have k2 := k2'; clear k2'
    have k6 := k6'; clear k6'
    have k7 := k7'; clear k7'
    have k8 := k8'; clear k8'
    have Lk0 := k0.later
    have Fk0 := k0.laterF
    have Qk0 := k0.lt
    have Lk1 := k1.later
    have Fk1 := k1.laterF
    have Qk1 := k1.lt
    have Lk2 := k2.later
    have Fk2 := k2.laterF
    have Qk2 := k2.lt
    have Lk6 := k6.later
    have Fk6 := k6.laterF
    have Qk6 := k6.lt
    have Lk7 := k7.later
    have Fk7 := k7.laterF
    have Qk7 := k7.lt
    have Lk8 := k8.later
    have Fk8 := k8.laterF
    have Qk8 := k8.lt
    go_upto_region 27 with fail
    apply absB6 (w0 := w) (g0 := w.heap.size) (g1 := w.heap.size + 1) (g2 := w.heap.size + 2) (g3 := ggk6) (g4 := y4.heap.size) (g5 := y4.heap.size + 1)
    iterate 7 (focus ((with_reducible (repeat' (first | assumption | apply jA | apply jB | apply jC | apply jD | apply jE | apply jF | apply hb3 | apply jG | apply jH | apply jI | apply jJ | apply jK | apply hb3x | (apply jL; first | (simp; done) | rfl) | apply jM | apply jN | apply jO | apply jP | apply jQ | apply jR | apply jS | apply jT (hb := hb3 _ (jA _)) | omega | (simp; done) | (simp; omega) | (dsimp only; omega)))); done))
    intro y5 hb0' k0' k1' k2' k6' k9' ka'
    (try simp only [List.setIfInBounds_toArray, List.set_cons_zero, List.set_cons_succ] at k0' k1' k2' k6' k9' ka')
    try clear hb3
    try clear Lk0
    try clear Fk0
    try clear Qk0
    try clear Lk1
    try clear Fk1
    try clear Qk1
    try clear Lk2
    try clear Fk2
    try clear Qk2
    try clear Lk6
    try clear Fk6
    try clear Qk6
    try clear Lk7
    try clear Fk7
    try clear Qk7
    try clear Lk8
    try clear Fk8
    try clear Qk8
    try clear hb0
    try clear k0
    try clear k1
    try clear k2
    try clear k6
    try clear k9
    try clear ka
    have hb0 := hb0'; clear hb0'
    have k0 := k0'; clear k0'
    have k1 := k1'; clear k1'
    have k2 := k2'; clear k2'
    have k6 := k6'; clear k6'
    have k9 := k9'; clear k9'
    have ka := ka'; clear ka'
    have Lk0 := k0.later
    have Fk0 := k0.laterF
    have Qk0 := k0.lt
    have Lk1 := k1.later
    have Fk1 := k1.laterF
    have Qk1 := k1.lt
    have Lk2 := k2.later
    have Fk2 := k2.laterF
    have Qk2 := k2.lt
    have Lk6 := k6.later
    have Fk6 := k6.laterF
    have Qk6 := k6.lt
    have Lk9 := k9.later
    have Fk9 := k9.laterF
    have Qk9 := k9.lt
    have Lka := ka.later
    have Fka := ka.laterF
    have Qka := ka.lt
    refine wp_any (w0 := y5) ⟨[9, 10], [7], [some 176, some 177, some 178, some 179, some 180, some 175, some 181, some 182, some 20, none, none], [[], [0], [], [], [0, 1, 2, 3], [0, 1, 2, 3, 4], [0, 1, 2, 3, 4, 5], [0, 1, 2, 3, 4, 5], [], [0, 1, 2, 3, 4, 5, 6, 8], [0, 1, 2, 3, 4, 5, 6, 7, 8, 9]], [[], [0], [], [], [1, 2, 3], [1, 4], [1, 5], [1, 5], [], [], []]⟩ (fun γ => [(γ 8).n]) (by kernel_rfl) (by kernel_rfl) (by (with_reducible (repeat' (first | assumption | apply jA | apply jB | apply jC | apply jD | apply jE | apply jF | apply hb3 | omega | (simp; done) | (simp; omega) | (dsimp only; omega))))) (fun u => by simp only [putD, Act.put, List.setIfInBounds_toArray, List.set_cons_zero, List.set_cons_succ, Nat.zero_add, Nat.reduceAdd]; rfl) ?_
    apply RGW.on (i := 0) rfl
    · (simp only [gA, gB, gC] <;> rfl)
    · intro γ u W hcur hd
      clear hd
      (try dsimp only)
      refine ⟨rfl, ?_⟩
      go_simp <;> (try go_bits) <;> with_reducible rfl
    · exact fun _ _ _ => rfl
    · rfl
    dsimp only [nA, cA]
    apply RGW.gh (⟨fun γ => vNt n.world (.slice (γ 1).A nl (γ 1).c), fun γ W => NtIn n (γ 1).A (γ 1).c W, fun _ => []⟩) (i := 1) rfl
    · (simp only [gA, gB, gC] <;> rfl)
    · intro γ u W hcur hd
      obtain ⟨⟨h0, -, -⟩, -⟩ := hd
      dsimp only at h0
      (try simp only [h0])
      refine ⟨rfl, fun K hK => ?_⟩
      go_simp
      (go_at_call 13; (with_reducible refine (hcp.out _ (bl_tr hb0 hcur)).mono ?_); rintro e w3 ⟨Ax, cx, rfl, hb3, hox⟩; dsimp only; exact hK.out ⟨0, undef, Ax, cx⟩ _ _ (by simp [up]) hb3 (by simpa [up] using hox) (by simp))
    · intro γ γ' hg
      try dsimp only
      have e1 := hg 1 (by decide)
      simp only [e1]
      try exact ⟨trivial, fun _ h => h⟩
    · intro γ W W' hbl hR
      first | exact hR.below hbl | exact own_below hR hbl | exact trivial | exact ⟨hR.1.below hbl, hR.2⟩
    · rfl
    dsimp only [nA, cA]
    apply RGW.on (i := 2) rfl
    · (simp only [gA, gB, gC] <;> rfl)
    · intro γ u W hcur hd
      clear hd
      (try dsimp only)
      refine ⟨rfl, ?_⟩
      go_simp <;> (try go_bits) <;> with_reducible rfl
    · exact fun _ _ _ => rfl
    · rfl
    dsimp only [nA, cA]
    apply RGW.on (i := 3) rfl
    · (simp only [gA, gB, gC] <;> rfl)
    · intro γ u W hcur hd
      clear hd
      (try dsimp only)
      refine ⟨rfl, ?_⟩
      go_simp <;> (try go_bits) <;> with_reducible rfl
    · exact fun _ _ _ => rfl
    · rfl
    dsimp only [nA, cA]
    apply RGW.call (i := 4) rfl
    · (simp only [gA, gB, gC] <;> rfl)
    · intro γ u W hcur hd
      obtain ⟨⟨h1, r1, -⟩, ⟨h2, -, -⟩, ⟨h3, -, -⟩, -⟩ := hd
      dsimp only at h1 h2 h3 r1
      (try simp only [h1, h2, h3])
      refine ⟨rfl, fun K hK => ?_⟩
      go_simp
      (go_at_call 34; (with_reducible refine (hch.out _ _ _ r1).mono ?_); rintro e w3 ⟨rfl, hb3⟩; replace hb3 := bl_tt hb3)
      (try dsimp only)
      exact hK.out _ _ rfl (by (with_reducible (repeat' (first | assumption | apply jA | apply jB | apply jC | apply jD | apply jE | apply jF | apply hb3 | omega | (simp; done) | (simp; omega) | (dsimp only; omega)))))
    · exact fun _ _ _ => rfl
    · rfl
    dsimp only [nA, cA]
    apply RGW.on (i := 5) rfl
    · (simp only [gA, gB, gC] <;> rfl)
    · intro γ u W hcur hd
      obtain ⟨⟨h1, r1, -⟩, ⟨h4, -, -⟩, -⟩ := hd
      dsimp only at h1 h4 r1
      (try simp only [h1, h4])
      refine ⟨rfl, ?_⟩
      go_simp <;> (try go_bits) <;> with_reducible rfl
    · exact fun _ _ _ => rfl
    · rfl
    dsimp only [nA, cA]
    apply RGW.on (i := 6) rfl
    · (simp only [gA, gB, gC] <;> rfl)
    · intro γ u W hcur hd
      obtain ⟨⟨h1, r1, -⟩, ⟨h5, -, -⟩, -⟩ := hd
      dsimp only at h1 h5 r1
      (try simp only [h1, h5])
      refine ⟨rfl, ?_⟩
      go_simp <;> (try go_bits) <;> with_reducible rfl
    · exact fun _ _ _ => rfl
    · rfl
    dsimp only [nA, cA]
    apply RGW.onL (i := 7) rfl
    · (simp only [gA, gB, gC] <;> rfl)
    · intro γ u Wm W hcur hd hX
      obtain ⟨⟨h1, r1, -⟩, ⟨h5, -, -⟩, -⟩ := hd
      dsimp only at h1 h5 r1
      (try simp only [h1, h5])
      refine ⟨rfl, ?_⟩
      go_simp <;> (try go_bits) <;> with_reducible rfl
    · exact fun _ _ _ => rfl
    dsimp only [nA, cA]
    apply RGW.alloc (i := 8) rfl
    · (simp only [gA, gB, gC] <;> rfl)
    · intro γ u W hcur hd
      clear hd
      (try dsimp only)
      refine ⟨rfl, fun K hK => ?_⟩
      go_simp
      exact hK.out _ _ rfl rfl
    · exact fun _ _ _ => rfl
    · rfl
    · rfl
    dsimp only [nA, cA]
    refine RGW.skip (i := 9) rfl rfl ?_
    dsimp only [nA, cA]
    refine RGW.skip (i := 10) rfl rfl ?_
    dsimp only [nA, cA]
    refine RGW.fin (fun γ u y6 hy6 hd hdis => ?_)
    obtain ⟨⟨h0, -, -⟩, ⟨h1, r1, b1⟩, ⟨h2, -, -⟩, ⟨h3, -, -⟩, ⟨h4, -, -⟩, ⟨h5, -, -⟩, ⟨h6, -, -⟩, ⟨h7, -, -⟩, ⟨h8, r8, b8⟩, -⟩ := hd
    dsimp only at h0 h1 h2 h3 h4 h5 h6 h7 h8 r1 r8 b1 b8
    clear hdis
    simp only [h0, h1, h2, h3, h4, h5, h6, h7, h8]
    clear h8 h7 h6 h5 h4 h3 h2 h1 h0
    replace b8 := b8 _ (List.mem_singleton.2 rfl)
    generalize hγ8 : (γ 8).n = g8 at *
    clear hγ8
    clear u
    simp only [List.map_cons, List.map_nil]
    apply PlanW.step
    · (simp only [gA, gB, gC] <;> rfl)
    · rfl
    intro K hK
    refine wp_store_keep (X := [g8]) (w0 := y6) rfl rfl rfl (by with_reducible first | exact bx_refl _ _ | assumption) (by with_reducible first | assumption | (apply Blk.below (hb := hy6); assumption)) (by simp) (by kernel_rfl) (by rfl) (by simp [Value.oneCell']) (fun hres1 hcur => ?_)
    refine hK.out _ _ hcur (fun _ => ?_)
    clear hK K
    try simp only [Act.put, List.setIfInBounds_toArray, List.set_cons_zero, List.set_cons_succ]
    apply PlanW.step
    · (simp only [gA, gB, gC] <;> rfl)
    · rfl
    intro K hK
    go_simp
    refine hK.out _ _ (by (with_reducible (repeat' (first | assumption | apply jG | apply jH | apply jI | apply jJ | apply jK | apply hb3x | omega | (simp; done) | (simp; omega) | (dsimp only; omega))))) (fun hcur => ?_)
    clear hK K
    try simp only [Act.put, List.setIfInBounds_toArray, List.set_cons_zero, List.set_cons_succ]
    refine PlanW.done ?_
    have hb3 := bl_tt hy6
    clear r1
    generalize g8 = ggkb at *
    apply absTB7 (w0 := w) (g0 := w.heap.size) (g1 := w.heap.size + 1) (g2 := w.heap.size + 2) (g3 := ggk6) (g4 := y4.heap.size) (g5 := y4.heap.size + 1) (g6 := ggkb)
    iterate 8 (focus ((with_reducible (repeat' (first | assumption | apply jA | apply jB | apply jC | apply jD | apply jE | apply jF | apply hb3 | apply jG | apply jH | apply jI | apply jJ | apply jK | apply hb3x | (apply jL; first | (simp; done) | rfl) | apply jM | apply jN | apply jO | apply jP | apply jQ | apply jR | apply jS | apply jT (hb := hb3 _ (jA _)) | omega | (simp; done) | (simp; omega) | (dsimp only; omega)))); done))
    intro y7 hb0' k0' k1' k2' k6' k9' ka' kb'
    (try simp only [List.setIfInBounds_toArray, List.set_cons_zero, List.set_cons_succ] at k0' k1' k2' k6' k9' ka' kb')
    try clear hb3
    try clear Lk0
    try clear Fk0
    try clear Qk0
    try clear Lk1
    try clear Fk1
    try clear Qk1
    try clear Lk2
    try clear Fk2
    try clear Qk2
    try clear Lk6
    try clear Fk6
    try clear Qk6
    try clear Lk9
    try clear Fk9
    try clear Qk9
    try clear Lka
    try clear Fka
    try clear Qka
    try clear hb0
    try clear k0
    try clear k1
    try clear k2
    try clear k6
    try clear k9
    try clear ka
    try clear kb
    have hb0 := hb0'; clear hb0'
    have k0 := k0'; clear k0'
    have k1 := k1'; clear k1'
    have k2 := k2'; clear k2'
    have k6 := k6'; clear k6'
    have k9 := k9'; clear k9'
    have ka := ka'; clear ka'
    have kb := kb'; clear kb'
    have Lk0 := k0.later
    have Fk0 := k0.laterF
    have Qk0 := k0.lt
    have Lk1 := k1.later
    have Fk1 := k1.laterF
    have Qk1 := k1.lt
    have Lk2 := k2.later
    have Fk2 := k2.laterF
    have Qk2 := k2.lt
    have Lk6 := k6.later
    have Fk6 := k6.laterF
    have Qk6 := k6.lt
    have Lk9 := k9.later
    have Fk9 := k9.laterF
    have Qk9 := k9.lt
    have Lka := ka.later
    have Fka := ka.laterF
    have Qka := ka.lt
    have Lkb := kb.later
    have Fkb := kb.laterF
    have Qkb := kb.lt
    have hb3 := fun (w' : World) (h : Below w'.heap.size w' y7) => h
    have hv := hb3 y7 (bl_refl y7)
    by_cases hg : ge = 0
    · by_cases he : ce = 0
      · subst he
        subst hg
        cases J1
        · go_wp2_with (first | (go_at_call 36; (with_reducible refine (hj1.out _).mono ?_); rintro e w3 ⟨rfl, hb4⟩; replace hb3 := fun w h => bl_tt hb4 w (hb3 w h); have hv := hb3 y7 (bl_refl y7)) | (go_at_call 36; (with_reducible refine (hj2.out _).mono ?_); rintro e w3 ⟨rfl, hb4⟩; replace hb3 := fun w h => bl_tt hb4 w (hb3 w h); have hv := hb3 y7 (bl_refl y7)))
          go_ret
          exact ⟨rfl, bl_tr hb0 hv⟩
        · cases J2
          · go_wp2_with (first | (go_at_call 36; (with_reducible refine (hj1.out _).mono ?_); rintro e w3 ⟨rfl, hb4⟩; replace hb3 := fun w h => bl_tt hb4 w (hb3 w h); have hv := hb3 y7 (bl_refl y7)) | (go_at_call 36; (with_reducible refine (hj2.out _).mono ?_); rintro e w3 ⟨rfl, hb4⟩; replace hb3 := fun w h => bl_tt hb4 w (hb3 w h); have hv := hb3 y7 (bl_refl y7)))
            go_ret
            exact ⟨rfl, bl_tr hb0 hv⟩
          · obtain ⟨rfl, rfl⟩ := fD.out (by simp) (by simp) (by simp) (by simp)
            go_upto_region 30 with (first | (go_at_call 36; (with_reducible refine (hj1.out _).mono ?_); rintro e w3 ⟨rfl, hb4⟩; replace hb3 := fun w h => bl_tt hb4 w (hb3 w h); have hv := hb3 y7 (bl_refl y7)) | (go_at_call 36; (with_reducible refine (hj2.out _).mono ?_); rintro e w3 ⟨rfl, hb4⟩; replace hb3 := fun w h => bl_tt hb4 w (hb3 w h); have hv := hb3 y7 (bl_refl y7)))
            apply absB7 (w0 := w) (g0 := w.heap.size) (g1 := w.heap.size + 1) (g2 := w.heap.size + 2) (g3 := ggk6) (g4 := y4.heap.size) (g5 := y4.heap.size + 1) (g6 := ggkb)
            iterate 8 (focus ((with_reducible (repeat' (first | assumption | apply jA | apply jB | apply jC | apply jD | apply jE | apply jF | apply hb3 | apply jG | apply jH | apply jI | apply jJ | apply jK | apply hb3x | (apply jL; first | (simp; done) | rfl) | apply jM | apply jN | apply jO | apply jP | apply jQ | apply jR | apply jS | apply jT (hb := hb3 _ (jA _)) | omega | (simp; done) | (simp; omega) | (dsimp only; omega)))); done))
            intro y8 hb0' k0' k1' k2' k6' k9' ka' kb'
            (try simp only [List.setIfInBounds_toArray, List.set_cons_zero, List.set_cons_succ] at k0' k1' k2' k6' k9' ka' kb')
            try clear hb3
            try clear Lk0
            try clear Fk0
            try clear Qk0
            try clear Lk1
            try clear Fk1
            try clear Qk1
            try clear Lk2
            try clear Fk2
            try clear Qk2
            try clear Lk6
            try clear Fk6
            try clear Qk6
            try clear Lk9
            try clear Fk9
            try clear Qk9
            try clear Lka
            try clear Fka
            try clear Qka
            try clear Lkb
            try clear Fkb
            try clear Qkb
            try clear hb0
            try clear k0
            try clear k1
            try clear k2
            try clear k6
            try clear k9
            try clear ka
            try clear kb
            have hb0 := hb0'; clear hb0'
            have k0 := k0'; clear k0'
            have k1 := k1'; clear k1'
            have k2 := k2'; clear k2'
            have k6 := k6'; clear k6'
            have k9 := k9'; clear k9'
            have ka := ka'; clear ka'
            have kb := kb'; clear kb'
            have Lk0 := k0.later
            have Fk0 := k0.laterF
            have Qk0 := k0.lt
            have Lk1 := k1.later
            have Fk1 := k1.laterF
            have Qk1 := k1.lt
            have Lk2 := k2.later
            have Fk2 := k2.laterF
            have Qk2 := k2.lt
            have Lk6 := k6.later
            have Fk6 := k6.laterF
            have Qk6 := k6.lt
            have Lk9 := k9.later
            have Fk9 := k9.laterF
            have Qk9 := k9.lt
            have Lka := ka.later
            have Fka := ka.laterF
            have Qka := ka.lt
            have Lkb := kb.later
            have Fkb := kb.laterF
            have Qkb := kb.lt
            refine wp_any (w0 := y8) ⟨[9, 10], [7], [some 204, some 205, some 206, some 207, some 208, some 203, some 209, some 210, some 22, none, none], [[], [0], [], [], [0, 1, 2, 3], [0, 1, 2, 3, 4], [0, 1, 2, 3, 4, 5], [0, 1, 2, 3, 4, 5], [], [0, 1, 2, 3, 4, 5, 6, 8], [0, 1, 2, 3, 4, 5, 6, 7, 8, 9]], [[], [0], [], [], [1, 2, 3], [1, 4], [1, 5], [1, 5], [], [], []]⟩ (fun γ => [(γ 8).n]) (by kernel_rfl) (by kernel_rfl) (by (with_reducible (repeat' (first | assumption | apply jA | apply jB | apply jC | apply jD | apply jE | apply jF | apply hb3 | omega | (simp; done) | (simp; omega) | (dsimp only; omega))))) (fun u => by simp only [putD, Act.put, List.setIfInBounds_toArray, List.set_cons_zero, List.set_cons_succ, Nat.zero_add, Nat.reduceAdd]; rfl) ?_
            apply RGW.on (i := 0) rfl
            · (simp only [gA, gB, gC] <;> rfl)
            · intro γ u W hcur hd
              clear hd
              (try dsimp only)
              refine ⟨rfl, ?_⟩
              go_simp <;> (try go_bits) <;> with_reducible rfl
            · exact fun _ _ _ => rfl
            · rfl
            dsimp only [nA, cA]
            apply RGW.gh (⟨fun γ => vNt n.world (.slice (γ 1).A nl (γ 1).c), fun γ W => NtIn n (γ 1).A (γ 1).c W, fun _ => []⟩) (i := 1) rfl
            · (simp only [gA, gB, gC] <;> rfl)
            · intro γ u W hcur hd
              obtain ⟨⟨h0, -, -⟩, -⟩ := hd
              dsimp only at h0
              (try simp only [h0])
              refine ⟨rfl, fun K hK => ?_⟩
              go_simp
              (go_at_call 13; (with_reducible refine (hcp.out _ (bl_tr hb0 hcur)).mono ?_); rintro e w3 ⟨Ax, cx, rfl, hb3, hox⟩; dsimp only; exact hK.out ⟨0, undef, Ax, cx⟩ _ _ (by simp [up]) hb3 (by simpa [up] using hox) (by simp))
            · intro γ γ' hg
              try dsimp only
              have e1 := hg 1 (by decide)
              simp only [e1]
              try exact ⟨trivial, fun _ h => h⟩
            · intro γ W W' hbl hR
              first | exact hR.below hbl | exact own_below hR hbl | exact trivial | exact ⟨hR.1.below hbl, hR.2⟩
            · rfl
            dsimp only [nA, cA]
            apply RGW.on (i := 2) rfl
            · (simp only [gA, gB, gC] <;> rfl)
            · intro γ u W hcur hd
              clear hd
              (try dsimp only)
              refine ⟨rfl, ?_⟩
              go_simp <;> (try go_bits) <;> with_reducible rfl
            · exact fun _ _ _ => rfl
            · rfl
            dsimp only [nA, cA]
            apply RGW.on (i := 3) rfl
            · (simp only [gA, gB, gC] <;> rfl)
            · intro γ u W hcur hd
              clear hd
              (try dsimp only)
              refine ⟨rfl, ?_⟩
              go_simp <;> (try go_bits) <;> with_reducible rfl
            · exact fun _ _ _ => rfl
            · rfl
            dsimp only [nA, cA]
            apply RGW.call (i := 4) rfl
            · (simp only [gA, gB, gC] <;> rfl)
            · intro γ u W hcur hd
              obtain ⟨⟨h1, r1, -⟩, ⟨h2, -, -⟩, ⟨h3, -, -⟩, -⟩ := hd
              dsimp only at h1 h2 h3 r1
              (try simp only [h1, h2, h3])
              refine ⟨rfl, fun K hK => ?_⟩
              go_simp
              (go_at_call 34; (with_reducible refine (hct.out _ _ _ r1).mono ?_); rintro e w3 ⟨rfl, hb3⟩; replace hb3 := bl_tt hb3)
              (try dsimp only)
              exact hK.out _ _ rfl (by (with_reducible (repeat' (first | assumption | apply jA | apply jB | apply jC | apply jD | apply jE | apply jF | apply hb3 | omega | (simp; done) | (simp; omega) | (dsimp only; omega)))))
            · exact fun _ _ _ => rfl
            · rfl
            dsimp only [nA, cA]
            apply RGW.on (i := 5) rfl
            · (simp only [gA, gB, gC] <;> rfl)
            · intro γ u W hcur hd
              obtain ⟨⟨h1, r1, -⟩, ⟨h4, -, -⟩, -⟩ := hd
              dsimp only at h1 h4 r1
              (try simp only [h1, h4])
              refine ⟨rfl, ?_⟩
              go_simp <;> (try go_bits) <;> with_reducible rfl
            · exact fun _ _ _ => rfl
            · rfl
            dsimp only [nA, cA]
            apply RGW.on (i := 6) rfl
            · (simp only [gA, gB, gC] <;> rfl)
            · intro γ u W hcur hd
              obtain ⟨⟨h1, r1, -⟩, ⟨h5, -, -⟩, -⟩ := hd
              dsimp only at h1 h5 r1
              (try simp only [h1, h5])
              refine ⟨rfl, ?_⟩
              go_simp <;> (try go_bits) <;> with_reducible rfl
            · exact fun _ _ _ => rfl
            · rfl
            dsimp only [nA, cA]
            apply RGW.onL (i := 7) rfl
            · (simp only [gA, gB, gC] <;> rfl)
            · intro γ u Wm W hcur hd hX
              obtain ⟨⟨h1, r1, -⟩, ⟨h5, -, -⟩, -⟩ := hd
              dsimp only at h1 h5 r1
              (try simp only [h1, h5])
              refine ⟨rfl, ?_⟩
              go_simp <;> (try go_bits) <;> with_reducible rfl
            · exact fun _ _ _ => rfl
            dsimp only [nA, cA]
            apply RGW.alloc (i := 8) rfl
            · (simp only [gA, gB, gC] <;> rfl)
            · intro γ u W hcur hd
              clear hd
              (try dsimp only)
              refine ⟨rfl, fun K hK => ?_⟩
              go_simp
              exact hK.out _ _ rfl rfl
            · exact fun _ _ _ => rfl
            · rfl
            · rfl
            dsimp only [nA, cA]
            refine RGW.skip (i := 9) rfl rfl ?_
            dsimp only [nA, cA]
            refine RGW.skip (i := 10) rfl rfl ?_
            dsimp only [nA, cA]
            refine RGW.fin (fun γ u y9 hy9 hd hdis => ?_)
            obtain ⟨⟨h0, -, -⟩, ⟨h1, r1, b1⟩, ⟨h2, -, -⟩, ⟨h3, -, -⟩, ⟨h4, -, -⟩, ⟨h5, -, -⟩, ⟨h6, -, -⟩, ⟨h7, -, -⟩, ⟨h8, r8, b8⟩, -⟩ := hd
            dsimp only at h0 h1 h2 h3 h4 h5 h6 h7 h8 r1 r8 b1 b8
            clear hdis
            simp only [h0, h1, h2, h3, h4, h5, h6, h7, h8]
            clear h8 h7 h6 h5 h4 h3 h2 h1 h0
            replace b8 := b8 _ (List.mem_singleton.2 rfl)
            generalize hγ8 : (γ 8).n = g8 at *
            clear hγ8
            clear u
            simp only [List.map_cons, List.map_nil]
            apply PlanW.step
            · (simp only [gA, gB, gC] <;> rfl)
            · rfl
            intro K hK
            refine wp_store_keep (X := [g8]) (w0 := y9) rfl rfl rfl (by with_reducible first | exact bx_refl _ _ | assumption) (by with_reducible first | assumption | (apply Blk.below (hb := hy9); assumption)) (by simp) (by kernel_rfl) (by rfl) (by simp [Value.oneCell']) (fun hres1 hcur => ?_)
            refine hK.out _ _ hcur (fun _ => ?_)
            clear hK K
            try simp only [Act.put, List.setIfInBounds_toArray, List.set_cons_zero, List.set_cons_succ]
            apply PlanW.step
            · (simp only [gA, gB, gC] <;> rfl)
            · rfl
            intro K hK
            go_simp
            refine hK.out _ _ (by (with_reducible (repeat' (first | assumption | apply jG | apply jH | apply jI | apply jJ | apply jK | apply hb3x | omega | (simp; done) | (simp; omega) | (dsimp only; omega))))) (fun hcur => ?_)
            clear hK K
            try simp only [Act.put, List.setIfInBounds_toArray, List.set_cons_zero, List.set_cons_succ]
            refine PlanW.done ?_
            have hb3 := bl_tt hy9
            clear r1
            generalize g8 = ggkc at *
            apply absTB8 (w0 := w) (g0 := w.heap.size) (g1 := w.heap.size + 1) (g2 := w.heap.size + 2) (g3 := ggk6) (g4 := y4.heap.size) (g5 := y4.heap.size + 1) (g6 := ggkb) (g7 := ggkc)
            iterate 9 (focus ((with_reducible (repeat' (first | assumption | apply jA | apply jB | apply jC | apply jD | apply jE | apply jF | apply hb3 | apply jG | apply jH | apply jI | apply jJ | apply jK | apply hb3x | (apply jL; first | (simp; done) | rfl) | apply jM | apply jN | apply jO | apply jP | apply jQ | apply jR | apply jS | apply jT (hb := hb3 _ (jA _)) | omega | (simp; done) | (simp; omega) | (dsimp only; omega)))); done))
            intro yb hb0' k0' k1' k2' k6' k9' ka' kb' kc'
            (try simp only [List.setIfInBounds_toArray, List.set_cons_zero, List.set_cons_succ] at k0' k1' k2' k6' k9' ka' kb' kc')
            try clear hb3
            try clear Lk0
            try clear Fk0
            try clear Qk0
            try clear Lk1
            try clear Fk1
            try clear Qk1
            try clear Lk2
            try clear Fk2
            try clear Qk2
            try clear Lk6
            try clear Fk6
            try clear Qk6
            try clear Lk9
            try clear Fk9
            try clear Qk9
            try clear Lka
            try clear Fka
            try clear Qka
            try clear Lkb
            try clear Fkb
            try clear Qkb
            try clear hb0
            try clear k0
            try clear k1
            try clear k2
            try clear k6
            try clear k9
            try clear ka
            try clear kb
            try clear kc
            have hb0 := hb0'; clear hb0'
            have k0 := k0'; clear k0'
            have k1 := k1'; clear k1'
            have k2 := k2'; clear k2'
            have k6 := k6'; clear k6'
            have k9 := k9'; clear k9'
            have ka := ka'; clear ka'
            have kb := kb'; clear kb'
            have kc := kc'; clear kc'
            have Lk0 := k0.later
            have Fk0 := k0.laterF
            have Qk0 := k0.lt
            have Lk1 := k1.later
            have Fk1 := k1.laterF
            have Qk1 := k1.lt
            have Lk2 := k2.later
            have Fk2 := k2.laterF
            have Qk2 := k2.lt
            have Lk6 := k6.later
            have Fk6 := k6.laterF
            have Qk6 := k6.lt
            have Lk9 := k9.later
            have Fk9 := k9.laterF
            have Qk9 := k9.lt
            have Lka := ka.later
            have Fka := ka.laterF
            have Qka := ka.lt
            have Lkb := kb.later
            have Fkb := kb.laterF
            have Qkb := kb.lt
            have Lkc := kc.later
            have Fkc := kc.laterF
            have Qkc := kc.lt
            go_wp2
            go_ret
            exact ⟨by simp, hb0⟩
      · subst hg
        have h' := bne_ne' he
        replace he := Lib.hid he
        go_wp2_with (first | (go_at_call 36; (with_reducible refine (hj1.out _).mono ?_); rintro e w3 ⟨rfl, hb4⟩; replace hb3 := fun w h => bl_tt hb4 w (hb3 w h); have hv := hb3 y7 (bl_refl y7)) | (go_at_call 36; (with_reducible refine (hj2.out _).mono ?_); rintro e w3 ⟨rfl, hb4⟩; replace hb3 := fun w h => bl_tt hb4 w (hb3 w h); have hv := hb3 y7 (bl_refl y7)))
        go_ret
        exact ⟨rfl, bl_tr hb0 hv⟩
    · have h' := bne_ne' hg
      replace hg := Lib.hid hg
      go_wp2_with (first | (go_at_call 36; (with_reducible refine (hj1.out _).mono ?_); rintro e w3 ⟨rfl, hb4⟩; replace hb3 := fun w h => bl_tt hb4 w (hb3 w h); have hv := hb3 y7 (bl_refl y7)) | (go_at_call 36; (with_reducible refine (hj2.out _).mono ?_); rintro e w3 ⟨rfl, hb4⟩; replace hb3 := fun w h => bl_tt hb4 w (hb3 w h); have hv := hb3 y7 (bl_refl y7)))
      go_ret
      exact ⟨rfl, bl_tr hb0 hv⟩
  · obtain ⟨rfl, rfl, rfl, rfl, rfl⟩ := fA.out (by simp)
    clear fA
    have hb3 := fun (w' : World) (h : Below w'.heap.size w' wh) => h
    have hv := hb3 wh (bl_refl wh)
    go_upto_region 15 with (first | (go_at_call 30; (with_reducible refine (hiw.out _).mono ?_); rintro e w3 ⟨rfl, hb4⟩; replace hb3 := fun w h => bl_tt hb4 w (hb3 w h); have hv := hb3 wh (bl_refl wh)) | (go_at_call 30; (with_reducible refine (hic.out _).mono ?_); rintro e w3 ⟨rfl, hb4⟩; replace hb3 := fun w h => bl_tt hb4 w (hb3 w h); have hv := hb3 wh (bl_refl wh)) | (go_at_call 17; (with_reducible refine (hbc.out _ (bl_tr hb0 hv)).mono ?_); rintro e w3 ⟨rfl, hb4⟩; replace hb3 := fun w h => bl_tt hb4 w (hb3 w h); have hv := hb3 wh (bl_refl wh)) | (go_at_call 30; (with_reducible refine (hib.out _).mono ?_); rintro e w3 ⟨rfl, hb4⟩; replace hb3 := fun w h => bl_tt hb4 w (hb3 w h); have hv := hb3 wh (bl_refl wh)))
    apply absB4 (w0 := w) (g0 := w.heap.size) (g1 := w.heap.size + 1) (g2 := w.heap.size + 2) (g3 := ggk6)
    iterate 5 (focus ((with_reducible (repeat' (first | assumption | apply jA | apply jB | apply jC | apply jD | apply jE | apply jF | apply hb3 | apply jG | apply jH | apply jI | apply jJ | apply jK | apply hb3x | (apply jL; first | (simp; done) | rfl) | apply jM | apply jN | apply jO | apply jP | apply jQ | apply jR | apply jS | apply jT (hb := hb3 _ (jA _)) | omega | (simp; done) | (simp; omega) | (dsimp only; omega)))); done))
    intro x1 hb0' k0' k1' k2' k6'
    (try simp only [List.setIfInBounds_toArray, List.set_cons_zero, List.set_cons_succ] at k0' k1' k2' k6')
    try clear hb3
    try clear Lk0
    try clear Fk0
    try clear Qk0
    try clear Lk1
    try clear Fk1
    try clear Qk1
    try clear Lk2
    try clear Fk2
    try clear Qk2
    try clear Lk6
    try clear Fk6
    try clear Qk6
    try clear Lk9
    try clear Fk9
    try clear Qk9
    try clear Lka
    try clear Fka
    try clear Qka
    try clear Lkb
    try clear Fkb
    try clear Qkb
    try clear Lkc
    try clear Fkc
    try clear Qkc
    try clear hb0
    try clear k0
    try clear k1
    try clear k2
    try clear k6
    have hb0 := hb0'; clear hb0'
    have k0 := k0'; clear k0'
    have k1 := k1'; clear k1'
    have k2 := k2'; clear k2'
    have k6 := k6'; clear k6'
    have Lk0 := k0.later
    have Fk0 := k0.laterF
    have Qk0 := k0.lt
    have Lk1 := k1.later
    have Fk1 := k1.laterF
    have Qk1 := k1.lt
    have Lk2 := k2.later
    have Fk2 := k2.laterF
    have Qk2 := k2.lt
    have Lk6 := k6.later
    have Fk6 := k6.laterF
    have Qk6 := k6.lt
    refine wp_any (w0 := x1) ⟨[10, 11], [8], [some 124, some 125, some 126, some 127, some 128, some 129, some 123, some 130, some 131, some 13, none, none], [[], [0], [], [], [3], [0, 1, 2, 3, 4], [0, 1, 2, 3, 4, 5], [0, 1, 2, 3, 4, 5, 6], [0, 1, 2, 3, 4, 5, 6], [], [0, 1, 2, 3, 4, 5, 6, 7, 9], [0, 1, 2, 3, 4, 5, 6, 7, 8, 9, 10]], [[], [0], [], [], [3], [1, 2, 4], [1, 5], [1, 6], [1, 6], [], [], []]⟩ (fun γ => [(γ 9).n]) (by kernel_rfl) (by kernel_rfl) (by (with_reducible (repeat' (first | assumption | apply jA | apply jB | apply jC | apply jD | apply jE | apply jF | apply hb3 | omega | (simp; done) | (simp; omega) | (dsimp only; omega))))) (fun u => by simp only [putD, Act.put, List.setIfInBounds_toArray, List.set_cons_zero, List.set_cons_succ, Nat.zero_add, Nat.reduceAdd]; rfl) ?_
    apply RGW.on (i := 0) rfl
    · (simp only [gA, gB, gC] <;> rfl)
    · intro γ u W hcur hd
      clear hd
      (try dsimp only)
      refine ⟨rfl, ?_⟩
      go_simp <;> (try go_bits) <;> with_reducible rfl
    · exact fun _ _ _ => rfl
    · rfl
    dsimp only [nA, cA]
    apply RGW.gh (⟨fun γ => vNt n.world (.slice (γ 1).A nl (γ 1).c), fun γ W => NtIn n (γ 1).A (γ 1).c W, fun _ => []⟩) (i := 1) rfl
    · (simp only [gA, gB, gC] <;> rfl)
    · intro γ u W hcur hd
      obtain ⟨⟨h0, -, -⟩, -⟩ := hd
      dsimp only at h0
      (try simp only [h0])
      refine ⟨rfl, fun K hK => ?_⟩
      go_simp
      (go_at_call 13; (with_reducible refine (hcp.out _ (bl_tr hb0 hcur)).mono ?_); rintro e w3 ⟨Ax, cx, rfl, hb3, hox⟩; dsimp only; exact hK.out ⟨0, undef, Ax, cx⟩ _ _ (by simp [up]) hb3 (by simpa [up] using hox) (by simp))
    · intro γ γ' hg
      try dsimp only
      have e1 := hg 1 (by decide)
      simp only [e1]
      try exact ⟨trivial, fun _ h => h⟩
    · intro γ W W' hbl hR
      first | exact hR.below hbl | exact own_below hR hbl | exact trivial | exact ⟨hR.1.below hbl, hR.2⟩
    · rfl
    dsimp only [nA, cA]
    apply RGW.on (i := 2) rfl
    · (simp only [gA, gB, gC] <;> rfl)
    · intro γ u W hcur hd
      clear hd
      (try dsimp only)
      refine ⟨rfl, ?_⟩
      go_simp <;> (try go_bits) <;> with_reducible rfl
    · exact fun _ _ _ => rfl
    · rfl
    dsimp only [nA, cA]
    apply RGW.on (i := 3) rfl
    · (simp only [gA, gB, gC] <;> rfl)
    · intro γ u W hcur hd
      clear hd
      (try dsimp only)
      refine ⟨rfl, ?_⟩
      go_simp <;> (try go_bits) <;> with_reducible rfl
    · exact fun _ _ _ => rfl
    · rfl
    dsimp only [nA, cA]
    apply RGW.on (i := 4) rfl
    · (simp only [gA, gB, gC] <;> rfl)
    · intro γ u W hcur hd
      obtain ⟨⟨h3, -, -⟩, -⟩ := hd
      dsimp only at h3
      (try simp only [h3])
      refine ⟨rfl, ?_⟩
      go_simp <;> (try go_bits) <;> with_reducible rfl
    · exact fun _ _ _ => rfl
    · rfl
    dsimp only [nA, cA]
    apply RGW.call (i := 5) rfl
    · (simp only [gA, gB, gC] <;> rfl)
    · intro γ u W hcur hd
      obtain ⟨⟨h1, r1, -⟩, ⟨h2, -, -⟩, ⟨h4, -, -⟩, -⟩ := hd
      dsimp only at h1 h2 h4 r1
      (try simp only [h1, h2, h4])
      refine ⟨rfl, fun K hK => ?_⟩
      go_simp
      (go_at_call 35; (with_reducible refine (hcb.out _ _ _ r1).mono ?_); rintro e w3 ⟨rfl, hb3⟩; replace hb3 := bl_tt hb3)
      (try dsimp only)
      exact hK.out _ _ rfl (by (with_reducible (repeat' (first | assumption | apply jA | apply jB | apply jC | apply jD | apply jE | apply jF | apply hb3 | omega | (simp; done) | (simp; omega) | (dsimp only; omega)))))
    · exact fun _ _ _ => rfl
    · rfl
    dsimp only [nA, cA]
    apply RGW.on (i := 6) rfl
    · (simp only [gA, gB, gC] <;> rfl)
    · intro γ u W hcur hd
      obtain ⟨⟨h1, r1, -⟩, ⟨h5, -, -⟩, -⟩ := hd
      dsimp only at h1 h5 r1
      (try simp only [h1, h5])
      refine ⟨rfl, ?_⟩
      go_simp <;> (try go_bits) <;> with_reducible rfl
    · exact fun _ _ _ => rfl
    · rfl
    dsimp only [nA, cA]
    apply RGW.on (i := 7) rfl
    · (simp only [gA, gB, gC] <;> rfl)
    · intro γ u W hcur hd
      obtain ⟨⟨h1, r1, -⟩, ⟨h6, -, -⟩, -⟩ := hd
      dsimp only at h1 h6 r1
      (try simp only [h1, h6])
      refine ⟨rfl, ?_⟩
      go_simp <;> (try go_bits) <;> with_reducible rfl
    · exact fun _ _ _ => rfl
    · rfl
    dsimp only [nA, cA]
    apply RGW.onL (i := 8) rfl
    · (simp only [gA, gB, gC] <;> rfl)
    · intro γ u Wm W hcur hd hX
      obtain ⟨⟨h1, r1, -⟩, ⟨h6, -, -⟩, -⟩ := hd
      dsimp only at h1 h6 r1
      (try simp only [h1, h6])
      refine ⟨rfl, ?_⟩
      go_simp <;> (try go_bits) <;> with_reducible rfl
    · exact fun _ _ _ => rfl
    dsimp only [nA, cA]
    apply RGW.alloc (i := 9) rfl
    · (simp only [gA, gB, gC] <;> rfl)
    · intro γ u W hcur hd
      clear hd
      (try dsimp only)
      refine ⟨rfl, fun K hK => ?_⟩
      go_simp
      exact hK.out _ _ rfl rfl
    · exact fun _ _ _ => rfl
    · rfl
    · rfl
    dsimp only [nA, cA]
    refine RGW.skip (i := 10) rfl rfl ?_
    dsimp only [nA, cA]
    refine RGW.skip (i := 11) rfl rfl ?_
    dsimp only [nA, cA]
    refine RGW.fin (fun γ u x2 hx2 hd hdis => ?_)
    obtain ⟨⟨h0, -, -⟩, ⟨h1, r1, b1⟩, ⟨h2, -, -⟩, ⟨h3, -, -⟩, ⟨h4, -, -⟩, ⟨h5, -, -⟩, ⟨h6, -, -⟩, ⟨h7, -, -⟩, ⟨h8, -, -⟩, ⟨h9, r9, b9⟩, -⟩ := hd
    dsimp only at h0 h1 h2 h3 h4 h5 h6 h7 h8 h9 r1 r9 b1 b9
    clear hdis
    simp only [h0, h1, h2, h3, h4, h5, h6, h7, h8, h9]
    clear h9 h8 h7 h6 h5 h4 h3 h2 h1 h0
    replace b9 := b9 _ (List.mem_singleton.2 rfl)
    generalize hγ9 : (γ 9).n = g9 at *
    clear hγ9
    clear u
    simp only [List.map_cons, List.map_nil]
    apply PlanW.step
    · (simp only [gA, gB, gC] <;> rfl)
    · rfl
    intro K hK
    refine wp_store_keep (X := [g9]) (w0 := x2) rfl rfl rfl (by with_reducible first | exact bx_refl _ _ | assumption) (by with_reducible first | assumption | (apply Blk.below (hb := hx2); assumption)) (by simp) (by kernel_rfl) (by rfl) (by simp [Value.oneCell']) (fun hres1 hcur => ?_)
    refine hK.out _ _ hcur (fun _ => ?_)
    clear hK K
    try simp only [Act.put, List.setIfInBounds_toArray, List.set_cons_zero, List.set_cons_succ]
    apply PlanW.step
    · (simp only [gA, gB, gC] <;> rfl)
    · rfl
    intro K hK
    go_simp
    refine hK.out _ _ (by (with_reducible (repeat' (first | assumption | apply jG | apply jH | apply jI | apply jJ | apply jK | apply hb3x | omega | (simp; done) | (simp; omega) | (dsimp only; omega))))) (fun hcur => ?_)
    clear hK K
    try simp only [Act.put, List.setIfInBounds_toArray, List.set_cons_zero, List.set_cons_succ]
    refine PlanW.done ?_
    have hb3 := bl_tt hx2
    clear r1
    generalize g9 = ggkd at *
    apply absTB5 (w0 := w) (g0 := w.heap.size) (g1 := w.heap.size + 1) (g2 := w.heap.size + 2) (g3 := ggk6) (g4 := ggkd)
    iterate 6 (focus ((with_reducible (repeat' (first | assumption | apply jA | apply jB | apply jC | apply jD | apply jE | apply jF | apply hb3 | apply jG | apply jH | apply jI | apply jJ | apply jK | apply hb3x | (apply jL; first | (simp; done) | rfl) | apply jM | apply jN | apply jO | apply jP | apply jQ | apply jR | apply jS | apply jT (hb := hb3 _ (jA _)) | omega | (simp; done) | (simp; omega) | (dsimp only; omega)))); done))
    intro x3 hb0' k0' k1' k2' k6' kd'
    (try simp only [List.setIfInBounds_toArray, List.set_cons_zero, List.set_cons_succ] at k0' k1' k2' k6' kd')
    try clear hb3
    try clear Lk0
    try clear Fk0
    try clear Qk0
    try clear Lk1
    try clear Fk1
    try clear Qk1
    try clear Lk2
    try clear Fk2
    try clear Qk2
    try clear Lk6
    try clear Fk6
    try clear Qk6
    try clear hb0
    try clear k0
    try clear k1
    try clear k2
    try clear k6
    try clear kd
    have hb0 := hb0'; clear hb0'
    have k0 := k0'; clear k0'
    have k1 := k1'; clear k1'
    have k2 := k2'; clear k2'
    have k6 := k6'; clear k6'
    have kd := kd'; clear kd'
    have Lk0 := k0.later
    have Fk0 := k0.laterF
    have Qk0 := k0.lt
    have Lk1 := k1.later
    have Fk1 := k1.laterF
    have Qk1 := k1.lt
    have Lk2 := k2.later
    have Fk2 := k2.laterF
    have Qk2 := k2.lt
    have Lk6 := k6.later
    have Fk6 := k6.laterF
    have Qk6 := k6.lt
    have Lkd := kd.later
    have Fkd := kd.laterF
    have Qkd := kd.lt
    have hb3 := fun (w' : World) (h : Below w'.heap.size w' x3) => h
    have hv := hb3 x3 (bl_refl x3)
    go_upto_region 18 with (go_at_call 30; (with_reducible refine (hib.out _).mono ?_); rintro e w3 ⟨rfl, hb4⟩; replace hb3 := fun w h => bl_tt hb4 w (hb3 w h); have hv := hb3 x3 (bl_refl x3))
    apply absB4 (w0 := w) (g0 := w.heap.size) (g1 := w.heap.size + 1) (g2 := w.heap.size + 2) (g3 := ggk6)
    iterate 5 (focus ((with_reducible (repeat' (first | assumption | apply jA | apply jB | apply jC | apply jD | apply jE | apply jF | apply hb3 | apply jG | apply jH | apply jI | apply jJ | apply jK | apply hb3x | (apply jL; first | (simp; done) | rfl) | apply jM | apply jN | apply jO | apply jP | apply jQ | apply jR | apply jS | apply jT (hb := hb3 _ (jA _)) | omega | (simp; done) | (simp; omega) | (dsimp only; omega)))); done))
    intro y1 hb0' k0' k1' k2' k6'
    (try simp only [List.setIfInBounds_toArray, List.set_cons_zero, List.set_cons_succ] at k0' k1' k2' k6')
    try clear hb3
    try clear Lk0
    try clear Fk0
    try clear Qk0
    try clear Lk1
    try clear Fk1
    try clear Qk1
    try clear Lk2
    try clear Fk2
    try clear Qk2
    try clear Lk6
    try clear Fk6
    try clear Qk6
    try clear Lkd
    try clear Fkd
    try clear Qkd
    try clear hb0
    try clear k0
    try clear k1
    try clear k2
    try clear k6
    have hb0 := hb0'; clear hb0'
    have k0 := k0'; clear k0'
    have k1 := k1'; clear k1'
    have k2 := k2'; clear k2'
    have k6 := k6'; clear k6'
    have Lk0 := k0.later
    have Fk0 := k0.laterF
    have Qk0 := k0.lt
    have Lk1 := k1.later
    have Fk1 := k1.laterF
    have Qk1 := k1.lt
    have Lk2 := k2.later
    have Fk2 := k2.laterF
    have Qk2 := k2.lt
    have Lk6 := k6.later
    have Fk6 := k6.laterF
    have Qk6 := k6.lt
    go_upto_region 20 with fail
    apply absB5 (w0 := w) (g0 := w.heap.size) (g1 := w.heap.size + 1) (g2 := w.heap.size + 2) (g3 := ggk6) (g4 := y1.heap.size)
    iterate 6 (focus ((with_reducible (repeat' (first | assumption | apply jA | apply jB | apply jC | apply jD | apply jE | apply jF | apply hb3 | apply jG | apply jH | apply jI | apply jJ | apply jK | apply hb3x | (apply jL; first | (simp; done) | rfl) | apply jM | apply jN | apply jO | apply jP | apply jQ | apply jR | apply jS | apply jT (hb := hb3 _ (jA _)) | omega | (simp; done) | (simp; omega) | (dsimp only; omega)))); done))
    intro y2 hb0' k0' k1' k2' k6' k7'
    (try simp only [List.setIfInBounds_toArray, List.set_cons_zero, List.set_cons_succ] at k0' k1' k2' k6' k7')
    try clear hb3
    try clear Lk0
    try clear Fk0
    try clear Qk0
    try clear Lk1
    try clear Fk1
    try clear Qk1
    try clear Lk2
    try clear Fk2
    try clear Qk2
    try clear Lk6
    try clear Fk6
    try clear Qk6
    try clear hb0
    try clear k0
    try clear k1
    try clear k2
    try clear k6
    try clear k7
    have hb0 := hb0'; clear hb0'
    have k0 := k0'; clear k0'
    have k1 := k1'; clear k1'
    have k2 := k2'; clear k2'
    have k6 := k6'; clear k6'
    have k7 := k7'; clear k7'
    have Lk0 := k0.later
    have Fk0 := k0.laterF
    have Qk0 := k0.lt
    have Lk1 := k1.later
    have Fk1 := k1.laterF
    have Qk1 := k1.lt
    have Lk2 := k2.later
    have Fk2 := k2.laterF
    have Qk2 := k2.lt
    have Lk6 := k6.later
    have Fk6 := k6.laterF
    have Qk6 := k6.lt
    have Lk7 := k7.later
    have Fk7 := k7.laterF
    have Qk7 := k7.lt
    refine wp_any (w0 := y2) ⟨[9, 10], [7], [some 145, some 146, some 147, some 148, some 149, some 144, some 150, some 151, some 16, none, none], [[], [0], [], [], [0, 1, 2, 3], [0, 1, 2, 3, 4], [0, 1, 2, 3, 4, 5], [0, 1, 2, 3, 4, 5], [], [0, 1, 2, 3, 4, 5, 6, 8], [0, 1, 2, 3, 4, 5, 6, 7, 8, 9]], [[], [0], [], [], [1, 2, 3], [1, 4], [1, 5], [1, 5], [], [], []]⟩ (fun γ => [(γ 8).n]) (by kernel_rfl) (by kernel_rfl) (by (with_reducible (repeat' (first | assumption | apply jA | apply jB | apply jC | apply jD | apply jE | apply jF | apply hb3 | omega | (simp; done) | (simp; omega) | (dsimp only; omega))))) (fun u => by simp only [putD, Act.put, List.setIfInBounds_toArray, List.set_cons_zero, List.set_cons_succ, Nat.zero_add, Nat.reduceAdd]; rfl) ?_
    apply RGW.on (i := 0) rfl
    · (simp only [gA, gB, gC] <;> rfl)
    · intro γ u W hcur hd
      clear hd
      (try dsimp only)
      refine ⟨rfl, ?_⟩
      go_simp <;> (try go_bits) <;> with_reducible rfl
    · exact fun _ _ _ => rfl
    · rfl
    dsimp only [nA, cA]
    apply RGW.gh (⟨fun γ => vNt n.world (.slice (γ 1).A nl (γ 1).c), fun γ W => NtIn n (γ 1).A (γ 1).c W, fun _ => []⟩) (i := 1) rfl
    · (simp only [gA, gB, gC] <;> rfl)
    · intro γ u W hcur hd
      obtain ⟨⟨h0, -, -⟩, -⟩ := hd
      dsimp only at h0
      (try simp only [h0])
      refine ⟨rfl, fun K hK => ?_⟩
      go_simp
      (go_at_call 13; (with_reducible refine (hcp.out _ (bl_tr hb0 hcur)).mono ?_); rintro e w3 ⟨Ax, cx, rfl, hb3, hox⟩; dsimp only; exact hK.out ⟨0, undef, Ax, cx⟩ _ _ (by simp [up]) hb3 (by simpa [up] using hox) (by simp))
    · intro γ γ' hg
      try dsimp only
      have e1 := hg 1 (by decide)
      simp only [e1]
      try exact ⟨trivial, fun _ h => h⟩
    · intro γ W W' hbl hR
      first | exact hR.below hbl | exact own_below hR hbl | exact trivial | exact ⟨hR.1.below hbl, hR.2⟩
    · rfl
    dsimp only [nA, cA]
    apply RGW.on (i := 2) rfl
    · (simp only [gA, gB, gC] <;> rfl)
    · intro γ u W hcur hd
      clear hd
      (try dsimp only)
      refine ⟨rfl, ?_⟩
      go_simp <;> (try go_bits) <;> with_reducible rfl
    · exact fun _ _ _ => rfl
    · rfl
    dsimp only [nA, cA]
    apply RGW.on (i := 3) rfl
    · (simp only [gA, gB, gC] <;> rfl)
    · intro γ u W hcur hd
      clear hd
      (try dsimp only)
      refine ⟨rfl, ?_⟩
      go_simp <;> (try go_bits) <;> with_reducible rfl
    · exact fun _ _ _ => rfl
    · rfl
    dsimp only [nA, cA]
    apply RGW.call (i := 4) rfl
    · (simp only [gA, gB, gC] <;> rfl)
    · intro γ u W hcur hd
      obtain ⟨⟨h1, r1, -⟩, ⟨h2, -, -⟩, ⟨h3, -, -⟩, -⟩ := hd
      dsimp only at h1 h2 h3 r1
      (try simp only [h1, h2, h3])
      refine ⟨rfl, fun K hK => ?_⟩
      go_simp
      (go_at_call 34; (with_reducible refine (hcs.out _ _ _ r1).mono ?_); rintro e w3 ⟨rfl, hb3⟩; replace hb3 := bl_tt hb3)
      (try dsimp only)
      exact hK.out _ _ rfl (by (with_reducible (repeat' (first | assumption | apply jA | apply jB | apply jC | apply jD | apply jE | apply jF | apply hb3 | omega | (simp; done) | (simp; omega) | (dsimp only; omega)))))
    · exact fun _ _ _ => rfl
    · rfl
    dsimp only [nA, cA]
    apply RGW.on (i := 5) rfl
    · (simp only [gA, gB, gC] <;> rfl)
    · intro γ u W hcur hd
      obtain ⟨⟨h1, r1, -⟩, ⟨h4, -, -⟩, -⟩ := hd
      dsimp only at h1 h4 r1
      (try simp only [h1, h4])
      refine ⟨rfl, ?_⟩
      go_simp <;> (try go_bits) <;> with_reducible rfl
    · exact fun _ _ _ => rfl
    · rfl
    dsimp only [nA, cA]
    apply RGW.on (i := 6) rfl
    · (simp only [gA, gB, gC] <;> rfl)
    · intro γ u W hcur hd
      obtain ⟨⟨h1, r1, -⟩, ⟨h5, -, -⟩, -⟩ := hd
      dsimp only at h1 h5 r1
      (try simp only [h1, h5])
      refine ⟨rfl, ?_⟩
      go_simp <;> (try go_bits) <;> with_reducible rfl
    · exact fun _ _ _ => rfl
    · rfl
    dsimp only [nA, cA]
    apply RGW.onL (i := 7) rfl
    · (simp only [gA, gB, gC] <;> rfl)
    · intro γ u Wm W hcur hd hX
      obtain ⟨⟨h1, r1, -⟩, ⟨h5, -, -⟩, -⟩ := hd
      dsimp only at h1 h5 r1
      (try simp only [h1, h5])
      refine ⟨rfl, ?_⟩
      go_simp <;> (try go_bits) <;> with_reducible rfl
    · exact fun _ _ _ => rfl
    dsimp only [nA, cA]
    apply RGW.alloc (i := 8) rfl
    · (simp only [gA, gB, gC] <;> rfl)
    · intro γ u W hcur hd
      clear hd
      (try dsimp only)
      refine ⟨rfl, fun K hK => ?_⟩
      go_simp
      exact hK.out _ _ rfl rfl
    · exact fun _ _ _ => rfl
    · rfl
    · rfl
    dsimp only [nA, cA]
    refine RGW.skip (i := 9) rfl rfl ?_
    dsimp only [nA, cA]
    refine RGW.skip (i := 10) rfl rfl ?_
    dsimp only [nA, cA]
    refine RGW.fin (fun γ u y3 hy3 hd hdis => ?_)
    obtain ⟨⟨h0, -, -⟩, ⟨h1, r1, b1⟩, ⟨h2, -, -⟩, ⟨h3, -, -⟩, ⟨h4, -, -⟩, ⟨h5, -, -⟩, ⟨h6, -, -⟩, ⟨h7, -, -⟩, ⟨h8, r8, b8⟩, -⟩ := hd
    dsimp only at h0 h1 h2 h3 h4 h5 h6 h7 h8 r1 r8 b1 b8
    clear hdis
    simp only [h0, h1, h2, h3, h4, h5, h6, h7, h8]
    clear h8 h7 h6 h5 h4 h3 h2 h1 h0
    replace b8 := b8 _ (List.mem_singleton.2 rfl)
    generalize hγ8 : (γ 8).n = g8 at *
    clear hγ8
    clear u
    simp only [List.map_cons, List.map_nil]
    apply PlanW.step
    · (simp only [gA, gB, gC] <;> rfl)
    · rfl
    intro K hK
    refine wp_store_keep (X := [g8]) (w0 := y3) rfl rfl rfl (by with_reducible first | exact bx_refl _ _ | assumption) (by with_reducible first | assumption | (apply Blk.below (hb := hy3); assumption)) (by simp) (by kernel_rfl) (by rfl) (by simp [Value.oneCell']) (fun hres1 hcur => ?_)
    refine hK.out _ _ hcur (fun _ => ?_)
    clear hK K
    try simp only [Act.put, List.setIfInBounds_toArray, List.set_cons_zero, List.set_cons_succ]
    apply PlanW.step
    · (simp only [gA, gB, gC] <;> rfl)
    · rfl
    intro K hK
    go_simp
    refine hK.out _ _ (by (with_reducible (repeat' (first | assumption | apply jG | apply jH | apply jI | apply jJ | apply jK | apply hb3x | omega | (simp; done) | (simp; omega) | (dsimp only; omega))))) (fun hcur => ?_)
    clear hK K
    try simp only [Act.put, List.setIfInBounds_toArray, List.set_cons_zero, List.set_cons_succ]
    refine PlanW.done ?_
    have hb3 := bl_tt hy3
    clear r1
    generalize g8 = ggk8 at *
    apply absTB6 (w0 := w) (g0 := w.heap.size) (g1 := w.heap.size + 1) (g2 := w.heap.size + 2) (g3 := ggk6) (g4 := y1.heap.size) (g5 := ggk8)
    iterate 7 (focus ((with_reducible (repeat' (first | assumption | apply jA | apply jB | apply jC | apply jD | apply jE | apply jF | apply hb3 | apply jG | apply jH | apply jI | apply jJ | apply jK | apply hb3x | (apply jL; first | (simp; done) | rfl) | apply jM | apply jN | apply jO | apply jP | apply jQ | apply jR | apply jS | apply jT (hb := hb3 _ (jA _)) | omega | (simp; done) | (simp; omega) | (dsimp only; omega)))); done))
    intro y4 hb0' k0' k1' k2' k6' k7' k8'
    (try simp only [List.setIfInBounds_toArray, List.set_cons_zero, List.set_cons_succ] at k0' k1' k2' k6' k7' k8')
    try clear hb3
    try clear Lk0
    try clear Fk0
    try clear Qk0
    try clear Lk1
    try clear Fk1
    try clear Qk1
    try clear Lk2
    try clear Fk2
    try clear Qk2
    try clear Lk6
    try clear Fk6
    try clear Qk6
    try clear Lk7
    try clear Fk7
    try clear Qk7
    try clear hb0
    try clear k0
    try clear k1
    try clear k2
    try clear k6
    try clear k7
    try clear k8
    have hb0 := hb0'; clear hb0'
    have k0 := k0'; clear k0'
    have k1 := k1'; clear k1'
    have k2 := k2'; clear k2'
    have k6 := k6'; clear k6'
    have k7 := k7'; clear k7'
    have k8 := k8'; clear k8'
    have Lk0 := k0.later
    have Fk0 := k0.laterF
    have Qk0 := k0.lt
    have Lk1 := k1.later
    have Fk1 := k1.laterF
    have Qk1 := k1.lt
    have Lk2 := k2.later
    have Fk2 := k2.laterF
    have Qk2 := k2.lt
    have Lk6 := k6.later
    have Fk6 := k6.laterF
    have Qk6 := k6.lt
    have Lk7 := k7.later
    have Fk7 := k7.laterF
    have Qk7 := k7.lt
    have Lk8 := k8.later
    have Fk8 := k8.laterF
    have Qk8 := k8.lt
    go_upto_region 27 with fail
    apply absB6 (w0 := w) (g0 := w.heap.size) (g1 := w.heap.size + 1) (g2 := w.heap.size + 2) (g3 := ggk6) (g4 := y4.heap.size) (g5 := y4.heap.size + 1)
    iterate 7 (focus ((with_reducible (repeat' (first | assumption | apply jA | apply jB | apply jC | apply jD | apply jE | apply jF | apply hb3 | apply jG | apply jH | apply jI | apply jJ | apply jK | apply hb3x | (apply jL; first | (simp; done) | rfl) | apply jM | apply jN | apply jO | apply jP | apply jQ | apply jR | apply jS | apply jT (hb := hb3 _ (jA _)) | omega | (simp; done) | (simp; omega) | (dsimp only; omega)))); done))
    intro y5 hb0' k0' k1' k2' k6' k9' ka'
    (try simp only [List.setIfInBounds_toArray, List.set_cons_zero, List.set_cons_succ] at k0' k1' k2' k6' k9' ka')
    try clear hb3
    try clear Lk0
    try clear Fk0
    try clear Qk0
    try clear Lk1
    try clear Fk1
    try clear Qk1
    try clear Lk2
    try clear Fk2
    try clear Qk2
    try clear Lk6
    try clear Fk6
    try clear Qk6
    try clear Lk7
    try clear Fk7
    try clear Qk7
    try clear Lk8
    try clear Fk8
    try clear Qk8
    try clear hb0
    try clear k0
    try clear k1
    try clear k2
    try clear k6
    try clear k9
    try clear ka
    have hb0 := hb0'; clear hb0'
    have k0 := k0'; clear k0'
    have k1 := k1'; clear k1'
    have k2 := k2'; clear k2'
    have k6 := k6'; clear k6'
    have k9 := k9'; clear k9'
    have ka := ka'; clear ka'
    have Lk0 := k0.later
    have Fk0 := k0.laterF
    have Qk0 := k0.lt
    have Lk1 := k1.later
    have Fk1 := k1.laterF
    have Qk1 := k1.lt
    have Lk2 := k2.later
    have Fk2 := k2.laterF
    have Qk2 := k2.lt
    have Lk6 := k6.later
    have Fk6 := k6.laterF
    have Qk6 := k6.lt
    have Lk9 := k9.later
    have Fk9 := k9.laterF
    have Qk9 := k9.lt
    have Lka := ka.later
    have Fka := ka.laterF
    have Qka := ka.lt
    refine wp_any (w0 := y5) ⟨[9, 10], [7], [some 176, some 177, some 178, some 179, some 180, some 175, some 181, some 182, some 20, none, none], [[], [0], [], [], [0, 1, 2, 3], [0, 1, 2, 3, 4], [0, 1, 2, 3, 4, 5], [0, 1, 2, 3, 4, 5], [], [0, 1, 2, 3, 4, 5, 6, 8], [0, 1, 2, 3, 4, 5, 6, 7, 8, 9]], [[], [0], [], [], [1, 2, 3], [1, 4], [1, 5], [1, 5], [], [], []]⟩ (fun γ => [(γ 8).n]) (by kernel_rfl) (by kernel_rfl) (by (with_reducible (repeat' (first | assumption | apply jA | apply jB | apply jC | apply jD | apply jE | apply jF | apply hb3 | omega | (simp; done) | (simp; omega) | (dsimp only; omega))))) (fun u => by simp only [putD, Act.put, List.setIfInBounds_toArray, List.set_cons_zero, List.set_cons_succ, Nat.zero_add, Nat.reduceAdd]; rfl) ?_
    apply RGW.on (i := 0) rfl
    · (simp only [gA, gB, gC] <;> rfl)
    · intro γ u W hcur hd
      clear hd
      (try dsimp only)
      refine ⟨rfl, ?_⟩
      go_simp <;> (try go_bits) <;> with_reducible rfl
    · exact fun _ _ _ => rfl
    · rfl
    dsimp only [nA, cA]
    apply RGW.gh (⟨fun γ => vNt n.world (.slice (γ 1).A nl (γ 1).c), fun γ W => NtIn n (γ 1).A (γ 1).c W, fun _ => []⟩) (i := 1) rfl
    · (simp only [gA, gB, gC] <;> rfl)
    · intro γ u W hcur hd
      obtain ⟨⟨h0, -, -⟩, -⟩ := hd
      dsimp only at h0
      (try simp only [h0])
      refine ⟨rfl, fun K hK => ?_⟩
      go_simp
      (go_at_call 13; (with_reducible refine (hcp.out _ (bl_tr hb0 hcur)).mono ?_); rintro e w3 ⟨Ax, cx, rfl, hb3, hox⟩; dsimp only; exact hK.out ⟨0, undef, Ax, cx⟩ _ _ (by simp [up]) hb3 (by simpa [up] using hox) (by simp))
    · intro γ γ' hg
      try dsimp only
      have e1 := hg 1 (by decide)
      simp only [e1]
      try exact ⟨trivial, fun _ h => h⟩
    · intro γ W W' hbl hR
      first | exact hR.below hbl | exact own_below hR hbl | exact trivial | exact ⟨hR.1.below hbl, hR.2⟩
    · rfl
    dsimp only [nA, cA]
    apply RGW.on (i := 2) rfl
    · (simp only [gA, gB, gC] <;> rfl)
    · intro γ u W hcur hd
      clear hd
      (try dsimp only)
      refine ⟨rfl, ?_⟩
      go_simp <;> (try go_bits) <;> with_reducible rfl
    · exact fun _ _ _ => rfl
    · rfl
    dsimp only [nA, cA]
    apply RGW.on (i := 3) rfl
    · (simp only [gA, gB, gC] <;> rfl)
    · intro γ u W hcur hd
      clear hd
      (try dsimp only)
      refine ⟨rfl, ?_⟩
      go_simp <;> (try go_bits) <;> with_reducible rfl
    · exact fun _ _ _ => rfl
    · rfl
    dsimp only [nA, cA]
    apply RGW.call (i := 4) rfl
    · (simp only [gA, gB, gC] <;> rfl)
    · intro γ u W hcur hd
      obtain ⟨⟨h1, r1, -⟩, ⟨h2, -, -⟩, ⟨h3, -, -⟩, -⟩ := hd
      dsimp only at h1 h2 h3 r1
      (try simp only [h1, h2, h3])
      refine ⟨rfl, fun K hK => ?_⟩
      go_simp
      (go_at_call 34; (with_reducible refine (hch.out _ _ _ r1).mono ?_); rintro e w3 ⟨rfl, hb3⟩; replace hb3 := bl_tt hb3)
      (try dsimp only)
      exact hK.out _ _ rfl (by (with_reducible (repeat' (first | assumption | apply jA | apply jB | apply jC | apply jD | apply jE | apply jF | apply hb3 | omega | (simp; done) | (simp; omega) | (dsimp only; omega)))))
    · exact fun _ _ _ => rfl
    · rfl
    dsimp only [nA, cA]
    apply RGW.on (i := 5) rfl
    · (simp only [gA, gB, gC] <;> rfl)
    · intro γ u W hcur hd
      obtain ⟨⟨h1, r1, -⟩, ⟨h4, -, -⟩, -⟩ := hd
      dsimp only at h1 h4 r1
      (try simp only [h1, h4])
      refine ⟨rfl, ?_⟩
      go_simp <;> (try go_bits) <;> with_reducible rfl
    · exact fun _ _ _ => rfl
    · rfl
    dsimp only [nA, cA]
    apply RGW.on (i := 6) rfl
    · (simp only [gA, gB, gC] <;> rfl)
    · intro γ u W hcur hd
      obtain ⟨⟨h1, r1, -⟩, ⟨h5, -, -⟩, -⟩ := hd
      dsimp only at h1 h5 r1
      (try simp only [h1, h5])
      refine ⟨rfl, ?_⟩
      go_simp <;> (try go_bits) <;> with_reducible rfl
    · exact fun _ _ _ => rfl
    · rfl
    dsimp only [nA, cA]
    apply RGW.onL (i := 7) rfl
    · (simp only [gA, gB, gC] <;> rfl)
    · intro γ u Wm W hcur hd hX
      obtain ⟨⟨h1, r1, -⟩, ⟨h5, -, -⟩, -⟩ := hd
      dsimp only at h1 h5 r1
      (try simp only [h1, h5])
      refine ⟨rfl, ?_⟩
      go_simp <;> (try go_bits) <;> with_reducible rfl
    · exact fun _ _ _ => rfl
    dsimp only [nA, cA]
    apply RGW.alloc (i := 8) rfl
    · (simp only [gA, gB, gC] <;> rfl)
    · intro γ u W hcur hd
      clear hd
      (try dsimp only)
      refine ⟨rfl, fun K hK => ?_⟩
      go_simp
      exact hK.out _ _ rfl rfl
    · exact fun _ _ _ => rfl
    · rfl
    · rfl
    dsimp only [nA, cA]
    refine RGW.skip (i := 9) rfl rfl ?_
    dsimp only [nA, cA]
    refine RGW.skip (i := 10) rfl rfl ?_
    dsimp only [nA, cA]
    refine RGW.fin (fun γ u y6 hy6 hd hdis => ?_)
    obtain ⟨⟨h0, -, -⟩, ⟨h1, r1, b1⟩, ⟨h2, -, -⟩, ⟨h3, -, -⟩, ⟨h4, -, -⟩, ⟨h5, -, -⟩, ⟨h6, -, -⟩, ⟨h7, -, -⟩, ⟨h8, r8, b8⟩, -⟩ := hd
    dsimp only at h0 h1 h2 h3 h4 h5 h6 h7 h8 r1 r8 b1 b8
    clear hdis
    simp only [h0, h1, h2, h3, h4, h5, h6, h7, h8]
    clear h8 h7 h6 h5 h4 h3 h2 h1 h0
    replace b8 := b8 _ (List.mem_singleton.2 rfl)
    generalize hγ8 : (γ 8).n = g8 at *
    clear hγ8
    clear u
    simp only [List.map_cons, List.map_nil]
    apply PlanW.step
    · (simp only [gA, gB, gC] <;> rfl)
    · rfl
    intro K hK
    refine wp_store_keep (X := [g8]) (w0 := y6) rfl rfl rfl (by with_reducible first | exact bx_refl _ _ | assumption) (by with_reducible first | assumption | (apply Blk.below (hb := hy6); assumption)) (by simp) (by kernel_rfl) (by rfl) (by simp [Value.oneCell']) (fun hres1 hcur => ?_)
    refine hK.out _ _ hcur (fun _ => ?_)
    clear hK K
    try simp only [Act.put, List.setIfInBounds_toArray, List.set_cons_zero, List.set_cons_succ]
    apply PlanW.step
    · (simp only [gA, gB, gC] <;> rfl)
    · rfl
    intro K hK
    go_simp
    refine hK.out _ _ (by (with_reducible (repeat' (first | assumption | apply jG | apply jH | apply jI | apply jJ | apply jK | apply hb3x | omega | (simp; done) | (simp; omega) | (dsimp only; omega))))) (fun hcur => ?_)
    clear hK K
    try simp only [Act.put, List.setIfInBounds_toArray, List.set_cons_zero, List.set_cons_succ]
    refine PlanW.done ?_
    have hb3 := bl_tt hy6
    clear r1
    generalize g8 = ggkb at *
    apply absTB7 (w0 := w) (g0 := w.heap.size) (g1 := w.heap.size + 1) (g2 := w.heap.size + 2) (g3 := ggk6) (g4 := y4.heap.size) (g5 := y4.heap.size + 1) (g6 := ggkb)
    iterate 8 (focus ((with_reducible (repeat' (first | assumption | apply jA | apply jB | apply jC | apply jD | apply jE | apply jF | apply hb3 | apply jG | apply jH | apply jI | apply jJ | apply jK | apply hb3x | (apply jL; first | (simp; done) | rfl) | apply jM | apply jN | apply jO | apply jP | apply jQ | apply jR | apply jS | apply jT (hb := hb3 _ (jA _)) | omega | (simp; done) | (simp; omega) | (dsimp only; omega)))); done))
    intro y7 hb0' k0' k1' k2' k6' k9' ka' kb'
    (try simp only [List.setIfInBounds_toArray, List.set_cons_zero, List.set_cons_succ] at k0' k1' k2' k6' k9' ka' kb')
    try clear hb3
    try clear Lk0
    try clear Fk0
    try clear Qk0
    try clear Lk1
    try clear Fk1
    try clear Qk1
    try clear Lk2
    try clear Fk2
    try clear Qk2
    try clear Lk6
    try clear Fk6
    try clear Qk6
    try clear Lk9
    try clear Fk9
    try clear Qk9
    try clear Lka
    try clear Fka
    try clear Qka
    try clear hb0
    try clear k0
    try clear k1
    try clear k2
    try clear k6
    try clear k9
    try clear ka
    try clear kb
    have hb0 := hb0'; clear hb0'
    have k0 := k0'; clear k0'
    have k1 := k1'; clear k1'
    have k2 := k2'; clear k2'
    have k6 := k6'; clear k6'
    have k9 := k9'; clear k9'
    have ka := ka'; clear ka'
    have kb := kb'; clear kb'
    have Lk0 := k0.later
    have Fk0 := k0.laterF
    have Qk0 := k0.lt
    have Lk1 := k1.later
    have Fk1 := k1.laterF
    have Qk1 := k1.lt
    have Lk2 := k2.later
    have Fk2 := k2.laterF
    have Qk2 := k2.lt
    have Lk6 := k6.later
    have Fk6 := k6.laterF
    have Qk6 := k6.lt
    have Lk9 := k9.later
    have Fk9 := k9.laterF
    have Qk9 := k9.lt
    have Lka := ka.later
    have Fka := ka.laterF
    have Qka := ka.lt
    have Lkb := kb.later
    have Fkb := kb.laterF
    have Qkb := kb.lt
    have hb3 := fun (w' : World) (h : Below w'.heap.size w' y7) => h
    have hv := hb3 y7 (bl_refl y7)
    by_cases hg : ge = 0
    · subst hg
      cases J1
      · go_wp2_with (first | (go_at_call 36; (with_reducible refine (hj1.out _).mono ?_); rintro e w3 ⟨rfl, hb4⟩; replace hb3 := fun w h => bl_tt hb4 w (hb3 w h); have hv := hb3 y7 (bl_refl y7)) | (go_at_call 36; (with_reducible refine (hj2.out _).mono ?_); rintro e w3 ⟨rfl, hb4⟩; replace hb3 := fun w h => bl_tt hb4 w (hb3 w h); have hv := hb3 y7 (bl_refl y7)))
        go_ret
        exact ⟨rfl, bl_tr hb0 hv⟩
      · cases J2
        · go_wp2_with (first | (go_at_call 36; (with_reducible refine (hj1.out _).mono ?_); rintro e w3 ⟨rfl, hb4⟩; replace hb3 := fun w h => bl_tt hb4 w (hb3 w h); have hv := hb3 y7 (bl_refl y7)) | (go_at_call 36; (with_reducible refine (hj2.out _).mono ?_); rintro e w3 ⟨rfl, hb4⟩; replace hb3 := fun w h => bl_tt hb4 w (hb3 w h); have hv := hb3 y7 (bl_refl y7)))
          go_ret
          exact ⟨rfl, bl_tr hb0 hv⟩
        · obtain ⟨rfl, rfl⟩ := fD.out (by simp) (by simp) (by simp) (by simp)
          go_upto_region 30 with (first | (go_at_call 36; (with_reducible refine (hj1.out _).mono ?_); rintro e w3 ⟨rfl, hb4⟩; replace hb3 := fun w h => bl_tt hb4 w (hb3 w h); have hv := hb3 y7 (bl_refl y7)) | (go_at_call 36; (with_reducible refine (hj2.out _).mono ?_); rintro e w3 ⟨rfl, hb4⟩; replace hb3 := fun w h => bl_tt hb4 w (hb3 w h); have hv := hb3 y7 (bl_refl y7)))
          apply absB7 (w0 := w) (g0 := w.heap.size) (g1 := w.heap.size + 1) (g2 := w.heap.size + 2) (g3 := ggk6) (g4 := y4.heap.size) (g5 := y4.heap.size + 1) (g6 := ggkb)
          iterate 8 (focus ((with_reducible (repeat' (first | assumption | apply jA | apply jB | apply jC | apply jD | apply jE | apply jF | apply hb3 | apply jG | apply jH | apply jI | apply jJ | apply jK | apply hb3x | (apply jL; first | (simp; done) | rfl) | apply jM | apply jN | apply jO | apply jP | apply jQ | apply jR | apply jS | apply jT (hb := hb3 _ (jA _)) | omega | (simp; done) | (simp; omega) | (dsimp only; omega)))); done))
          intro y8 hb0' k0' k1' k2' k6' k9' ka' kb'
          (try simp only [List.setIfInBounds_toArray, List.set_cons_zero, List.set_cons_succ] at k0' k1' k2' k6' k9' ka' kb')
          try clear hb3
          try clear Lk0
          try clear Fk0
          try clear Qk0
          try clear Lk1
          try clear Fk1
          try clear Qk1
          try clear Lk2
          try clear Fk2
          try clear Qk2
          try clear Lk6
          try clear Fk6
          try clear Qk6
          try clear Lk9
          try clear Fk9
          try clear Qk9
          try clear Lka
          try clear Fka
          try clear Qka
          try clear Lkb
          try clear Fkb
          try clear Qkb
          try clear hb0
          try clear k0
          try clear k1
          try clear k2
          try clear k6
          try clear k9
          try clear ka
          try clear kb
          have hb0 := hb0'; clear hb0'
          have k0 := k0'; clear k0'
          have k1 := k1'; clear k1'
          have k2 := k2'; clear k2'
          have k6 := k6'; clear k6'
          have k9 := k9'; clear k9'
          have ka := ka'; clear ka'
          have kb := kb'; clear kb'
          have Lk0 := k0.later
          have Fk0 := k0.laterF
          have Qk0 := k0.lt
          have Lk1 := k1.later
          have Fk1 := k1.laterF
          have Qk1 := k1.lt
          have Lk2 := k2.later
          have Fk2 := k2.laterF
          have Qk2 := k2.lt
          have Lk6 := k6.later
          have Fk6 := k6.laterF
          have Qk6 := k6.lt
          have Lk9 := k9.later
          have Fk9 := k9.laterF
          have Qk9 := k9.lt
          have Lka := ka.later
          have Fka := ka.laterF
          have Qka := ka.lt
          have Lkb := kb.later
          have Fkb := kb.laterF
          have Qkb := kb.lt
          refine wp_any (w0 := y8) ⟨[9, 10], [7], [some 204, some 205, some 206, some 207, some 208, some 203, some 209, some 210, some 22, none, none], [[], [0], [], [], [0, 1, 2, 3], [0, 1, 2, 3, 4], [0, 1, 2, 3, 4, 5], [0, 1, 2, 3, 4, 5], [], [0, 1, 2, 3, 4, 5, 6, 8], [0, 1, 2, 3, 4, 5, 6, 7, 8, 9]], [[], [0], [], [], [1, 2, 3], [1, 4], [1, 5], [1, 5], [], [], []]⟩ (fun γ => [(γ 8).n]) (by kernel_rfl) (by kernel_rfl) (by (with_reducible (repeat' (first | assumption | apply jA | apply jB | apply jC | apply jD | apply jE | apply jF | apply hb3 | omega | (simp; done) | (simp; omega) | (dsimp only; omega))))) (fun u => by simp only [putD, Act.put, List.setIfInBounds_toArray, List.set_cons_zero, List.set_cons_succ, Nat.zero_add, Nat.reduceAdd]; rfl) ?_
          apply RGW.on (i := 0) rfl
          · (simp only [gA, gB, gC] <;> rfl)
          · intro γ u W hcur hd
            clear hd
            (try dsimp only)
            refine ⟨rfl, ?_⟩
            go_simp <;> (try go_bits) <;> with_reducible rfl
          · exact fun _ _ _ => rfl
          · rfl
          dsimp only [nA, cA]
          apply RGW.gh (⟨fun γ => vNt n.world (.slice (γ 1).A nl (γ 1).c), fun γ W => NtIn n (γ 1).A (γ 1).c W, fun _ => []⟩) (i := 1) rfl
          · (simp only [gA, gB, gC] <;> rfl)
          · intro γ u W hcur hd
            obtain ⟨⟨h0, -, -⟩, -⟩ := hd
            dsimp only at h0
            (try simp only [h0])
            refine ⟨rfl, fun K hK => ?_⟩
            go_simp
            (go_at_call 13; (with_reducible refine (hcp.out _ (bl_tr hb0 hcur)).mono ?_); rintro e w3 ⟨Ax, cx, rfl, hb3, hox⟩; dsimp only; exact hK.out ⟨0, undef, Ax, cx⟩ _ _ (by simp [up]) hb3 (by simpa [up] using hox) (by simp))
          · intro γ γ' hg
            try dsimp only
            have e1 := hg 1 (by decide)
            simp only [e1]
            try exact ⟨trivial, fun _ h => h⟩
          · intro γ W W' hbl hR
            first | exact hR.below hbl | exact own_below hR hbl | exact trivial | exact ⟨hR.1.below hbl, hR.2⟩
          · rfl
          dsimp only [nA, cA]
          apply RGW.on (i := 2) rfl
          · (simp only [gA, gB, gC] <;> rfl)
          · intro γ u W hcur hd
            clear hd
            (try dsimp only)
            refine ⟨rfl, ?_⟩
            go_simp <;> (try go_bits) <;> with_reducible rfl
          · exact fun _ _ _ => rfl
          · rfl
          dsimp only [nA, cA]
          apply RGW.on (i := 3) rfl
          · (simp only [gA, gB, gC] <;> rfl)
          · intro γ u W hcur hd
            clear hd
            (try dsimp only)
            refine ⟨rfl, ?_⟩
            go_simp <;> (try go_bits) <;> with_reducible rfl
          · exact fun _ _ _ => rfl
          · rfl
          dsimp only [nA, cA]
          apply RGW.call (i := 4) rfl
          · (simp only [gA, gB, gC] <;> rfl)
          · intro γ u W hcur hd
            obtain ⟨⟨h1, r1, -⟩, ⟨h2, -, -⟩, ⟨h3, -, -⟩, -⟩ := hd
            dsimp only at h1 h2 h3 r1
            (try simp only [h1, h2, h3])
            refine ⟨rfl, fun K hK => ?_⟩
            go_simp
            (go_at_call 34; (with_reducible refine (hct.out _ _ _ r1).mono ?_); rintro e w3 ⟨rfl, hb3⟩; replace hb3 := bl_tt hb3)
            (try dsimp only)
            exact hK.out _ _ rfl (by (with_reducible (repeat' (first | assumption | apply jA | apply jB | apply jC | apply jD | apply jE | apply jF | apply hb3 | omega | (simp; done) | (simp; omega) | (dsimp only; omega)))))
          · exact fun _ _ _ => rfl
          · rfl
          dsimp only [nA, cA]
          apply RGW.on (i := 5) rfl
          · (simp only [gA, gB, gC] <;> rfl)
          · intro γ u W hcur hd
            obtain ⟨⟨h1, r1, -⟩, ⟨h4, -, -⟩, -⟩ := hd
            dsimp only at h1 h4 r1
            (try simp only [h1, h4])
            refine ⟨rfl, ?_⟩
            go_simp <;> (try go_bits) <;> with_reducible rfl
          · exact fun _ _ _ => rfl
          · rfl
          dsimp only [nA, cA]
          apply RGW.on (i := 6) rfl
          · (simp only [gA, gB, gC] <;> rfl)
          · intro γ u W hcur hd
            obtain ⟨⟨h1, r1, -⟩, ⟨h5, -, -⟩, -⟩ := hd
            dsimp only at h1 h5 r1
            (try simp only [h1, h5])
            refine ⟨rfl, ?_⟩
            go_simp <;> (try go_bits) <;> with_reducible rfl
          · exact fun _ _ _ => rfl
          · rfl
          dsimp only [nA, cA]
          apply RGW.onL (i := 7) rfl
          · (simp only [gA, gB, gC] <;> rfl)
          · intro γ u Wm W hcur hd hX
            obtain ⟨⟨h1, r1, -⟩, ⟨h5, -, -⟩, -⟩ := hd
            dsimp only at h1 h5 r1
            (try simp only [h1, h5])
            refine ⟨rfl, ?_⟩
            go_simp <;> (try go_bits) <;> with_reducible rfl
          · exact fun _ _ _ => rfl
          dsimp only [nA, cA]
          apply RGW.alloc (i := 8) rfl
          · (simp only [gA, gB, gC] <;> rfl)
          · intro γ u W hcur hd
            clear hd
            (try dsimp only)
            refine ⟨rfl, fun K hK => ?_⟩
            go_simp
            exact hK.out _ _ rfl rfl
          · exact fun _ _ _ => rfl
          · rfl
          · rfl
          dsimp only [nA, cA]
          refine RGW.skip (i := 9) rfl rfl ?_
          dsimp only [nA, cA]
          refine RGW.skip (i := 10) rfl rfl ?_
          dsimp only [nA, cA]
          refine RGW.fin (fun γ u y9 hy9 hd hdis => ?_)
          obtain ⟨⟨h0, -, -⟩, ⟨h1, r1, b1⟩, ⟨h2, -, -⟩, ⟨h3, -, -⟩, ⟨h4, -, -⟩, ⟨h5, -, -⟩, ⟨h6, -, -⟩, ⟨h7, -, -⟩, ⟨h8, r8, b8⟩, -⟩ := hd
          dsimp only at h0 h1 h2 h3 h4 h5 h6 h7 h8 r1 r8 b1 b8
          clear hdis
          simp only [h0, h1, h2, h3, h4, h5, h6, h7, h8]
          clear h8 h7 h6 h5 h4 h3 h2 h1 h0
          replace b8 := b8 _ (List.mem_singleton.2 rfl)
          generalize hγ8 : (γ 8).n = g8 at *
          clear hγ8
          clear u
          simp only [List.map_cons, List.map_nil]
          apply PlanW.step
          · (simp only [gA, gB, gC] <;> rfl)
          · rfl
          intro K hK
          refine wp_store_keep (X := [g8]) (w0 := y9) rfl rfl rfl (by with_reducible first | exact bx_refl _ _ | assumption) (by with_reducible first | assumption | (apply Blk.below (hb := hy9); assumption)) (by simp) (by kernel_rfl) (by rfl) (by simp [Value.oneCell']) (fun hres1 hcur => ?_)
          refine hK.out _ _ hcur (fun _ => ?_)
          clear hK K
          try simp only [Act.put, List.setIfInBounds_toArray, List.set_cons_zero, List.set_cons_succ]
          apply PlanW.step
          · (simp only [gA, gB, gC] <;> rfl)
          · rfl
          intro K hK
          go_simp
          refine hK.out _ _ (by (with_reducible (repeat' (first | assumption | apply jG | apply jH | apply jI | apply jJ | apply jK | apply hb3x | omega | (simp; done) | (simp; omega) | (dsimp only; omega))))) (fun hcur => ?_)
          clear hK K
          try simp only [Act.put, List.setIfInBounds_toArray, List.set_cons_zero, List.set_cons_succ]
          refine PlanW.done ?_
          have hb3 := bl_tt hy9
          clear r1
          generalize g8 = ggkc at *
          apply absTB8 (w0 := w) (g0 := w.heap.size) (g1 := w.heap.size + 1) (g2 := w.heap.size + 2) (g3 := ggk6) (g4 := y4.heap.size) (g5 := y4.heap.size + 1) (g6 := ggkb) (g7 := ggkc)
          iterate 9 (focus ((with_reducible (repeat' (first | assumption | apply jA | apply jB | apply jC | apply jD | apply jE | apply jF | apply hb3 | apply jG | apply jH | apply jI | apply jJ | apply jK | apply hb3x | (apply jL; first | (simp; done) | rfl) | apply jM | apply jN | apply jO | apply jP | apply jQ | apply jR | apply jS | apply jT (hb := hb3 _ (jA _)) | omega | (simp; done) | (simp; omega) | (dsimp only; omega)))); done))
          intro yb hb0' k0' k1' k2' k6' k9' ka' kb' kc'
          (try simp only [List.setIfInBounds_toArray, List.set_cons_zero, List.set_cons_succ] at k0' k1' k2' k6' k9' ka' kb' kc')
          try clear hb3
          try clear Lk0
          try clear Fk0
          try clear Qk0
          try clear Lk1
          try clear Fk1
          try clear Qk1
          try clear Lk2
          try clear Fk2
          try clear Qk2
          try clear Lk6
          try clear Fk6
          try clear Qk6
          try clear Lk9
          try clear Fk9
          try clear Qk9
          try clear Lka
          try clear Fka
          try clear Qka
          try clear Lkb
          try clear Fkb
          try clear Qkb
          try clear hb0
          try clear k0
          try clear k1
          try clear k2
          try clear k6
          try clear k9
          try clear ka
          try clear kb
          try clear kc
          have hb0 := hb0'; clear hb0'
          have k0 := k0'; clear k0'
          have k1 := k1'; clear k1'
          have k2 := k2'; clear k2'
          have k6 := k6'; clear k6'
          have k9 := k9'; clear k9'
          have ka := ka'; clear ka'
          have kb := kb'; clear kb'
          have kc := kc'; clear kc'
          have Lk0 := k0.later
          have Fk0 := k0.laterF
          have Qk0 := k0.lt
          have Lk1 := k1.later
          have Fk1 := k1.laterF
          have Qk1 := k1.lt
          have Lk2 := k2.later
          have Fk2 := k2.laterF
          have Qk2 := k2.lt
          have Lk6 := k6.later
          have Fk6 := k6.laterF
          have Qk6 := k6.lt
          have Lk9 := k9.later
          have Fk9 := k9.laterF
          have Qk9 := k9.lt
          have Lka := ka.later
          have Fka := ka.laterF
          have Qka := ka.lt
          have Lkb := kb.later
          have Fkb := kb.laterF
          have Qkb := kb.lt
          have Lkc := kc.later
          have Fkc := kc.laterF
          have Qkc := kc.lt
          go_wp2
          go_ret
          exact ⟨by simp, hb0⟩
    · have h' := bne_ne' hg
      replace hg := Lib.hid hg
      go_wp2_with (first | (go_at_call 36; (with_reducible refine (hj1.out _).mono ?_); rintro e w3 ⟨rfl, hb4⟩; replace hb3 := fun w h => bl_tt hb4 w (hb3 w h); have hv := hb3 y7 (bl_refl y7)) | (go_at_call 36; (with_reducible refine (hj2.out _).mono ?_); rintro e w3 ⟨rfl, hb4⟩; replace hb3 := fun w h => bl_tt hb4 w (hb3 w h); have hv := hb3 y7 (bl_refl y7)))
      go_ret
      exact ⟨rfl, bl_tr hb0 hv⟩
theorem l_FixReckoned (n : Nt) (b : Bx) (m : Mv) (p : Pl) (i j k : Int) (A : Option Addr) (c : Nat) (w : World) (hs : Sl cBc 4 w A n.bs) (hc : n.bs.length ≤ c) (hnm : ∀ b ∈ n.bs, b.name.size ≤ maxLen) :
    Calls Try.prog 5 #[vNt n.world (.slice A n.bs.length c), vBx b, .agg #[.int .i64 m.ticks, .int .i64 m.speed.x.lo, .int .i64 m.speed.x.hi, .int .i64 m.speed.y.lo, .int .i64 m.speed.y.hi, .int .i64 m.speed.z.lo, .int .i64 m.speed.z.hi, .int .i64 p.x, .int .i64 p.y, .int .i64 p.z, .int .i64 i, .int .i64 j, .int .i64 k]] w (Ret (.bool true) w) := by
  cases hF : (decide (n.bs.length ≤ 8) && decide (0 ≤ 10))
  · exact l_Reck_few n b m p i j k A c w hF
  · have hF' := hF
    simp only [Bool.and_eq_true, decide_eq_true_eq] at hF'
    have hn : NtIn n A c w := ⟨by omega, hc, hnm, hs⟩
    by_cases h : boxErr n b = 0 ∧ mvErr m = 0 ∧ b.has p = true
    · exact l_Reck n b m p i j k A c w hF hn h.1 h.2.1 h.2.2
    · exact l_Reck_no n b m p i j k A c w hF hn (Lib.hid fun h1 h2 => by
        cases h3 : b.has p
        · rfl
        · exact absurd ⟨h1, h2, h3⟩ h)
end Go.Proofs.Ytephimmamkafoaa
