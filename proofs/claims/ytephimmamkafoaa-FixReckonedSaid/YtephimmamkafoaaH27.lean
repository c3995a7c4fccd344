/-
  Walks: the reference's remainder; the smallest box around two boxes.
  What a move, taken twice or back, does to a box: plain facts.
-/
import Derived.Test.YtephimmamkafoaaG4
import Derived.Test.YtephimmamkafoaaH4
import Derived.Test.YtephimmamkafoaaG13
namespace Go.Proofs.Ytephimmamkafoaa
set_option linter.unusedSimpArgs false
set_option linter.unusedVariables false
open Go.RowKit Go.Shelf
attribute [local go_sem] bl_al bl_drew bl_drewN bl_refl bx_al bx_drew bx_drewN bx_refl index_b0 index_b1 index_b2
set_option maxRecDepth 20000
theorem md_neg {n d : Int} (hd : 0 < d) (h : n.tmod d < 0) : n.tmod d + d = n % d := by
  have h1 := Int.mul_tdiv_add_tmod n d
  have h2 := Int.lt_tmod_of_pos n hd
  have h3 := (Int.ediv_emod_unique (a := n) (b := d) (r := n.tmod d + d) (q := n.tdiv d - 1) hd).2 ⟨by rw [Int.mul_sub]; omega, by omega, by omega⟩
  exact h3.2.symm
theorem md_pos {n d : Int} (hd : 0 < d) (h : ¬ n.tmod d < 0) : n.tmod d = n % d := by
  have h1 := Int.mul_tdiv_add_tmod n d
  have h2 := Int.tmod_lt_of_pos n hd
  have h3 := (Int.ediv_emod_unique (a := n) (b := d) (r := n.tmod d) (q := n.tdiv d) hd).2 ⟨by omega, by omega, h2⟩
  exact h3.2.symm
theorem r_Mod (n d : Int) (w : World) (h3 : 0 < d) (h4 : d ≤ 1000000000000) : Calls Try.prog 33 #[.int .i64 n, .int .i64 d] w (Same (.int .i64 (n % d)) w) := by
  have q3 := Int.lt_tmod_of_pos n h3
  have q4 := Int.tmod_lt_of_pos n h3
  have hd : d ≠ 0 := by omega
  by_cases hT : n.tmod d < 0
  · have e := Lib.hid (md_neg h3 hT)
    have hT' : decide (n.tmod d < 0) = true := by simp [hT]
    go_enter Try.func33, Try.ntmps33
    go_wp2
    all_goals (go_ret; exact ⟨by rw [← e.out] <;> rfl, rfl⟩)
  · have e := Lib.hid (md_pos h3 hT)
    have hT' : decide (n.tmod d < 0) = false := by simp [hT]
    go_enter Try.func33, Try.ntmps33
    go_wp2
    all_goals (go_ret; exact ⟨by rw [← e.out] <;> rfl, rfl⟩)
set_option maxHeartbeats 4000000 in
theorem r_around (a b : Bx) (w : World) : Calls Try.prog 117 #[vBx a, vBx b] w (Ret (vBx (a.join b)) w) := by
  go_enter Try.func117, Try.ntmps117
  go_wp2
  apply absB3 (w0 := w) (g0 := w.heap.size) (g1 := w.heap.size + 1) (g2 := w.heap.size + 2)
  iterate 4 (focus ((with_reducible (repeat' (first | assumption | apply jA | apply jB | apply jC | apply jD | apply jE | apply jF | apply hb3 | apply jG | apply jH | apply jI | apply jJ | apply jK | apply hb3x | (apply jL; first | (simp; done) | rfl) | apply jM | apply jN | apply jO | apply jP | apply jQ | apply jR | apply jS | apply jT (hb := hb3 _ (jA _)) | omega | (simp; done) | (simp; omega) | (dsimp only; omega)))); done))
  intro wa hb0' k0' k1' k2'
  (try simp only [List.setIfInBounds_toArray, List.set_cons_zero, List.set_cons_succ] at k0' k1' k2')
  try clear hb3
  try clear hb0
  try clear k0
  try clear k1
  try clear k2
  have hb0 := hb0'; clear hb0'
  have k0 := k0'; clear k0'
  have k1 := k1'; clear k1'
  have k2 := k2'; clear k2'
  have Lk0 := k0.later
  have Fk0 := k0.laterF
  have Qk0 := k0.lt
  have Lk1 := k1.later
  have Fk1 := k1.laterF
  have Qk1 := k1.lt
  have Lk2 := k2.later
  have Fk2 := k2.laterF
  have Qk2 := k2.lt
  have hz := k2.lt
  refine wp_any (w0 := wa) ⟨[6, 7], [], [some 8, some 9, some 10, some 11, some 5, some 6, none, none], [[], [0], [], [0, 1, 2], [], [], [0, 1, 2, 3, 4, 5], [0, 1, 2, 3, 4, 5, 6]], [[], [0], [], [2], [], [], [], []]⟩ (fun γ => [(γ 4).n, (γ 5).n]) (by kernel_rfl) (by kernel_rfl) (by (with_reducible (repeat' (first | assumption | apply jA | apply jB | apply jC | apply jD | apply jE | apply jF | apply hb3 | omega | (simp; done) | (simp; omega) | (dsimp only; omega))))) (fun u => by simp only [putD, Act.put, List.setIfInBounds_toArray, List.set_cons_zero, List.set_cons_succ, Nat.zero_add, Nat.reduceAdd]; rfl) ?_
  apply RGW.on (i := 0) rfl
  · (simp only [gA, gB, gC] <;> rfl)
  · intro γ u W hcur hd
    clear hd
    (try dsimp only)
    refine ⟨rfl, ?_⟩
    go_simp <;> (try go_bits) <;> with_reducible rfl
  · exact fun _ _ _ => rfl
  · rfl
  dsimp only [nA, cA]
  apply RGW.call (i := 1) rfl
  · (simp only [gA, gB, gC] <;> rfl)
  · intro γ u W hcur hd
    obtain ⟨⟨h0, -, -⟩, -⟩ := hd
    dsimp only at h0
    (try simp only [h0])
    refine ⟨rfl, fun K hK => ?_⟩
    go_simp
    (go_at_call 32; (with_reducible refine (r_Sides a _).mono ?_); rintro e w3 ⟨rfl, hb3⟩; replace hb3 := bl_tt hb3)
    (try dsimp only)
    exact hK.out _ _ rfl (by (with_reducible (repeat' (first | assumption | apply jA | apply jB | apply jC | apply jD | apply jE | apply jF | apply hb3 | omega | (simp; done) | (simp; omega) | (dsimp only; omega)))))
  · exact fun _ _ _ => rfl
  · rfl
  dsimp only [nA, cA]
  apply RGW.on (i := 2) rfl
  · (simp only [gA, gB, gC] <;> rfl)
  · intro γ u W hcur hd
    clear hd
    (try dsimp only)
    refine ⟨rfl, ?_⟩
    go_simp <;> (try go_bits) <;> with_reducible rfl
  · exact fun _ _ _ => rfl
  · rfl
  dsimp only [nA, cA]
  apply RGW.call (i := 3) rfl
  · (simp only [gA, gB, gC] <;> rfl)
  · intro γ u W hcur hd
    obtain ⟨⟨h2, -, -⟩, -⟩ := hd
    dsimp only at h2
    (try simp only [h2])
    refine ⟨rfl, fun K hK => ?_⟩
    go_simp
    (go_at_call 32; (with_reducible refine (r_Sides b _).mono ?_); rintro e w3 ⟨rfl, hb3⟩; replace hb3 := bl_tt hb3)
    (try dsimp only)
    exact hK.out _ _ rfl (by (with_reducible (repeat' (first | assumption | apply jA | apply jB | apply jC | apply jD | apply jE | apply jF | apply hb3 | omega | (simp; done) | (simp; omega) | (dsimp only; omega)))))
  · exact fun _ _ _ => rfl
  · rfl
  dsimp only [nA, cA]
  apply RGW.alloc (i := 4) rfl
  · (simp only [gA, gB, gC] <;> rfl)
  · intro γ u W hcur hd
    clear hd
    (try dsimp only)
    refine ⟨rfl, fun K hK => ?_⟩
    go_simp
    exact hK.out _ _ rfl rfl
  · exact fun _ _ _ => rfl
  · rfl
  · rfl
  dsimp only [nA, cA]
  apply RGW.alloc (i := 5) rfl
  · (simp only [gA, gB, gC] <;> rfl)
  · intro γ u W hcur hd
    clear hd
    (try dsimp only)
    refine ⟨rfl, fun K hK => ?_⟩
    go_simp
    exact hK.out _ _ rfl rfl
  · exact fun _ _ _ => rfl
  · rfl
  · rfl
  dsimp only [nA, cA]
  refine RGW.skip (i := 6) rfl rfl ?_
  dsimp only [nA, cA]
  refine RGW.skip (i := 7) rfl rfl ?_
  dsimp only [nA, cA]
  refine RGW.fin (fun γ u wb hwb hd hdis => ?_)
  obtain ⟨⟨h0, -, -⟩, ⟨h1, -, -⟩, ⟨h2, -, -⟩, ⟨h3, -, -⟩, ⟨h4, r4, b4⟩, ⟨h5, r5, b5⟩, -⟩ := hd
  dsimp only at h0 h1 h2 h3 h4 h5 r4 r5 b4 b5
  have n4_5 := hdis 4 5 rfl rfl (Nat.lt_of_lt_of_eq (by decide : 4 < 8) (by kernel_rfl)) (Nat.lt_of_lt_of_eq (by decide : 5 < 8) (by kernel_rfl)) (by decide) _ (List.mem_singleton.2 rfl) _ (List.mem_singleton.2 rfl)
  clear hdis
  simp only [h0, h1, h2, h3, h4, h5]
  clear h5 h4 h3 h2 h1 h0
  replace b4 := b4 _ (List.mem_singleton.2 rfl)
  generalize hγ4 : (γ 4).n = g4 at *
  clear hγ4
  replace b5 := b5 _ (List.mem_singleton.2 rfl)
  generalize hγ5 : (γ 5).n = g5 at *
  clear hγ5
  clear u
  simp only [List.map_cons, List.map_nil]
  apply PlanW.step
  · (simp only [gA, gB, gC] <;> rfl)
  · rfl
  intro K hK
  refine wp_store_keep (X := [g4, g5]) (w0 := wb) rfl rfl rfl (by with_reducible first | exact bx_refl _ _ | assumption) (by with_reducible first | assumption | (apply Blk.below (hb := hwb); assumption)) (by simp) (by kernel_rfl) (by rfl) (by simp [Value.oneCell']) (fun hres1 hcur => ?_)
  refine hK.out _ _ hcur (fun _ => ?_)
  clear hK K
  try simp only [Act.put, List.setIfInBounds_toArray, List.set_cons_zero, List.set_cons_succ]
  apply PlanW.step
  · (simp only [gA, gB, gC] <;> rfl)
  · rfl
  intro K hK
  refine wp_store_keep (X := [g4, g5]) (w0 := wb) rfl rfl rfl (by with_reducible first | exact bx_refl _ _ | assumption) (by with_reducible first | assumption | (apply Blk.below (hb := hwb); assumption)) (by simp) (by kernel_rfl) (by rfl) (by simp [Value.oneCell']) (fun hres2 hcur => ?_)
  refine hK.out _ _ hcur (fun _ => ?_)
  clear hK K
  try simp only [Act.put, List.setIfInBounds_toArray, List.set_cons_zero, List.set_cons_succ]
  refine PlanW.done ?_
  have hb3 := bl_tt hwb
  apply absTB5 (w0 := w) (g0 := w.heap.size) (g1 := w.heap.size + 1) (g2 := w.heap.size + 2) (g3 := g4) (g4 := g5)
  iterate 6 (focus ((with_reducible (repeat' (first | assumption | apply jA | apply jB | apply jC | apply jD | apply jE | apply jF | apply hb3 | apply jG | apply jH | apply jI | apply jJ | apply jK | apply hb3x | (apply jL; first | (simp; done) | rfl) | apply jM | apply jN | apply jO | apply jP | apply jQ | apply jR | apply jS | apply jT (hb := hb3 _ (jA _)) | omega | (simp; done) | (simp; omega) | (dsimp only; omega)))); done))
  intro wc hb0' k0' k1' k2' k5' k6'
  (try simp only [List.setIfInBounds_toArray, List.set_cons_zero, List.set_cons_succ] at k0' k1' k2' k5' k6')
  try clear hb3
  try clear Lk0
  try clear Fk0
  try clear Qk0
  try clear Lk1
  try clear Fk1
  try clear Qk1
  try clear Lk2
  try clear Fk2
  try clear Qk2
  try clear hb0
  try clear k0
  try clear k1
  try clear k2
  try clear k5
  try clear k6
  have hb0 := hb0'; clear hb0'
  have k0 := k0'; clear k0'
  have k1 := k1'; clear k1'
  have k2 := k2'; clear k2'
  have k5 := k5'; clear k5'
  have k6 := k6'; clear k6'
  have Lk0 := k0.later
  have Fk0 := k0.laterF
  have Qk0 := k0.lt
  have Lk1 := k1.later
  have Fk1 := k1.laterF
  have Qk1 := k1.lt
  have Lk2 := k2.later
  have Fk2 := k2.laterF
  have Qk2 := k2.lt
  have Lk5 := k5.later
  have Fk5 := k5.laterF
  have Qk5 := k5.lt
  have Lk6 := k6.later
  have Fk6 := k6.laterF
  have Qk6 := k6.lt
  have n50 : g4 ≠ w.heap.size + 2 := by omega
  have n60 : g5 ≠ w.heap.size + 2 := by omega
  go_wp2
  refine wp_loop_rounds 4 ?_
  rw [rounds_succ]
  go_wp2
  refine wp_any (w0 := wc) ⟨[21], [], [some 16, some 17, some 18, some 19, some 20, some 21, some 22, some 23, some 24, some 25, some 26, some 27, some 28, some 29, some 30, some 31, some 32, some 33, some 34, some 35, some 36, none], [[], [], [1], [1, 2], [1, 2, 3], [], [5], [5, 6], [5, 6, 7], [1, 2, 3, 4, 5, 6, 7, 8], [], [10], [10, 11], [10, 11, 12], [], [14], [14, 15], [14, 15, 16], [10, 11, 12, 13, 14, 15, 16, 17], [1, 2, 3, 4, 5, 6, 7, 8, 9, 10, 11, 12, 13, 14, 15, 16, 17, 18], [0, 1, 2, 3, 4, 5, 6, 7, 8, 9, 10, 11, 12, 13, 14, 15, 16, 17, 18, 19], [0, 1, 2, 3, 4, 5, 6, 7, 8, 9, 10, 11, 12, 13, 14, 15, 16, 17, 18, 19, 20]], [[], [], [1], [2], [3], [], [5], [6], [7], [4, 8], [], [10], [11], [12], [], [14], [15], [16], [13, 17], [9, 18], [0], []]⟩ (fun _ => [g4]) (by kernel_rfl) (by kernel_rfl) (by (with_reducible (repeat' (first | assumption | apply jA | apply jB | apply jC | apply jD | apply jE | apply jF | apply hb3 | omega | (simp; done) | (simp; omega) | (dsimp only; omega))))) (fun u => by simp only [putD, Act.put, List.setIfInBounds_toArray, List.set_cons_zero, List.set_cons_succ, Nat.zero_add, Nat.reduceAdd]; rfl) ?_
  apply RGW.on (i := 0) rfl
  · (simp only [gA, gB, gC] <;> rfl)
  · intro γ u W hcur hd
    clear hd
    (try dsimp only)
    refine ⟨rfl, ?_⟩
    go_simp <;> (try go_bits) <;> with_reducible rfl
  · exact fun _ _ _ => rfl
  · rfl
  dsimp only [nA, cA]
  apply RGW.on (i := 1) rfl
  · (simp only [gA, gB, gC] <;> rfl)
  · intro γ u W hcur hd
    clear hd
    (try dsimp only)
    refine ⟨rfl, ?_⟩
    go_simp <;> (try go_bits) <;> with_reducible rfl
  · exact fun _ _ _ => rfl
  · rfl
  dsimp only [nA, cA]
  apply RGW.on (i := 2) rfl
  · (simp only [gA, gB, gC] <;> rfl)
  · intro γ u W hcur hd
    obtain ⟨⟨h1, -, -⟩, -⟩ := hd
    dsimp only at h1
    (try simp only [h1])
    refine ⟨rfl, ?_⟩
    go_simp <;> (try go_bits) <;> with_reducible rfl
  · exact fun _ _ _ => rfl
  · rfl
  dsimp only [nA, cA]
  apply RGW.on (i := 3) rfl
  · (simp only [gA, gB, gC] <;> rfl)
  · intro γ u W hcur hd
    obtain ⟨⟨h2, -, -⟩, -⟩ := hd
    dsimp only at h2
    (try simp only [h2])
    refine ⟨rfl, ?_⟩
    go_simp <;> (try go_bits) <;> with_reducible rfl
  · exact fun _ _ _ => rfl
  · rfl
  dsimp only [nA, cA]
  apply RGW.on (i := 4) rfl
  · (simp only [gA, gB, gC] <;> rfl)
  · intro γ u W hcur hd
    obtain ⟨⟨h3, -, -⟩, -⟩ := hd
    dsimp only at h3
    (try simp only [h3])
    refine ⟨rfl, ?_⟩
    go_simp <;> (try go_bits) <;> with_reducible rfl
  · exact fun _ _ _ => rfl
  · rfl
  dsimp only [nA, cA]
  apply RGW.on (i := 5) rfl
  · (simp only [gA, gB, gC] <;> rfl)
  · intro γ u W hcur hd
    clear hd
    (try dsimp only)
    refine ⟨rfl, ?_⟩
    go_simp <;> (try go_bits) <;> with_reducible rfl
  · exact fun _ _ _ => rfl
  · rfl
  dsimp only [nA, cA]
  apply RGW.on (i := 6) rfl
  · (simp only [gA, gB, gC] <;> rfl)
  · intro γ u W hcur hd
    obtain ⟨⟨h5, -, -⟩, -⟩ := hd
    dsimp only at h5
    (try simp only [h5])
    refine ⟨rfl, ?_⟩
    go_simp <;> (try go_bits) <;> with_reducible rfl
  · exact fun _ _ _ => rfl
  · rfl
  dsimp only [nA, cA]
  apply RGW.on (i := 7) rfl
  · (simp only [gA, gB, gC] <;> rfl)
  · intro γ u W hcur hd
    obtain ⟨⟨h6, -, -⟩, -⟩ := hd
    dsimp only at h6
    (try simp only [h6])
    refine ⟨rfl, ?_⟩
    go_simp <;> (try go_bits) <;> with_reducible rfl
  · exact fun _ _ _ => rfl
  · rfl
  dsimp only [nA, cA]
  apply RGW.on (i := 8) rfl
  · (simp only [gA, gB, gC] <;> rfl)
  · intro γ u W hcur hd
    obtain ⟨⟨h7, -, -⟩, -⟩ := hd
    dsimp only at h7
    (try simp only [h7])
    refine ⟨rfl, ?_⟩
    go_simp <;> (try go_bits) <;> with_reducible rfl
  · exact fun _ _ _ => rfl
  · rfl
  dsimp only [nA, cA]
  apply RGW.on (i := 9) rfl
  · (simp only [gA, gB, gC] <;> rfl)
  · intro γ u W hcur hd
    obtain ⟨⟨h4, -, -⟩, ⟨h8, -, -⟩, -⟩ := hd
    dsimp only at h4 h8
    (try simp only [h4, h8])
    refine ⟨rfl, ?_⟩
    go_simp <;> (try go_bits) <;> with_reducible rfl
  · exact fun _ _ _ => rfl
  · rfl
  dsimp only [nA, cA]
  apply RGW.on (i := 10) rfl
  · (simp only [gA, gB, gC] <;> rfl)
  · intro γ u W hcur hd
    clear hd
    (try dsimp only)
    refine ⟨rfl, ?_⟩
    go_simp <;> (try go_bits) <;> with_reducible rfl
  · exact fun _ _ _ => rfl
  · rfl
  dsimp only [nA, cA]
  apply RGW.on (i := 11) rfl
  · (simp only [gA, gB, gC] <;> rfl)
  · intro γ u W hcur hd
    obtain ⟨⟨h10, -, -⟩, -⟩ := hd
    dsimp only at h10
    (try simp only [h10])
    refine ⟨rfl, ?_⟩
    go_simp <;> (try go_bits) <;> with_reducible rfl
  · exact fun _ _ _ => rfl
  · rfl
  dsimp only [nA, cA]
  apply RGW.on (i := 12) rfl
  · (simp only [gA, gB, gC] <;> rfl)
  · intro γ u W hcur hd
    obtain ⟨⟨h11, -, -⟩, -⟩ := hd
    dsimp only at h11
    (try simp only [h11])
    refine ⟨rfl, ?_⟩
    go_simp <;> (try go_bits) <;> with_reducible rfl
  · exact fun _ _ _ => rfl
  · rfl
  dsimp only [nA, cA]
  apply RGW.on (i := 13) rfl
  · (simp only [gA, gB, gC] <;> rfl)
  · intro γ u W hcur hd
    obtain ⟨⟨h12, -, -⟩, -⟩ := hd
    dsimp only at h12
    (try simp only [h12])
    refine ⟨rfl, ?_⟩
    go_simp <;> (try go_bits) <;> with_reducible rfl
  · exact fun _ _ _ => rfl
  · rfl
  dsimp only [nA, cA]
  apply RGW.on (i := 14) rfl
  · (simp only [gA, gB, gC] <;> rfl)
  · intro γ u W hcur hd
    clear hd
    (try dsimp only)
    refine ⟨rfl, ?_⟩
    go_simp <;> (try go_bits) <;> with_reducible rfl
  · exact fun _ _ _ => rfl
  · rfl
  dsimp only [nA, cA]
  apply RGW.on (i := 15) rfl
  · (simp only [gA, gB, gC] <;> rfl)
  · intro γ u W hcur hd
    obtain ⟨⟨h14, -, -⟩, -⟩ := hd
    dsimp only at h14
    (try simp only [h14])
    refine ⟨rfl, ?_⟩
    go_simp <;> (try go_bits) <;> with_reducible rfl
  · exact fun _ _ _ => rfl
  · rfl
  dsimp only [nA, cA]
  apply RGW.on (i := 16) rfl
  · (simp only [gA, gB, gC] <;> rfl)
  · intro γ u W hcur hd
    obtain ⟨⟨h15, -, -⟩, -⟩ := hd
    dsimp only at h15
    (try simp only [h15])
    refine ⟨rfl, ?_⟩
    go_simp <;> (try go_bits) <;> with_reducible rfl
  · exact fun _ _ _ => rfl
  · rfl
  dsimp only [nA, cA]
  apply RGW.on (i := 17) rfl
  · (simp only [gA, gB, gC] <;> rfl)
  · intro γ u W hcur hd
    obtain ⟨⟨h16, -, -⟩, -⟩ := hd
    dsimp only at h16
    (try simp only [h16])
    refine ⟨rfl, ?_⟩
    go_simp <;> (try go_bits) <;> with_reducible rfl
  · exact fun _ _ _ => rfl
  · rfl
  dsimp only [nA, cA]
  apply RGW.on (i := 18) rfl
  · (simp only [gA, gB, gC] <;> rfl)
  · intro γ u W hcur hd
    obtain ⟨⟨h13, -, -⟩, ⟨h17, -, -⟩, -⟩ := hd
    dsimp only at h13 h17
    (try simp only [h13, h17])
    refine ⟨rfl, ?_⟩
    go_simp <;> (try go_bits) <;> with_reducible rfl
  · exact fun _ _ _ => rfl
  · rfl
  dsimp only [nA, cA]
  apply RGW.on (i := 19) rfl
  · (simp only [gA, gB, gC] <;> rfl)
  · intro γ u W hcur hd
    obtain ⟨⟨h9, -, -⟩, ⟨h18, -, -⟩, -⟩ := hd
    dsimp only at h9 h18
    (try simp only [h9, h18])
    refine ⟨rfl, ?_⟩
    go_simp <;> (try go_bits) <;> with_reducible rfl
  · exact fun _ _ _ => rfl
  · rfl
  dsimp only [nA, cA]
  apply RGW.on (i := 20) rfl
  · (simp only [gA, gB, gC] <;> rfl)
  · intro γ u W hcur hd
    obtain ⟨⟨h0, -, -⟩, -⟩ := hd
    dsimp only at h0
    (try simp only [h0])
    refine ⟨rfl, ?_⟩
    go_simp <;> (try go_bits) <;> with_reducible rfl
  · exact fun _ _ _ => rfl
  · rfl
  dsimp only [nA, cA]
  refine RGW.skip (i := 21) rfl rfl ?_
  dsimp only [nA, cA]
  refine RGW.fin (fun γ u wd hwd hd hdis => ?_)
  obtain ⟨⟨h0, -, -⟩, ⟨h1, -, -⟩, ⟨h2, -, -⟩, ⟨h3, -, -⟩, ⟨h4, -, -⟩, ⟨h5, -, -⟩, ⟨h6, -, -⟩, ⟨h7, -, -⟩, ⟨h8, -, -⟩, ⟨h9, -, -⟩, ⟨h10, -, -⟩, ⟨h11, -, -⟩, ⟨h12, -, -⟩, ⟨h13, -, -⟩, ⟨h14, -, -⟩, ⟨h15, -, -⟩, ⟨h16, -, -⟩, ⟨h17, -, -⟩, ⟨h18, -, -⟩, ⟨h19, -, -⟩, ⟨h20, -, -⟩, -⟩ := hd
  dsimp only at h0 h1 h2 h3 h4 h5 h6 h7 h8 h9 h10 h11 h12 h13 h14 h15 h16 h17 h18 h19 h20
  clear hdis
  simp only [h0, h1, h2, h3, h4, h5, h6, h7, h8, h9, h10, h11, h12, h13, h14, h15, h16, h17, h18, h19, h20]
  clear h20 h19 h18 h17 h16 h15 h14 h13 h12 h11 h10 h9 h8 h7 h6 h5 h4 h3 h2 h1 h0
  clear u
  simp only [List.map_cons, List.map_nil]
  apply PlanW.step
  · (simp only [gA, gB, gC] <;> rfl)
  · rfl
  intro K hK
  go_simp
  refine hK.out _ _ (by (with_reducible (repeat' (first | assumption | apply jG | apply jH | apply jI | apply jJ | apply jK | apply hb3x | omega | (simp; done) | (simp; omega) | (dsimp only; omega))))) (fun hcur => ?_)
  clear hK K
  try simp only [Act.put, List.setIfInBounds_toArray, List.set_cons_zero, List.set_cons_succ]
  refine PlanW.done ?_
  have hb3 := bl_tt hwd
  go_wp2
  apply absRB5 (w0 := w) (g0 := w.heap.size) (g1 := w.heap.size + 1) (g2 := w.heap.size + 2) (g3 := g4) (g4 := g5)
  iterate 6 (focus ((with_reducible (repeat' (first | assumption | apply jA | apply jB | apply jC | apply jD | apply jE | apply jF | apply hb3 | apply jG | apply jH | apply jI | apply jJ | apply jK | apply hb3x | (apply jL; first | (simp; done) | rfl) | apply jM | apply jN | apply jO | apply jP | apply jQ | apply jR | apply jS | apply jT (hb := hb3 _ (jA _)) | omega | (simp; done) | (simp; omega) | (dsimp only; omega)))); done))
  intro wc hb0' k0' k1' k2' k5' k6'
  (try simp only [List.setIfInBounds_toArray, List.set_cons_zero, List.set_cons_succ] at k0' k1' k2' k5' k6')
  try clear hb3
  try clear Lk0
  try clear Fk0
  try clear Qk0
  try clear Lk1
  try clear Fk1
  try clear Qk1
  try clear Lk2
  try clear Fk2
  try clear Qk2
  try clear Lk5
  try clear Fk5
  try clear Qk5
  try clear Lk6
  try clear Fk6
  try clear Qk6
  try clear hb0
  try clear k0
  try clear k1
  try clear k2
  try clear k5
  try clear k6
  have hb0 := hb0'; clear hb0'
  have k0 := k0'; clear k0'
  have k1 := k1'; clear k1'
  have k2 := k2'; clear k2'
  have k5 := k5'; clear k5'
  have k6 := k6'; clear k6'
  have Lk0 := k0.later
  have Fk0 := k0.laterF
  have Qk0 := k0.lt
  have Lk1 := k1.later
  have Fk1 := k1.laterF
  have Qk1 := k1.lt
  have Lk2 := k2.later
  have Fk2 := k2.laterF
  have Qk2 := k2.lt
  have Lk5 := k5.later
  have Fk5 := k5.laterF
  have Qk5 := k5.lt
  have Lk6 := k6.later
  have Fk6 := k6.laterF
  have Qk6 := k6.lt
  rw [rounds_succ]
  go_wp2
  refine wp_any (w0 := wc) ⟨[21], [], [some 16, some 17, some 18, some 19, some 20, some 21, some 22, some 23, some 24, some 25, some 26, some 27, some 28, some 29, some 30, some 31, some 32, some 33, some 34, some 35, some 36, none], [[], [], [1], [1, 2], [1, 2, 3], [], [5], [5, 6], [5, 6, 7], [1, 2, 3, 4, 5, 6, 7, 8], [], [10], [10, 11], [10, 11, 12], [], [14], [14, 15], [14, 15, 16], [10, 11, 12, 13, 14, 15, 16, 17], [1, 2, 3, 4, 5, 6, 7, 8, 9, 10, 11, 12, 13, 14, 15, 16, 17, 18], [0, 1, 2, 3, 4, 5, 6, 7, 8, 9, 10, 11, 12, 13, 14, 15, 16, 17, 18, 19], [0, 1, 2, 3, 4, 5, 6, 7, 8, 9, 10, 11, 12, 13, 14, 15, 16, 17, 18, 19, 20]], [[], [], [1], [2], [3], [], [5], [6], [7], [4, 8], [], [10], [11], [12], [], [14], [15], [16], [13, 17], [9, 18], [0], []]⟩ (fun _ => [g4]) (by kernel_rfl) (by kernel_rfl) (by (with_reducible (repeat' (first | assumption | apply jA | apply jB | apply jC | apply jD | apply jE | apply jF | apply hb3 | omega | (simp; done) | (simp; omega) | (dsimp only; omega))))) (fun u => by simp only [putD, Act.put, List.setIfInBounds_toArray, List.set_cons_zero, List.set_cons_succ, Nat.zero_add, Nat.reduceAdd]; rfl) ?_
  apply RGW.on (i := 0) rfl
  · (simp only [gA, gB, gC] <;> rfl)
  · intro γ u W hcur hd
    clear hd
    (try dsimp only)
    refine ⟨rfl, ?_⟩
    go_simp <;> (try go_bits) <;> with_reducible rfl
  · exact fun _ _ _ => rfl
  · rfl
  dsimp only [nA, cA]
  apply RGW.on (i := 1) rfl
  · (simp only [gA, gB, gC] <;> rfl)
  · intro γ u W hcur hd
    clear hd
    (try dsimp only)
    refine ⟨rfl, ?_⟩
    go_simp <;> (try go_bits) <;> with_reducible rfl
  · exact fun _ _ _ => rfl
  · rfl
  dsimp only [nA, cA]
  apply RGW.on (i := 2) rfl
  · (simp only [gA, gB, gC] <;> rfl)
  · intro γ u W hcur hd
    obtain ⟨⟨h1, -, -⟩, -⟩ := hd
    dsimp only at h1
    (try simp only [h1])
    refine ⟨rfl, ?_⟩
    go_simp <;> (try go_bits) <;> with_reducible rfl
  · exact fun _ _ _ => rfl
  · rfl
  dsimp only [nA, cA]
  apply RGW.on (i := 3) rfl
  · (simp only [gA, gB, gC] <;> rfl)
  · intro γ u W hcur hd
    obtain ⟨⟨h2, -, -⟩, -⟩ := hd
    dsimp only at h2
    (try simp only [h2])
    refine ⟨rfl, ?_⟩
    go_simp <;> (try go_bits) <;> with_reducible rfl
  · exact fun _ _ _ => rfl
  · rfl
  dsimp only [nA, cA]
  apply RGW.on (i := 4) rfl
  · (simp only [gA, gB, gC] <;> rfl)
  · intro γ u W hcur hd
    obtain ⟨⟨h3, -, -⟩, -⟩ := hd
    dsimp only at h3
    (try simp only [h3])
    refine ⟨rfl, ?_⟩
    go_simp <;> (try go_bits) <;> with_reducible rfl
  · exact fun _ _ _ => rfl
  · rfl
  dsimp only [nA, cA]
  apply RGW.on (i := 5) rfl
  · (simp only [gA, gB, gC] <;> rfl)
  · intro γ u W hcur hd
    clear hd
    (try dsimp only)
    refine ⟨rfl, ?_⟩
    go_simp <;> (try go_bits) <;> with_reducible rfl
  · exact fun _ _ _ => rfl
  · rfl
  dsimp only [nA, cA]
  apply RGW.on (i := 6) rfl
  · (simp only [gA, gB, gC] <;> rfl)
  · intro γ u W hcur hd
    obtain ⟨⟨h5, -, -⟩, -⟩ := hd
    dsimp only at h5
    (try simp only [h5])
    refine ⟨rfl, ?_⟩
    go_simp <;> (try go_bits) <;> with_reducible rfl
  · exact fun _ _ _ => rfl
  · rfl
  dsimp only [nA, cA]
  apply RGW.on (i := 7) rfl
  · (simp only [gA, gB, gC] <;> rfl)
  · intro γ u W hcur hd
    obtain ⟨⟨h6, -, -⟩, -⟩ := hd
    dsimp only at h6
    (try simp only [h6])
    refine ⟨rfl, ?_⟩
    go_simp <;> (try go_bits) <;> with_reducible rfl
  · exact fun _ _ _ => rfl
  · rfl
  dsimp only [nA, cA]
  apply RGW.on (i := 8) rfl
  · (simp only [gA, gB, gC] <;> rfl)
  · intro γ u W hcur hd
    obtain ⟨⟨h7, -, -⟩, -⟩ := hd
    dsimp only at h7
    (try simp only [h7])
    refine ⟨rfl, ?_⟩
    go_simp <;> (try go_bits) <;> with_reducible rfl
  · exact fun _ _ _ => rfl
  · rfl
  dsimp only [nA, cA]
  apply RGW.on (i := 9) rfl
  · (simp only [gA, gB, gC] <;> rfl)
  · intro γ u W hcur hd
    obtain ⟨⟨h4, -, -⟩, ⟨h8, -, -⟩, -⟩ := hd
    dsimp only at h4 h8
    (try simp only [h4, h8])
    refine ⟨rfl, ?_⟩
    go_simp <;> (try go_bits) <;> with_reducible rfl
  · exact fun _ _ _ => rfl
  · rfl
  dsimp only [nA, cA]
  apply RGW.on (i := 10) rfl
  · (simp only [gA, gB, gC] <;> rfl)
  · intro γ u W hcur hd
    clear hd
    (try dsimp only)
    refine ⟨rfl, ?_⟩
    go_simp <;> (try go_bits) <;> with_reducible rfl
  · exact fun _ _ _ => rfl
  · rfl
  dsimp only [nA, cA]
  apply RGW.on (i := 11) rfl
  · (simp only [gA, gB, gC] <;> rfl)
  · intro γ u W hcur hd
    obtain ⟨⟨h10, -, -⟩, -⟩ := hd
    dsimp only at h10
    (try simp only [h10])
    refine ⟨rfl, ?_⟩
    go_simp <;> (try go_bits) <;> with_reducible rfl
  · exact fun _ _ _ => rfl
  · rfl
  dsimp only [nA, cA]
  apply RGW.on (i := 12) rfl
  · (simp only [gA, gB, gC] <;> rfl)
  · intro γ u W hcur hd
    obtain ⟨⟨h11, -, -⟩, -⟩ := hd
    dsimp only at h11
    (try simp only [h11])
    refine ⟨rfl, ?_⟩
    go_simp <;> (try go_bits) <;> with_reducible rfl
  · exact fun _ _ _ => rfl
  · rfl
  dsimp only [nA, cA]
  apply RGW.on (i := 13) rfl
  · (simp only [gA, gB, gC] <;> rfl)
  · intro γ u W hcur hd
    obtain ⟨⟨h12, -, -⟩, -⟩ := hd
    dsimp only at h12
    (try simp only [h12])
    refine ⟨rfl, ?_⟩
    go_simp <;> (try go_bits) <;> with_reducible rfl
  · exact fun _ _ _ => rfl
  · rfl
  dsimp only [nA, cA]
  apply RGW.on (i := 14) rfl
  · (simp only [gA, gB, gC] <;> rfl)
  · intro γ u W hcur hd
    clear hd
    (try dsimp only)
    refine ⟨rfl, ?_⟩
    go_simp <;> (try go_bits) <;> with_reducible rfl
  · exact fun _ _ _ => rfl
  · rfl
  dsimp only [nA, cA]
  apply RGW.on (i := 15) rfl
  · (simp only [gA, gB, gC] <;> rfl)
  · intro γ u W hcur hd
    obtain ⟨⟨h14, -, -⟩, -⟩ := hd
    dsimp only at h14
    (try simp only [h14])
    refine ⟨rfl, ?_⟩
    go_simp <;> (try go_bits) <;> with_reducible rfl
  · exact fun _ _ _ => rfl
  · rfl
  dsimp only [nA, cA]
  apply RGW.on (i := 16) rfl
  · (simp only [gA, gB, gC] <;> rfl)
  · intro γ u W hcur hd
    obtain ⟨⟨h15, -, -⟩, -⟩ := hd
    dsimp only at h15
    (try simp only [h15])
    refine ⟨rfl, ?_⟩
    go_simp <;> (try go_bits) <;> with_reducible rfl
  · exact fun _ _ _ => rfl
  · rfl
  dsimp only [nA, cA]
  apply RGW.on (i := 17) rfl
  · (simp only [gA, gB, gC] <;> rfl)
  · intro γ u W hcur hd
    obtain ⟨⟨h16, -, -⟩, -⟩ := hd
    dsimp only at h16
    (try simp only [h16])
    refine ⟨rfl, ?_⟩
    go_simp <;> (try go_bits) <;> with_reducible rfl
  · exact fun _ _ _ => rfl
  · rfl
  dsimp only [nA, cA]
  apply RGW.on (i := 18) rfl
  · (simp only [gA, gB, gC] <;> rfl)
  · intro γ u W hcur hd
    obtain ⟨⟨h13, -, -⟩, ⟨h17, -, -⟩, -⟩ := hd
    dsimp only at h13 h17
    (try simp only [h13, h17])
    refine ⟨rfl, ?_⟩
    go_simp <;> (try go_bits) <;> with_reducible rfl
  · exact fun _ _ _ => rfl
  · rfl
  dsimp only [nA, cA]
  apply RGW.on (i := 19) rfl
  · (simp only [gA, gB, gC] <;> rfl)
  · intro γ u W hcur hd
    obtain ⟨⟨h9, -, -⟩, ⟨h18, -, -⟩, -⟩ := hd
    dsimp only at h9 h18
    (try simp only [h9, h18])
    refine ⟨rfl, ?_⟩
    go_simp <;> (try go_bits) <;> with_reducible rfl
  · exact fun _ _ _ => rfl
  · rfl
  dsimp only [nA, cA]
  apply RGW.on (i := 20) rfl
  · (simp only [gA, gB, gC] <;> rfl)
  · intro γ u W hcur hd
    obtain ⟨⟨h0, -, -⟩, -⟩ := hd
    dsimp only at h0
    (try simp only [h0])
    refine ⟨rfl, ?_⟩
    go_simp <;> (try go_bits) <;> with_reducible rfl
  · exact fun _ _ _ => rfl
  · rfl
  dsimp only [nA, cA]
  refine RGW.skip (i := 21) rfl rfl ?_
  dsimp only [nA, cA]
  refine RGW.fin (fun γ u wd hwd hd hdis => ?_)
  obtain ⟨⟨h0, -, -⟩, ⟨h1, -, -⟩, ⟨h2, -, -⟩, ⟨h3, -, -⟩, ⟨h4, -, -⟩, ⟨h5, -, -⟩, ⟨h6, -, -⟩, ⟨h7, -, -⟩, ⟨h8, -, -⟩, ⟨h9, -, -⟩, ⟨h10, -, -⟩, ⟨h11, -, -⟩, ⟨h12, -, -⟩, ⟨h13, -, -⟩, ⟨h14, -, -⟩, ⟨h15, -, -⟩, ⟨h16, -, -⟩, ⟨h17, -, -⟩, ⟨h18, -, -⟩, ⟨h19, -, -⟩, ⟨h20, -, -⟩, -⟩ := hd
  dsimp only at h0 h1 h2 h3 h4 h5 h6 h7 h8 h9 h10 h11 h12 h13 h14 h15 h16 h17 h18 h19 h20
  clear hdis
  simp only [h0, h1, h2, h3, h4, h5, h6, h7, h8, h9, h10, h11, h12, h13, h14, h15, h16, h17, h18, h19, h20]
  clear h20 h19 h18 h17 h16 h15 h14 h13 h12 h11 h10 h9 h8 h7 h6 h5 h4 h3 h2 h1 h0
  clear u
  simp only [List.map_cons, List.map_nil]
  apply PlanW.step
  · (simp only [gA, gB, gC] <;> rfl)
  · rfl
  intro K hK
  go_simp
  refine hK.out _ _ (by (with_reducible (repeat' (first | assumption | apply jG | apply jH | apply jI | apply jJ | apply jK | apply hb3x | omega | (simp; done) | (simp; omega) | (dsimp only; omega))))) (fun hcur => ?_)
  clear hK K
  try simp only [Act.put, List.setIfInBounds_toArray, List.set_cons_zero, List.set_cons_succ]
  refine PlanW.done ?_
  have hb3 := bl_tt hwd
  go_wp2
  apply absRB5 (w0 := w) (g0 := w.heap.size) (g1 := w.heap.size + 1) (g2 := w.heap.size + 2) (g3 := g4) (g4 := g5)
  iterate 6 (focus ((with_reducible (repeat' (first | assumption | apply jA | apply jB | apply jC | apply jD | apply jE | apply jF | apply hb3 | apply jG | apply jH | apply jI | apply jJ | apply jK | apply hb3x | (apply jL; first | (simp; done) | rfl) | apply jM | apply jN | apply jO | apply jP | apply jQ | apply jR | apply jS | apply jT (hb := hb3 _ (jA _)) | omega | (simp; done) | (simp; omega) | (dsimp only; omega)))); done))
  intro wc hb0' k0' k1' k2' k5' k6'
  (try simp only [List.setIfInBounds_toArray, List.set_cons_zero, List.set_cons_succ] at k0' k1' k2' k5' k6')
  try clear hb3
  try clear Lk0
  try clear Fk0
  try clear Qk0
  try clear Lk1
  try clear Fk1
  try clear Qk1
  try clear Lk2
  try clear Fk2
  try clear Qk2
  try clear Lk5
  try clear Fk5
  try clear Qk5
  try clear Lk6
  try clear Fk6
  try clear Qk6
  try clear hb0
  try clear k0
  try clear k1
  try clear k2
  try clear k5
  try clear k6
  have hb0 := hb0'; clear hb0'
  have k0 := k0'; clear k0'
  have k1 := k1'; clear k1'
  have k2 := k2'; clear k2'
  have k5 := k5'; clear k5'
  have k6 := k6'; clear k6'
  have Lk0 := k0.later
  have Fk0 := k0.laterF
  have Qk0 := k0.lt
  have Lk1 := k1.later
  have Fk1 := k1.laterF
  have Qk1 := k1.lt
  have Lk2 := k2.later
  have Fk2 := k2.laterF
  have Qk2 := k2.lt
  have Lk5 := k5.later
  have Fk5 := k5.laterF
  have Qk5 := k5.lt
  have Lk6 := k6.later
  have Fk6 := k6.laterF
  have Qk6 := k6.lt
  rw [rounds_succ]
  go_wp2
  refine wp_any (w0 := wc) ⟨[21], [], [some 16, some 17, some 18, some 19, some 20, some 21, some 22, some 23, some 24, some 25, some 26, some 27, some 28, some 29, some 30, some 31, some 32, some 33, some 34, some 35, some 36, none], [[], [], [1], [1, 2], [1, 2, 3], [], [5], [5, 6], [5, 6, 7], [1, 2, 3, 4, 5, 6, 7, 8], [], [10], [10, 11], [10, 11, 12], [], [14], [14, 15], [14, 15, 16], [10, 11, 12, 13, 14, 15, 16, 17], [1, 2, 3, 4, 5, 6, 7, 8, 9, 10, 11, 12, 13, 14, 15, 16, 17, 18], [0, 1, 2, 3, 4, 5, 6, 7, 8, 9, 10, 11, 12, 13, 14, 15, 16, 17, 18, 19], [0, 1, 2, 3, 4, 5, 6, 7, 8, 9, 10, 11, 12, 13, 14, 15, 16, 17, 18, 19, 20]], [[], [], [1], [2], [3], [], [5], [6], [7], [4, 8], [], [10], [11], [12], [], [14], [15], [16], [13, 17], [9, 18], [0], []]⟩ (fun _ => [g4]) (by kernel_rfl) (by kernel_rfl) (by (with_reducible (repeat' (first | assumption | apply jA | apply jB | apply jC | apply jD | apply jE | apply jF | apply hb3 | omega | (simp; done) | (simp; omega) | (dsimp only; omega))))) (fun u => by simp only [putD, Act.put, List.setIfInBounds_toArray, List.set_cons_zero, List.set_cons_succ, Nat.zero_add, Nat.reduceAdd]; rfl) ?_
  apply RGW.on (i := 0) rfl
  · (simp only [gA, gB, gC] <;> rfl)
  · intro γ u W hcur hd
    clear hd
    (try dsimp only)
    refine ⟨rfl, ?_⟩
    go_simp <;> (try go_bits) <;> with_reducible rfl
  · exact fun _ _ _ => rfl
  · rfl
  dsimp only [nA, cA]
  apply RGW.on (i := 1) rfl
  · (simp only [gA, gB, gC] <;> rfl)
  · intro γ u W hcur hd
    clear hd
    (try dsimp only)
    refine ⟨rfl, ?_⟩
    go_simp <;> (try go_bits) <;> with_reducible rfl
  · exact fun _ _ _ => rfl
  · rfl
  dsimp only [nA, cA]
  apply RGW.on (i := 2) rfl
  · (simp only [gA, gB, gC] <;> rfl)
  · intro γ u W hcur hd
    obtain ⟨⟨h1, -, -⟩, -⟩ := hd
    dsimp only at h1
    (try simp only [h1])
    refine ⟨rfl, ?_⟩
    go_simp <;> (try go_bits) <;> with_reducible rfl
  · exact fun _ _ _ => rfl
  · rfl
  dsimp only [nA, cA]
  apply RGW.on (i := 3) rfl
  · (simp only [gA, gB, gC] <;> rfl)
  · intro γ u W hcur hd
    obtain ⟨⟨h2, -, -⟩, -⟩ := hd
    dsimp only at h2
    (try simp only [h2])
    refine ⟨rfl, ?_⟩
    go_simp <;> (try go_bits) <;> with_reducible rfl
  · exact fun _ _ _ => rfl
  · rfl
  dsimp only [nA, cA]
  apply RGW.on (i := 4) rfl
  · (simp only [gA, gB, gC] <;> rfl)
  · intro γ u W hcur hd
    obtain ⟨⟨h3, -, -⟩, -⟩ := hd
    dsimp only at h3
    (try simp only [h3])
    refine ⟨rfl, ?_⟩
    go_simp <;> (try go_bits) <;> with_reducible rfl
  · exact fun _ _ _ => rfl
  · rfl
  dsimp only [nA, cA]
  apply RGW.on (i := 5) rfl
  · (simp only [gA, gB, gC] <;> rfl)
  · intro γ u W hcur hd
    clear hd
    (try dsimp only)
    refine ⟨rfl, ?_⟩
    go_simp <;> (try go_bits) <;> with_reducible rfl
  · exact fun _ _ _ => rfl
  · rfl
  dsimp only [nA, cA]
  apply RGW.on (i := 6) rfl
  · (simp only [gA, gB, gC] <;> rfl)
  · intro γ u W hcur hd
    obtain ⟨⟨h5, -, -⟩, -⟩ := hd
    dsimp only at h5
    (try simp only [h5])
    refine ⟨rfl, ?_⟩
    go_simp <;> (try go_bits) <;> with_reducible rfl
  · exact fun _ _ _ => rfl
  · rfl
  dsimp only [nA, cA]
  apply RGW.on (i := 7) rfl
  · (simp only [gA, gB, gC] <;> rfl)
  · intro γ u W hcur hd
    obtain ⟨⟨h6, -, -⟩, -⟩ := hd
    dsimp only at h6
    (try simp only [h6])
    refine ⟨rfl, ?_⟩
    go_simp <;> (try go_bits) <;> with_reducible rfl
  · exact fun _ _ _ => rfl
  · rfl
  dsimp only [nA, cA]
  apply RGW.on (i := 8) rfl
  · (simp only [gA, gB, gC] <;> rfl)
  · intro γ u W hcur hd
    obtain ⟨⟨h7, -, -⟩, -⟩ := hd
    dsimp only at h7
    (try simp only [h7])
    refine ⟨rfl, ?_⟩
    go_simp <;> (try go_bits) <;> with_reducible rfl
  · exact fun _ _ _ => rfl
  · rfl
  dsimp only [nA, cA]
  apply RGW.on (i := 9) rfl
  · (simp only [gA, gB, gC] <;> rfl)
  · intro γ u W hcur hd
    obtain ⟨⟨h4, -, -⟩, ⟨h8, -, -⟩, -⟩ := hd
    dsimp only at h4 h8
    (try simp only [h4, h8])
    refine ⟨rfl, ?_⟩
    go_simp <;> (try go_bits) <;> with_reducible rfl
  · exact fun _ _ _ => rfl
  · rfl
  dsimp only [nA, cA]
  apply RGW.on (i := 10) rfl
  · (simp only [gA, gB, gC] <;> rfl)
  · intro γ u W hcur hd
    clear hd
    (try dsimp only)
    refine ⟨rfl, ?_⟩
    go_simp <;> (try go_bits) <;> with_reducible rfl
  · exact fun _ _ _ => rfl
  · rfl
  dsimp only [nA, cA]
  apply RGW.on (i := 11) rfl
  · (simp only [gA, gB, gC] <;> rfl)
  · intro γ u W hcur hd
    obtain ⟨⟨h10, -, -⟩, -⟩ := hd
    dsimp only at h10
    (try simp only [h10])
    refine ⟨rfl, ?_⟩
    go_simp <;> (try go_bits) <;> with_reducible rfl
  · exact fun _ _ _ => rfl
  · rfl
  dsimp only [nA, cA]
  apply RGW.on (i := 12) rfl
  · (simp only [gA, gB, gC] <;> rfl)
  · intro γ u W hcur hd
    obtain ⟨⟨h11, -, -⟩, -⟩ := hd
    dsimp only at h11
    (try simp only [h11])
    refine ⟨rfl, ?_⟩
    go_simp <;> (try go_bits) <;> with_reducible rfl
  · exact fun _ _ _ => rfl
  · rfl
  dsimp only [nA, cA]
  apply RGW.on (i := 13) rfl
  · (simp only [gA, gB, gC] <;> rfl)
  · intro γ u W hcur hd
    obtain ⟨⟨h12, -, -⟩, -⟩ := hd
    dsimp only at h12
    (try simp only [h12])
    refine ⟨rfl, ?_⟩
    go_simp <;> (try go_bits) <;> with_reducible rfl
  · exact fun _ _ _ => rfl
  · rfl
  dsimp only [nA, cA]
  apply RGW.on (i := 14) rfl
  · (simp only [gA, gB, gC] <;> rfl)
  · intro γ u W hcur hd
    clear hd
    (try dsimp only)
    refine ⟨rfl, ?_⟩
    go_simp <;> (try go_bits) <;> with_reducible rfl
  · exact fun _ _ _ => rfl
  · rfl
  dsimp only [nA, cA]
  apply RGW.on (i := 15) rfl
  · (simp only [gA, gB, gC] <;> rfl)
  · intro γ u W hcur hd
    obtain ⟨⟨h14, -, -⟩, -⟩ := hd
    dsimp only at h14
    (try simp only [h14])
    refine ⟨rfl, ?_⟩
    go_simp <;> (try go_bits) <;> with_reducible rfl
  · exact fun _ _ _ => rfl
  · rfl
  dsimp only [nA, cA]
  apply RGW.on (i := 16) rfl
  · (simp only [gA, gB, gC] <;> rfl)
  · intro γ u W hcur hd
    obtain ⟨⟨h15, -, -⟩, -⟩ := hd
    dsimp only at h15
    (try simp only [h15])
    refine ⟨rfl, ?_⟩
    go_simp <;> (try go_bits) <;> with_reducible rfl
  · exact fun _ _ _ => rfl
  · rfl
  dsimp only [nA, cA]
  apply RGW.on (i := 17) rfl
  · (simp only [gA, gB, gC] <;> rfl)
  · intro γ u W hcur hd
    obtain ⟨⟨h16, -, -⟩, -⟩ := hd
    dsimp only at h16
    (try simp only [h16])
    refine ⟨rfl, ?_⟩
    go_simp <;> (try go_bits) <;> with_reducible rfl
  · exact fun _ _ _ => rfl
  · rfl
  dsimp only [nA, cA]
  apply RGW.on (i := 18) rfl
  · (simp only [gA, gB, gC] <;> rfl)
  · intro γ u W hcur hd
    obtain ⟨⟨h13, -, -⟩, ⟨h17, -, -⟩, -⟩ := hd
    dsimp only at h13 h17
    (try simp only [h13, h17])
    refine ⟨rfl, ?_⟩
    go_simp <;> (try go_bits) <;> with_reducible rfl
  · exact fun _ _ _ => rfl
  · rfl
  dsimp only [nA, cA]
  apply RGW.on (i := 19) rfl
  · (simp only [gA, gB, gC] <;> rfl)
  · intro γ u W hcur hd
    obtain ⟨⟨h9, -, -⟩, ⟨h18, -, -⟩, -⟩ := hd
    dsimp only at h9 h18
    (try simp only [h9, h18])
    refine ⟨rfl, ?_⟩
    go_simp <;> (try go_bits) <;> with_reducible rfl
  · exact fun _ _ _ => rfl
  · rfl
  dsimp only [nA, cA]
  apply RGW.on (i := 20) rfl
  · (simp only [gA, gB, gC] <;> rfl)
  · intro γ u W hcur hd
    obtain ⟨⟨h0, -, -⟩, -⟩ := hd
    dsimp only at h0
    (try simp only [h0])
    refine ⟨rfl, ?_⟩
    go_simp <;> (try go_bits) <;> with_reducible rfl
  · exact fun _ _ _ => rfl
  · rfl
  dsimp only [nA, cA]
  refine RGW.skip (i := 21) rfl rfl ?_
  dsimp only [nA, cA]
  refine RGW.fin (fun γ u wd hwd hd hdis => ?_)
  obtain ⟨⟨h0, -, -⟩, ⟨h1, -, -⟩, ⟨h2, -, -⟩, ⟨h3, -, -⟩, ⟨h4, -, -⟩, ⟨h5, -, -⟩, ⟨h6, -, -⟩, ⟨h7, -, -⟩, ⟨h8, -, -⟩, ⟨h9, -, -⟩, ⟨h10, -, -⟩, ⟨h11, -, -⟩, ⟨h12, -, -⟩, ⟨h13, -, -⟩, ⟨h14, -, -⟩, ⟨h15, -, -⟩, ⟨h16, -, -⟩, ⟨h17, -, -⟩, ⟨h18, -, -⟩, ⟨h19, -, -⟩, ⟨h20, -, -⟩, -⟩ := hd
  dsimp only at h0 h1 h2 h3 h4 h5 h6 h7 h8 h9 h10 h11 h12 h13 h14 h15 h16 h17 h18 h19 h20
  clear hdis
  simp only [h0, h1, h2, h3, h4, h5, h6, h7, h8, h9, h10, h11, h12, h13, h14, h15, h16, h17, h18, h19, h20]
  clear h20 h19 h18 h17 h16 h15 h14 h13 h12 h11 h10 h9 h8 h7 h6 h5 h4 h3 h2 h1 h0
  clear u
  simp only [List.map_cons, List.map_nil]
  apply PlanW.step
  · (simp only [gA, gB, gC] <;> rfl)
  · rfl
  intro K hK
  go_simp
  refine hK.out _ _ (by (with_reducible (repeat' (first | assumption | apply jG | apply jH | apply jI | apply jJ | apply jK | apply hb3x | omega | (simp; done) | (simp; omega) | (dsimp only; omega))))) (fun hcur => ?_)
  clear hK K
  try simp only [Act.put, List.setIfInBounds_toArray, List.set_cons_zero, List.set_cons_succ]
  refine PlanW.done ?_
  have hb3 := bl_tt hwd
  go_wp2
  apply absRB5 (w0 := w) (g0 := w.heap.size) (g1 := w.heap.size + 1) (g2 := w.heap.size + 2) (g3 := g4) (g4 := g5)
  iterate 6 (focus ((with_reducible (repeat' (first | assumption | apply jA | apply jB | apply jC | apply jD | apply jE | apply jF | apply hb3 | apply jG | apply jH | apply jI | apply jJ | apply jK | apply hb3x | (apply jL; first | (simp; done) | rfl) | apply jM | apply jN | apply jO | apply jP | apply jQ | apply jR | apply jS | apply jT (hb := hb3 _ (jA _)) | omega | (simp; done) | (simp; omega) | (dsimp only; omega)))); done))
  intro wc hb0' k0' k1' k2' k5' k6'
  (try simp only [List.setIfInBounds_toArray, List.set_cons_zero, List.set_cons_succ] at k0' k1' k2' k5' k6')
  try clear hb3
  try clear Lk0
  try clear Fk0
  try clear Qk0
  try clear Lk1
  try clear Fk1
  try clear Qk1
  try clear Lk2
  try clear Fk2
  try clear Qk2
  try clear Lk5
  try clear Fk5
  try clear Qk5
  try clear Lk6
  try clear Fk6
  try clear Qk6
  try clear hb0
  try clear k0
  try clear k1
  try clear k2
  try clear k5
  try clear k6
  have hb0 := hb0'; clear hb0'
  have k0 := k0'; clear k0'
  have k1 := k1'; clear k1'
  have k2 := k2'; clear k2'
  have k5 := k5'; clear k5'
  have k6 := k6'; clear k6'
  have Lk0 := k0.later
  have Fk0 := k0.laterF
  have Qk0 := k0.lt
  have Lk1 := k1.later
  have Fk1 := k1.laterF
  have Qk1 := k1.lt
  have Lk2 := k2.later
  have Fk2 := k2.laterF
  have Qk2 := k2.lt
  have Lk5 := k5.later
  have Fk5 := k5.laterF
  have Qk5 := k5.lt
  have Lk6 := k6.later
  have Fk6 := k6.laterF
  have Qk6 := k6.lt
  rw [rounds_succ]
  go_wp2_with ((go_at_call 108; (with_reducible refine (r_box ⟨⟨min a.x.lo b.x.lo, max a.x.hi b.x.hi⟩, ⟨min a.y.lo b.y.lo, max a.y.hi b.y.hi⟩, ⟨min a.z.lo b.z.lo, max a.z.hi b.z.hi⟩⟩ _).mono ?_); rintro e w3 ⟨rfl, hb3⟩; replace hb3 := bl_tt hb3))
  apply absPB3 (w0 := w) (g0 := w.heap.size) (g1 := w.heap.size + 1) (g2 := w.heap.size + 2)
  iterate 4 (focus ((with_reducible (repeat' (first | assumption | apply jA | apply jB | apply jC | apply jD | apply jE | apply jF | apply hb3 | apply jG | apply jH | apply jI | apply jJ | apply jK | apply hb3x | (apply jL; first | (simp; done) | rfl) | apply jM | apply jN | apply jO | apply jP | apply jQ | apply jR | apply jS | apply jT (hb := hb3 _ (jA _)) | omega | (simp; done) | (simp; omega) | (dsimp only; omega)))); done))
  intro wf hb0' k0' k1' k2'
  (try simp only [List.setIfInBounds_toArray, List.set_cons_zero, List.set_cons_succ] at k0' k1' k2')
  try clear hb3
  try clear Lk0
  try clear Fk0
  try clear Qk0
  try clear Lk1
  try clear Fk1
  try clear Qk1
  try clear Lk2
  try clear Fk2
  try clear Qk2
  try clear Lk5
  try clear Fk5
  try clear Qk5
  try clear Lk6
  try clear Fk6
  try clear Qk6
  try clear hb0
  try clear k0
  try clear k1
  try clear k2
  have hb0 := hb0'; clear hb0'
  have k0 := k0'; clear k0'
  have k1 := k1'; clear k1'
  have k2 := k2'; clear k2'
  have hr := k2.cell
  refine bodyPost_ret (v := vBx (a.join b)) (by simp [results, Try.results117, go_sem, hr, Bx.join, Rg.join]) rfl ⟨rfl, hb0⟩
end Go.Proofs.Ytephimmamkafoaa
namespace Go.Proofs.Ytephimmamkafoaa
set_option linter.unusedSimpArgs false
set_option linter.unusedVariables false
/-- A box that nowhere reaches the sides of another one. -/
def innerB (s t : Bx) : Bool := (!decide (t.x.lo ≤ s.x.lo) && !decide (s.x.hi ≤ t.x.hi)) && ((!decide (t.y.lo ≤ s.y.lo) && !decide (s.y.hi ≤ t.y.hi)) && (!decide (t.z.lo ≤ s.z.lo) && !decide (s.z.hi ≤ t.z.hi)))
/-- A position after so many ticks with a speed. -/
def Pl.go (p : Pl) (t : Int) (u : Pl) : Pl := ⟨p.x + t * u.x, p.y + t * u.y, p.z + t * u.z⟩
theorem Bx.has_iff {a : Bx} {p : Pl} : a.has p = true ↔ (a.x.lo ≤ p.x ∧ p.x ≤ a.x.hi) ∧ (a.y.lo ≤ p.y ∧ p.y ≤ a.y.hi) ∧ (a.z.lo ≤ p.z ∧ p.z ≤ a.z.hi) := by
  simp [Bx.has, inR, and_assoc]
theorem innerB_iff {s t : Bx} : innerB s t = true ↔ (s.x.lo < t.x.lo ∧ t.x.hi < s.x.hi) ∧ (s.y.lo < t.y.lo ∧ t.y.hi < s.y.hi) ∧ (s.z.lo < t.z.lo ∧ t.z.hi < s.z.hi) := by
  simp [innerB, and_assoc]
theorem box_of {n : Nt} {b : Bx} (h : netErr n = 0) (h1 : b.ordered = true) (h2 : n.world.holds b = true) : boxErr n b = 0 := by
  simp [boxErr, h, h1, h2, unl, fstE]
theorem mv_ord {m : Mv} (h : mvErr m = 0) : m.speed.ordered = true := by
  unfold mvErr at h
  simp only [fst_cons, unl_zero (show (2 : Int) ≠ 0 by decide), unl_zero (show (9 : Int) ≠ 0 by decide)] at h
  exact h.2.1
theorem mv_tk {m : Mv} (h : mvErr m = 0) (t : Int) (h0 : 0 ≤ t) (h1 : t ≤ 1000) : mvErr ⟨t, m.speed⟩ = 0 := by
  unfold mvErr at h ⊢
  simp only [fst_cons, unl_zero (show (2 : Int) ≠ 0 by decide), unl_zero (show (9 : Int) ≠ 0 by decide), Bool.and_eq_true] at h ⊢
  exact ⟨⟨inR_iff.2 ⟨h0, h1⟩, h.1.2⟩, h.2⟩
theorem rg_to {l h vl vh t p u : Int} (ht : 0 ≤ t) (hp1 : l ≤ p) (hp2 : p ≤ h) (hu1 : vl ≤ u) (hu2 : u ≤ vh) : l + t * vl ≤ p + t * u ∧ p + t * u ≤ h + t * vh := by
  have h1 := Int.mul_le_mul_of_nonneg_left hu1 ht
  have h2 := Int.mul_le_mul_of_nonneg_left hu2 ht
  omega
theorem rg_fro {l h vl vh t p u : Int} (ht : 0 ≤ t) (hp1 : l ≤ p + t * u) (hp2 : p + t * u ≤ h) (hu1 : vl ≤ u) (hu2 : u ≤ vh) : l + t * -vh ≤ p ∧ p ≤ h + t * -vl := by
  have h1 := Int.mul_le_mul_of_nonneg_left hu1 ht
  have h2 := Int.mul_le_mul_of_nonneg_left hu2 ht
  rw [Int.mul_neg, Int.mul_neg]
  omega
theorem Rg.meet_iff {a b : Rg} {x : Int} : ((a.meet b).lo ≤ x ∧ x ≤ (a.meet b).hi) ↔ (a.lo ≤ x ∧ x ≤ a.hi) ∧ (b.lo ≤ x ∧ x ≤ b.hi) := by
  simp only [Rg.meet, Int.max_le, Int.le_min]
  constructor
  · rintro ⟨⟨h1, h2⟩, h3, h4⟩
    exact ⟨⟨h1, h3⟩, h2, h4⟩
  · rintro ⟨⟨h1, h3⟩, h2, h4⟩
    exact ⟨⟨h1, h2⟩, h3, h4⟩
theorem Bx.meet_has {a b : Bx} {p : Pl} : (a.meet b).has p = true ↔ a.has p = true ∧ b.has p = true := by
  simp only [Bx.has_iff, Bx.meet, Rg.meet_iff]
  constructor
  · rintro ⟨⟨h1, h2⟩, ⟨h3, h4⟩, h5, h6⟩
    exact ⟨⟨h1, h3, h5⟩, h2, h4, h6⟩
  · rintro ⟨⟨h1, h3, h5⟩, h2, h4, h6⟩
    exact ⟨⟨h1, h2⟩, ⟨h3, h4⟩, h5, h6⟩
theorem has_ord {a : Bx} {p : Pl} (h : a.has p = true) : a.ordered = true := by
  rw [Bx.has_iff] at h
  rw [Bx.ordered_iff]
  omega
theorem meet_in (a w : Bx) : w.holds (a.meet w) = true := by
  rw [Bx.holds_iff]
  refine ⟨⟨Int.le_max_right _ _, Int.min_le_right _ _⟩, ⟨Int.le_max_right _ _, Int.min_le_right _ _⟩, Int.le_max_right _ _, Int.min_le_right _ _⟩
theorem holds_has {w b : Bx} {p : Pl} (h : w.holds b = true) (hp : b.has p = true) : w.has p = true := by
  rw [Bx.holds_iff] at h
  rw [Bx.has_iff] at hp ⊢
  omega
theorem moved_of {n : Nt} {b g : Bx} {m : Mv} (hb : boxErr n b = 0) (hm : mvErr m = 0) (hg : g.ordered = true) : movedS n b m g = (g, 0) := by
  have h : movedE n b m = 0 := by rw [movedE, hb, hm]; rfl
  simp [movedS, h, hg]
theorem moved_zero {n : Nt} {b g : Bx} {m : Mv} (h : (movedS n b m g).2 = 0) (hb : boxErr n b = 0) (hm : mvErr m = 0) : movedS n b m g = (g, 0) ∧ g.ordered = true := by
  have h0 : movedE n b m = 0 := by rw [movedE, hb, hm]; rfl
  cases hg : g.ordered
  · simp [movedS, h0, hg] at h
  · exact ⟨moved_of hb hm hg, rfl⟩
/-- A position that stays in the world is in the box carried, and this box is valid. -/
theorem to_in {n : Nt} {b : Bx} {m : Mv} {p u : Pl} (hb : boxErr n b = 0) (hm : mvErr m = 0) (hp : b.has p = true) (hu : m.speed.has u = true) (hq : n.world.has (p.go m.ticks u) = true) :
    movedS n b m (carried n.world b m) = (carried n.world b m, 0) ∧ (carried n.world b m).has (p.go m.ticks u) = true ∧ boxErr n (carried n.world b m) = 0 := by
  have ht : 0 ≤ m.ticks := (mv_ok hm).1
  have h1 : (carried n.world b m).has (p.go m.ticks u) = true := by
    refine Bx.meet_has.2 ⟨?_, hq⟩
    rw [Bx.has_iff] at hp hu ⊢
    exact ⟨rg_to ht hp.1.1 hp.1.2 hu.1.1 hu.1.2, rg_to ht hp.2.1.1 hp.2.1.2 hu.2.1.1 hu.2.1.2, rg_to ht hp.2.2.1 hp.2.2.2 hu.2.2.1 hu.2.2.2⟩
  exact ⟨moved_of hb hm (has_ord h1), h1, box_of (box_zero hb).1 (has_ord h1) (meet_in _ _)⟩
/-- From a box that holds where it went to, the way back leads to it. -/
theorem back_in {n : Nt} {g : Bx} {m : Mv} {p u : Pl} (hg : boxErr n g = 0) (hm : mvErr m = 0) (hp : n.world.has p = true) (hu : m.speed.has u = true) (hq : g.has (p.go m.ticks u) = true) :
    movedS n g m (back n.world g m) = (back n.world g m, 0) ∧ (back n.world g m).has p = true := by
  have ht : 0 ≤ m.ticks := (mv_ok hm).1
  have h1 : (back n.world g m).has p = true := by
    refine Bx.meet_has.2 ⟨?_, hp⟩
    rw [Bx.has_iff] at hq hu ⊢
    exact ⟨rg_fro ht hq.1.1 hq.1.2 hu.1.1 hu.1.2, rg_fro ht hq.2.1.1 hq.2.1.2 hu.2.1.1 hu.2.1.2, rg_fro ht hq.2.2.1 hq.2.2.2 hu.2.2.1 hu.2.2.2⟩
  exact ⟨moved_of hg hm (has_ord h1), h1⟩
theorem rg_still {r w : Rg} (v : Rg) (h1 : w.lo ≤ r.lo) (h2 : r.hi ≤ w.hi) : (r.carry v 0).meet w = r := by
  obtain ⟨l, h⟩ := r
  simp only [Rg.carry, Rg.meet, Int.zero_mul, Int.add_zero] at h1 h2 ⊢
  rw [Int.max_eq_left h1, Int.min_eq_left h2]
theorem still_eq {n : Nt} {b : Bx} {m : Mv} (hb : boxErr n b = 0) (hm : mvErr m = 0) : movedS n b ⟨0, m.speed⟩ (carried n.world b ⟨0, m.speed⟩) = (b, 0) := by
  have h := Bx.holds_iff.1 (box_zero hb).2.2
  have e : carried n.world b ⟨0, m.speed⟩ = b := by
    obtain ⟨bx, b2, b3⟩ := b
    simp only [carried, Bx.carry, Bx.meet]
    rw [rg_still _ h.1.1 h.1.2, rg_still _ h.2.1.1 h.2.1.2, rg_still _ h.2.2.1 h.2.2.2]
  rw [e]
  exact moved_of hb (mv_tk hm 0 (by omega) (by omega)) (box_zero hb).2.1
theorem rg_unc {a w : Rg} (h1 : w.lo < (a.meet w).lo) (h2 : (a.meet w).hi < w.hi) : a.meet w = a := by
  obtain ⟨l, h⟩ := a
  simp only [Rg.meet] at h1 h2 ⊢
  rw [Int.max_eq_left (by omega), Int.min_eq_left (by omega)]
theorem unc {a w : Bx} (h : innerB w (a.meet w) = true) : a.meet w = a := by
  obtain ⟨h1, h2, h3⟩ := innerB_iff.1 h
  obtain ⟨ax, ay, az⟩ := a
  simp only [Bx.meet] at h1 h2 h3 ⊢
  rw [rg_unc h1.1 h1.2, rg_unc h2.1 h2.2, rg_unc h3.1 h3.2]
theorem two_eq {n : Nt} {b : Bx} {m : Mv} {th tr : Int} (hb : boxErr n b = 0) (hm : mvErr m = 0) (h0 : 0 ≤ th) (h1 : 0 ≤ tr) (ht : th + tr = m.ticks)
    (e1 : (movedS n b ⟨th, m.speed⟩ (carried n.world b ⟨th, m.speed⟩)).2 = 0) (e2 : (movedS n b m (carried n.world b m)).2 = 0)
    (i1 : innerB n.world (movedS n b ⟨th, m.speed⟩ (carried n.world b ⟨th, m.speed⟩)).1 = true) (i2 : innerB n.world (movedS n b m (carried n.world b m)).1 = true) :
    movedS n (movedS n b ⟨th, m.speed⟩ (carried n.world b ⟨th, m.speed⟩)).1 ⟨tr, m.speed⟩ (carried n.world (movedS n b ⟨th, m.speed⟩ (carried n.world b ⟨th, m.speed⟩)).1 ⟨tr, m.speed⟩) = ((movedS n b m (carried n.world b m)).1, 0) := by
  have hk := (mv_ok hm).2.1
  have hmh := mv_tk hm th h0 (by omega)
  have hmr := mv_tk hm tr h1 (by omega)
  obtain ⟨p1, o1⟩ := moved_zero e1 hb hmh
  obtain ⟨p2, o2⟩ := moved_zero e2 hb hm
  rw [p1] at i1 ⊢
  rw [p2] at i2 ⊢
  dsimp only at i1 i2 ⊢
  have q1 : carried n.world b ⟨th, m.speed⟩ = b.carry ⟨th, m.speed⟩ := unc i1
  have q2 : carried n.world (carried n.world b ⟨th, m.speed⟩) ⟨tr, m.speed⟩ = carried n.world b m := by
    rw [q1]
    have e : (b.carry ⟨th, m.speed⟩).carry ⟨tr, m.speed⟩ = b.carry m := by
      simp only [Bx.carry, Rg.carry, ← ht, Int.add_mul, Int.add_assoc]
    rw [carried, e, carried]
  rw [q2]
  exact moved_of (box_of (box_zero hb).1 o1 (meet_in _ _)) hmr o2
end Go.Proofs.Ytephimmamkafoaa
