/-
  Walks: the reference's division, the depth and its errors, the error of a move.
-/
import Derived.Test.YtephimmamkafoaaRef1
namespace Go.Proofs.Ytephimmamkafoaa
set_option linter.unusedSimpArgs false
set_option linter.unusedVariables false
open Go.RowKit Go.Shelf
attribute [local go_sem] bl_al bl_drew bl_drewN bl_refl bx_al bx_drew bx_drewN bx_refl index_b0 index_b1 index_b2
set_option maxRecDepth 20000
theorem tdiv_bd (n d : Int) : -(n.natAbs : Int) ≤ n.tdiv d ∧ n.tdiv d ≤ n.natAbs := by
  have h : (n.tdiv d).natAbs ≤ n.natAbs := by
    rw [Int.natAbs_tdiv]
    exact Nat.div_le_self _ _
  omega
theorem r_Floor (n d : Int) (w : World) (h1 : -1000000000000 ≤ n) (h2 : n ≤ 1000000000000) (h3 : 0 < d) (h4 : d ≤ 1000000000000) : Calls Try.prog 79 #[.int .i64 n, .int .i64 d] w (Same (.int .i64 (n / d)) w) := by
  obtain ⟨q1, q2⟩ := tdiv_bd n d
  have q3 := Int.lt_tmod_of_pos n h3
  have q4 := Int.tmod_lt_of_pos n h3
  have hd : d ≠ 0 := by omega
  by_cases hT : n.tmod d < 0
  · have e := Lib.hid (fl_neg h3 hT)
    have hT' : decide (n.tmod d < 0) = true := by simp [hT]
    go_enter Try.func79, Try.ntmps79
    go_wp2
    all_goals (go_ret; exact ⟨by rw [← e.out] <;> rfl, rfl⟩)
  · have e := Lib.hid (fl_pos h3 hT)
    have hT' : decide (n.tmod d < 0) = false := by simp [hT]
    go_enter Try.func79, Try.ntmps79
    go_wp2
    all_goals (go_ret; exact ⟨by rw [← e.out] <;> rfl, rfl⟩)
theorem r_Ceil (n d : Int) (w : World) (h1 : -1000000000000 ≤ n) (h2 : n ≤ 1000000000000) (h3 : 0 < d) (h4 : d ≤ 1000000000000) : Calls Try.prog 80 #[.int .i64 n, .int .i64 d] w (Same (.int .i64 (-(-n / d))) w) := by
  have hb : -1000000000000 ≤ -n / d ∧ -n / d ≤ 1000000000000 := by
    have e1 := Int.mul_ediv_add_emod (-n) d
    have e2 := Int.emod_nonneg (-n) (show d ≠ 0 by omega)
    have e3 := Int.emod_lt_of_pos (-n) h3
    by_cases hn : 0 ≤ -n
    · exact ⟨by have := Int.ediv_nonneg hn (by omega : 0 ≤ d); omega, by have := Int.ediv_le_self d hn; omega⟩
    · refine ⟨?_, by have := Int.ediv_neg_of_neg_of_pos (by omega : -n < 0) h3; omega⟩
      have := Int.le_ediv_of_mul_le h3 (a := -1000000000000) (b := -n) (by have := Int.mul_le_mul_of_nonneg_left (show (1 : Int) ≤ d by omega) (show (0 : Int) ≤ 1000000000000 by omega); omega)
      exact this
  go_enter Try.func80, Try.ntmps80
  go_wp2_with (go_at_call 79; (with_reducible refine (r_Floor (-n) d _ (by omega) (by omega) h3 h4).mono ?_); rintro e w3 ⟨rfl, rfl⟩)
  go_ret
  exact ⟨rfl, rfl⟩
theorem r_Size (n : Int) (w : World) (h1 : -1000000000000 ≤ n) (h2 : n ≤ 1000000000000) : Calls Try.prog 105 #[.int .i64 n] w (Same (.int .i64 (max n (-n))) w) := by
  go_enter Try.func105, Try.ntmps105
  go_wp2
  go_ret
  exact ⟨rfl, rfl⟩
theorem ceil_eq {n d : Int} (hd : 0 < d) : -(-n / d) = (n + d - 1) / d := by
  have e1 := Int.mul_ediv_add_emod (-n) d
  have e2 := Int.emod_nonneg (-n) (show d ≠ 0 by omega)
  have e3 := Int.emod_lt_of_pos (-n) hd
  have h := (Int.ediv_emod_unique (a := n + d - 1) (b := d) (r := d - 1 - (-n) % d) (q := -(-n / d)) hd).2 ⟨by rw [Int.mul_neg]; omega, by omega, by omega⟩
  exact h.1.symm
set_option maxHeartbeats 1000000 in
theorem r_Depth (p d : Rg) (w : World) (h1 : insd p 0 1000000 = true) (h2 : insd d 1 2000 = true) : Calls Try.prog 19 #[vRg p, vRg d] w (Ret (vRg (depth p d)) w) := by
  simp only [insd, Bool.and_eq_true, inR_iff] at h1 h2
  obtain ⟨⟨a1, a2⟩, a3, a4⟩ := h1
  obtain ⟨⟨c1, c2⟩, c3, c4⟩ := h2
  have e := Lib.hid (ceil_eq (n := p.hi * 1000) (d := d.lo) (by omega))
  go_enter Try.func19, Try.ntmps19
  go_wp2
  first
  | apply absB3 (w0 := w) (g0 := w.heap.size) (g1 := w.heap.size + 1) (g2 := w.heap.size + 2)
  | apply absTB3 (w0 := w) (g0 := w.heap.size) (g1 := w.heap.size + 1) (g2 := w.heap.size + 2)
  | apply absIB3 (w0 := w) (g0 := w.heap.size) (g1 := w.heap.size + 1) (g2 := w.heap.size + 2)
  iterate 4 (focus ((with_reducible (repeat' (first | assumption | apply bl_refl | apply bl_al | apply bl_drew | apply bl_drewN | (apply bl_set; case hp => (first | (simp; done) | (simp; omega) | (dsimp only; omega))) | (apply bl_row; case hg => (first | (simp; done) | (simp; omega) | omega)) | apply hb3 | apply bx_refl | (apply bx_set; case hp => (first | exact Or.inl (by simp; done) | exact Or.inr (by first | (simp; done) | (simp; omega) | (dsimp only; omega)))) | apply bx_drew | apply bx_al | apply bx_drewN | apply hb3x | (apply Blk.newAt; first | (simp; done) | rfl) | apply Blk.alloc | apply Blk.drew | apply Blk.drewN | apply Blk.set | (apply Blk.other; case hne => first | assumption | (simp; done) | (simp; omega) | omega) | apply Blk.row | (apply Blk.rowOther; case hne => first | assumption | (simp; done) | (simp; omega) | omega) | apply Blk.below (hb := hb3 _ (bl_refl _))))); done))
  intro wa hb0' k0' k1' k2'
  (try simp only [List.setIfInBounds_toArray, List.set_cons_zero, List.set_cons_succ] at k0' k1' k2')
  try clear hb3
  try clear hb0
  try clear k0
  try clear k1
  try clear k2
  have hb0 := hb0'; clear hb0'
  have k0 := k0'; clear k0'
  have k1 := k1'; clear k1'
  have k2 := k2'; clear k2'
  have Lk0 := k0.later
  have Fk0 := k0.laterF
  have Qk0 := k0.lt
  have Lk1 := k1.later
  have Fk1 := k1.laterF
  have Qk1 := k1.lt
  have Lk2 := k2.later
  have Fk2 := k2.laterF
  have Qk2 := k2.lt
  refine wp_any (w0 := wa) ⟨[13], [], [some 5, some 6, some 7, some 8, some 9, some 10, some 11, some 12, some 13, some 14, some 15, some 16, some 17, none], [[], [0], [0, 1], [], [3], [0, 1, 2, 3, 4], [], [6], [6, 7], [], [9], [0, 1, 2, 3, 4, 5, 6, 7, 8, 9, 10], [0, 1, 2, 3, 4, 5, 6, 7, 8, 9, 10, 11], [0, 1, 2, 3, 4, 5, 6, 7, 8, 9, 10, 11, 12]], [[], [0], [1], [], [3], [2, 4], [], [6], [7], [], [9], [8, 10], [5, 11], []]⟩ (fun _ => [w.heap.size + 2]) (by kernel_rfl) (by kernel_rfl) (by (with_reducible (repeat' (first | assumption | apply bl_refl | apply bl_al | apply bl_drew | apply bl_drewN | (apply bl_set; case hp => (first | (simp; done) | (simp; omega) | (dsimp only; omega))) | (apply bl_row; case hg => (first | (simp; done) | (simp; omega) | omega)) | apply hb3)))) (fun u => by simp only [putD, Act.put, List.setIfInBounds_toArray, List.set_cons_zero, List.set_cons_succ, Nat.zero_add, Nat.reduceAdd]; rfl) ?_
  apply RGW.on (i := 0) rfl
  · (simp only [List.getElem?_toArray, List.getElem?_cons_succ, List.getElem?_cons_zero] <;> rfl)
  · intro γ u W hcur hd
    clear hd
    (try dsimp only)
    refine ⟨rfl, ?_⟩
    go_simp <;> (try go_bits) <;> with_reducible rfl
  · first
    | exact fun _ _ _ => rfl
  · rfl
  dsimp only [List.nil_append, List.cons_append]
  apply RGW.on (i := 1) rfl
  · (simp only [List.getElem?_toArray, List.getElem?_cons_succ, List.getElem?_cons_zero] <;> rfl)
  · intro γ u W hcur hd
    obtain ⟨⟨h0, -, -⟩, -⟩ := hd
    dsimp only at h0
    (try simp only [h0])
    refine ⟨rfl, ?_⟩
    go_simp <;> (try go_bits) <;> with_reducible rfl
  · first
    | exact fun _ _ _ => rfl
  · rfl
  dsimp only [List.nil_append, List.cons_append]
  apply RGW.on (i := 2) rfl
  · (simp only [List.getElem?_toArray, List.getElem?_cons_succ, List.getElem?_cons_zero] <;> rfl)
  · intro γ u W hcur hd
    obtain ⟨⟨h1, -, -⟩, -⟩ := hd
    dsimp only at h1
    (try simp only [h1])
    refine ⟨rfl, ?_⟩
    go_simp <;> (try go_bits) <;> with_reducible rfl
  · first
    | exact fun _ _ _ => rfl
  · rfl
  dsimp only [List.nil_append, List.cons_append]
  apply RGW.on (i := 3) rfl
  · (simp only [List.getElem?_toArray, List.getElem?_cons_succ, List.getElem?_cons_zero] <;> rfl)
  · intro γ u W hcur hd
    clear hd
    (try dsimp only)
    refine ⟨rfl, ?_⟩
    go_simp <;> (try go_bits) <;> with_reducible rfl
  · first
    | exact fun _ _ _ => rfl
  · rfl
  dsimp only [List.nil_append, List.cons_append]
  apply RGW.on (i := 4) rfl
  · (simp only [List.getElem?_toArray, List.getElem?_cons_succ, List.getElem?_cons_zero] <;> rfl)
  · intro γ u W hcur hd
    obtain ⟨⟨h3, -, -⟩, -⟩ := hd
    dsimp only at h3
    (try simp only [h3])
    refine ⟨rfl, ?_⟩
    go_simp <;> (try go_bits) <;> with_reducible rfl
  · first
    | exact fun _ _ _ => rfl
  · rfl
  dsimp only [List.nil_append, List.cons_append]
  apply RGW.call (i := 5) rfl
  · (simp only [List.getElem?_toArray, List.getElem?_cons_succ, List.getElem?_cons_zero] <;> rfl)
  · intro γ u W hcur hd
    obtain ⟨⟨h2, -, -⟩, ⟨h4, -, -⟩, -⟩ := hd
    dsimp only at h2 h4
    (try simp only [h2, h4])
    refine ⟨rfl, fun K hK => ?_⟩
    go_simp
    (first | (go_at_call 79; (with_reducible refine (r_Floor (p.lo * 1000) d.hi _ (by omega) (by omega) (by omega) (by omega)).mono ?_); rintro e w3 ⟨rfl, rfl⟩) | (go_at_call 80; (with_reducible refine (r_Ceil (p.hi * 1000) d.lo _ (by omega) (by omega) (by omega) (by omega)).mono ?_); rintro e w3 ⟨rfl, rfl⟩))
    (try dsimp only)
    exact hK.out _ _ rfl (by (with_reducible (repeat' (first | assumption | apply bl_refl | apply bl_al | apply bl_drew | apply bl_drewN | (apply bl_set; case hp => (first | (simp; done) | (simp; omega) | (dsimp only; omega))) | (apply bl_row; case hg => (first | (simp; done) | (simp; omega) | omega)) | apply hb3))))
  · first
    | exact fun _ _ _ => rfl
  · rfl
  dsimp only [List.nil_append, List.cons_append]
  apply RGW.on (i := 6) rfl
  · (simp only [List.getElem?_toArray, List.getElem?_cons_succ, List.getElem?_cons_zero] <;> rfl)
  · intro γ u W hcur hd
    clear hd
    (try dsimp only)
    refine ⟨rfl, ?_⟩
    go_simp <;> (try go_bits) <;> with_reducible rfl
  · first
    | exact fun _ _ _ => rfl
  · rfl
  dsimp only [List.nil_append, List.cons_append]
  apply RGW.on (i := 7) rfl
  · (simp only [List.getElem?_toArray, List.getElem?_cons_succ, List.getElem?_cons_zero] <;> rfl)
  · intro γ u W hcur hd
    obtain ⟨⟨h6, -, -⟩, -⟩ := hd
    dsimp only at h6
    (try simp only [h6])
    refine ⟨rfl, ?_⟩
    go_simp <;> (try go_bits) <;> with_reducible rfl
  · first
    | exact fun _ _ _ => rfl
  · rfl
  dsimp only [List.nil_append, List.cons_append]
  apply RGW.on (i := 8) rfl
  · (simp only [List.getElem?_toArray, List.getElem?_cons_succ, List.getElem?_cons_zero] <;> rfl)
  · intro γ u W hcur hd
    obtain ⟨⟨h7, -, -⟩, -⟩ := hd
    dsimp only at h7
    (try simp only [h7])
    refine ⟨rfl, ?_⟩
    go_simp <;> (try go_bits) <;> with_reducible rfl
  · first
    | exact fun _ _ _ => rfl
  · rfl
  dsimp only [List.nil_append, List.cons_append]
  apply RGW.on (i := 9) rfl
  · (simp only [List.getElem?_toArray, List.getElem?_cons_succ, List.getElem?_cons_zero] <;> rfl)
  · intro γ u W hcur hd
    clear hd
    (try dsimp only)
    refine ⟨rfl, ?_⟩
    go_simp <;> (try go_bits) <;> with_reducible rfl
  · first
    | exact fun _ _ _ => rfl
  · rfl
  dsimp only [List.nil_append, List.cons_append]
  apply RGW.on (i := 10) rfl
  · (simp only [List.getElem?_toArray, List.getElem?_cons_succ, List.getElem?_cons_zero] <;> rfl)
  · intro γ u W hcur hd
    obtain ⟨⟨h9, -, -⟩, -⟩ := hd
    dsimp only at h9
    (try simp only [h9])
    refine ⟨rfl, ?_⟩
    go_simp <;> (try go_bits) <;> with_reducible rfl
  · first
    | exact fun _ _ _ => rfl
  · rfl
  dsimp only [List.nil_append, List.cons_append]
  apply RGW.call (i := 11) rfl
  · (simp only [List.getElem?_toArray, List.getElem?_cons_succ, List.getElem?_cons_zero] <;> rfl)
  · intro γ u W hcur hd
    obtain ⟨⟨h8, -, -⟩, ⟨h10, -, -⟩, -⟩ := hd
    dsimp only at h8 h10
    (try simp only [h8, h10])
    refine ⟨rfl, fun K hK => ?_⟩
    go_simp
    (first | (go_at_call 79; (with_reducible refine (r_Floor (p.lo * 1000) d.hi _ (by omega) (by omega) (by omega) (by omega)).mono ?_); rintro e w3 ⟨rfl, rfl⟩) | (go_at_call 80; (with_reducible refine (r_Ceil (p.hi * 1000) d.lo _ (by omega) (by omega) (by omega) (by omega)).mono ?_); rintro e w3 ⟨rfl, rfl⟩))
    (try dsimp only)
    exact hK.out _ _ rfl (by (with_reducible (repeat' (first | assumption | apply bl_refl | apply bl_al | apply bl_drew | apply bl_drewN | (apply bl_set; case hp => (first | (simp; done) | (simp; omega) | (dsimp only; omega))) | (apply bl_row; case hg => (first | (simp; done) | (simp; omega) | omega)) | apply hb3))))
  · first
    | exact fun _ _ _ => rfl
  · rfl
  dsimp only [List.nil_append, List.cons_append]
  apply RGW.on (i := 12) rfl
  · (simp only [List.getElem?_toArray, List.getElem?_cons_succ, List.getElem?_cons_zero] <;> rfl)
  · intro γ u W hcur hd
    obtain ⟨⟨h5, -, -⟩, ⟨h11, -, -⟩, -⟩ := hd
    dsimp only at h5 h11
    (try simp only [h5, h11])
    refine ⟨rfl, ?_⟩
    go_simp <;> (try go_bits) <;> with_reducible rfl
  · first
    | exact fun _ _ _ => rfl
  · rfl
  dsimp only [List.nil_append, List.cons_append]
  refine RGW.skip (i := 13) rfl rfl ?_
  dsimp only [List.nil_append, List.cons_append]
  refine RGW.fin (fun γ u wb hwb hd hdis => ?_)
  obtain ⟨⟨h0, -, -⟩, ⟨h1, -, -⟩, ⟨h2, -, -⟩, ⟨h3, -, -⟩, ⟨h4, -, -⟩, ⟨h5, -, -⟩, ⟨h6, -, -⟩, ⟨h7, -, -⟩, ⟨h8, -, -⟩, ⟨h9, -, -⟩, ⟨h10, -, -⟩, ⟨h11, -, -⟩, ⟨h12, -, -⟩, -⟩ := hd
  dsimp only at h0 h1 h2 h3 h4 h5 h6 h7 h8 h9 h10 h11 h12
  clear hdis
  simp only [h0, h1, h2, h3, h4, h5, h6, h7, h8, h9, h10, h11, h12]
  clear h12 h11 h10 h9 h8 h7 h6 h5 h4 h3 h2 h1 h0
  clear u
  simp only [List.map_cons, List.map_nil]
  apply PlanW.step
  · (simp only [List.getElem?_toArray, List.getElem?_cons_succ, List.getElem?_cons_zero] <;> rfl)
  · rfl
  intro K hK
  first
  | (refine wp_store_keep (X := [w.heap.size + 2]) (w0 := wb) rfl rfl rfl (by with_reducible first | exact bx_refl _ _ | assumption) (by with_reducible first | assumption | (apply Blk.below (hb := hwb); assumption)) (by simp) (by kernel_rfl) (by rfl) (by simp [Value.oneCell']) (fun hres1 hcur => ?_); refine hK.out _ _ hcur (fun _ => ?_))
  | (go_simp; refine hK.out _ _ (by (with_reducible (repeat' (first | assumption | apply bx_refl | (apply bx_set; case hp => (first | exact Or.inl (by simp; done) | exact Or.inr (by first | (simp; done) | (simp; omega) | (dsimp only; omega)))) | apply bx_drew | apply bx_al | apply bx_drewN | apply hb3x)))) (fun hcur => ?_))
  | (obtain ⟨u0, v0, z0⟩ := bx_cell0 hcur (Blk.below k0 hwb) (by simp); go_simp; refine hK.out _ _ (by (with_reducible (repeat' (first | assumption | apply bx_refl | (apply bx_set; case hp => (first | exact Or.inl (by simp; done) | exact Or.inr (by first | (simp; done) | (simp; omega) | (dsimp only; omega)))) | apply bx_drew | apply bx_al | apply bx_drewN | apply hb3x)))) (fun hcur => ?_))
  | (obtain ⟨u0, v0, z0⟩ := bx_cell0 hcur (Blk.below k1 hwb) (by simp); go_simp; refine hK.out _ _ (by (with_reducible (repeat' (first | assumption | apply bx_refl | (apply bx_set; case hp => (first | exact Or.inl (by simp; done) | exact Or.inr (by first | (simp; done) | (simp; omega) | (dsimp only; omega)))) | apply bx_drew | apply bx_al | apply bx_drewN | apply hb3x)))) (fun hcur => ?_))
  | (obtain ⟨u0, v0, z0⟩ := bx_cell0 hcur (Blk.below k2 hwb) (by simp); go_simp; refine hK.out _ _ (by (with_reducible (repeat' (first | assumption | apply bx_refl | (apply bx_set; case hp => (first | exact Or.inl (by simp; done) | exact Or.inr (by first | (simp; done) | (simp; omega) | (dsimp only; omega)))) | apply bx_drew | apply bx_al | apply bx_drewN | apply hb3x)))) (fun hcur => ?_))
  clear hK K
  try simp only [Act.put, List.setIfInBounds_toArray, List.set_cons_zero, List.set_cons_succ]
  refine PlanW.done ?_
  have hb3 := bl_tt hwb
  go_wp2
  first
  | apply absPB3 (w0 := w) (g0 := w.heap.size) (g1 := w.heap.size + 1) (g2 := w.heap.size + 2)
  | apply absPMB3 (w0 := w) (g0 := w.heap.size) (g1 := w.heap.size + 1) (g2 := w.heap.size + 2)
  iterate 4 (focus ((with_reducible (repeat' (first | assumption | apply bl_refl | apply bl_al | apply bl_drew | apply bl_drewN | (apply bl_set; case hp => (first | (simp; done) | (simp; omega) | (dsimp only; omega))) | (apply bl_row; case hg => (first | (simp; done) | (simp; omega) | omega)) | apply hb3 | apply bx_refl | (apply bx_set; case hp => (first | exact Or.inl (by simp; done) | exact Or.inr (by first | (simp; done) | (simp; omega) | (dsimp only; omega)))) | apply bx_drew | apply bx_al | apply bx_drewN | apply hb3x | (apply Blk.newAt; first | (simp; done) | rfl) | apply Blk.alloc | apply Blk.drew | apply Blk.drewN | apply Blk.set | (apply Blk.other; case hne => first | assumption | (simp; done) | (simp; omega) | omega) | apply Blk.row | (apply Blk.rowOther; case hne => first | assumption | (simp; done) | (simp; omega) | omega) | apply Blk.below (hb := hb3 _ (bl_refl _))))); done))
  intro wf hb0' k0' k1' k2'
  (try simp only [List.setIfInBounds_toArray, List.set_cons_zero, List.set_cons_succ] at k0' k1' k2')
  try clear hb3
  try clear Lk0
  try clear Fk0
  try clear Qk0
  try clear Lk1
  try clear Fk1
  try clear Qk1
  try clear Lk2
  try clear Fk2
  try clear Qk2
  try clear hb0
  try clear k0
  try clear k1
  try clear k2
  have hb0 := hb0'; clear hb0'
  have k0 := k0'; clear k0'
  have k1 := k1'; clear k1'
  have k2 := k2'; clear k2'
  have hr := k2.cell
  refine bodyPost_ret (v := vRg (depth p d)) (by simp [results, Try.results19, go_sem, hr, depth]; exact e.out) rfl ⟨rfl, hb0⟩
set_option maxHeartbeats 1000000 in
theorem r_DepthErr (p d : Rg) (w : World) : Calls Try.prog 18 #[vRg p, vRg d] w (Ret (.int .i64 (depthErr p d)) w) := by
  have hr : Hid (depthErr p d = fstE [unl ((inR p.lo 0 1000000 && inR p.hi 0 1000000) && (inR d.lo 1 2000 && inR d.hi 1 2000)) 2, unl (decide (p.lo ≤ p.hi) && decide (d.lo ≤ d.hi)) 9]) := rfl
  obtain ⟨b1, h1⟩ : ∃ b', inR p.lo 0 1000000 = b' := ⟨_, rfl⟩
  obtain ⟨b2, h2⟩ : ∃ b', inR p.hi 0 1000000 = b' := ⟨_, rfl⟩
  obtain ⟨b3, h3⟩ : ∃ b', inR d.lo 1 2000 = b' := ⟨_, rfl⟩
  obtain ⟨b4, h4⟩ : ∃ b', inR d.hi 1 2000 = b' := ⟨_, rfl⟩
  have hc1 := Lib.hid fun W : World => h1 ▸ r_Within p.lo 0 1000000 W
  have hc2 := Lib.hid fun W : World => h2 ▸ r_Within p.hi 0 1000000 W
  have hc3 := Lib.hid fun W : World => h3 ▸ r_Within d.lo 1 2000 W
  have hc4 := Lib.hid fun W : World => h4 ▸ r_Within d.hi 1 2000 W
  rw [h1, h2, h3, h4] at hr
  clear h1 h2 h3 h4
  have e1 : decide (p.hi < p.lo) = !decide (p.lo ≤ p.hi) := by by_cases h : p.lo ≤ p.hi <;> simp [h] <;> omega
  have e2 : decide (d.hi < d.lo) = !decide (d.lo ≤ d.hi) := by by_cases h : d.lo ≤ d.hi <;> simp [h] <;> omega
  cases hB : decide (p.lo ≤ p.hi)
  all_goals cases hC : decide (d.lo ≤ d.hi)
  all_goals
    rw [hB, hC] at hr
    rw [hB] at e1
    rw [hC] at e2
    simp only [Bool.not_true, Bool.not_false] at e1 e2
    clear hB hC
    cases b1
    all_goals cases b2
    all_goals cases b3
    all_goals cases b4
    all_goals
      replace hr : Hid (depthErr p d = _) := Lib.hid hr.out
      simp [fstE, unl] at hr
      go_enter Try.func18, Try.ntmps18
      go_wp2_with (go_at_call 47; (first | (with_reducible refine (hc1.out _).mono ?_) | (with_reducible refine (hc2.out _).mono ?_) | (with_reducible refine (hc3.out _).mono ?_) | (with_reducible refine (hc4.out _).mono ?_)); rintro e w3 ⟨rfl, rfl⟩)
      go_ret
      exact ⟨by rw [hr.out] <;> rfl, by (with_reducible (repeat' (first | assumption | apply bl_refl | apply bl_al | apply bl_drew | apply bl_drewN | (apply bl_set; case hp => (first | (simp; done) | (simp; omega) | (dsimp only; omega))) | (apply bl_row; case hg => (first | (simp; done) | (simp; omega) | omega)) | apply hb3)))⟩
end Go.Proofs.Ytephimmamkafoaa
