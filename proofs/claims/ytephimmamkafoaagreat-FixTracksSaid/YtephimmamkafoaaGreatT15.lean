/-
  Walks: the reference's error of a move, boxes carried and carried back, squares.
-/
import Derived.Test.YtephimmamkafoaaGreatT14
import Derived.Test.YtephimmamkafoaaGreatT6
set_option linter.unusedSimpArgs false
set_option linter.unusedVariables false
namespace Go.Proofs.YtephimmamkafoaaGreat
open Go.RowKit Go.Shelf
attribute [local go_sem] bl_al bl_drew bl_drewN bl_refl bx_al bx_drew bx_drewN bx_refl index_b0 index_b1 index_b2 index_p0 index_p1 index_p2
set_option maxRecDepth 20000
set_option maxHeartbeats 4000000 in
theorem r_MoveErr (m : Mv) (w : World) : Calls Tryz.prog 55 #[vMv m] w (Ret (.int .i64 (mvErr m)) w) := by
  have hr0 : mvErr m = fstE [unl (inR m.ticks 0 1000 && ((inR m.speed.x.lo (-100) 100 && inR m.speed.x.hi (-100) 100) && (inR m.speed.y.lo (-100) 100 && inR m.speed.y.hi (-100) 100) && (inR m.speed.z.lo (-100) 100 && inR m.speed.z.hi (-100) 100))) 2, unl m.speed.ordered 9] := by
    unfold mvErr Bx.sized Bx.sides szd
    simp only [List.any_cons, List.any_nil, Bool.or_false, Bool.not_or, Bool.not_not, Bool.and_assoc]
  obtain ⟨bt, ht⟩ : ∃ b', inR m.ticks 0 1000 = b' := ⟨_, rfl⟩
  have hct := Lib.hid fun W : World => ht ▸ r_Within m.ticks 0 1000 W
  rw [ht] at hr0
  clear ht
  obtain ⟨bxlo, h⟩ : ∃ b', inR m.speed.x.lo (-100) 100 = b' := ⟨_, rfl⟩
  have hcxlo := Lib.hid fun W : World => h ▸ r_Within m.speed.x.lo (-100) 100 W
  rw [h] at hr0
  clear h
  obtain ⟨bxhi, h⟩ : ∃ b', inR m.speed.x.hi (-100) 100 = b' := ⟨_, rfl⟩
  have hcxhi := Lib.hid fun W : World => h ▸ r_Within m.speed.x.hi (-100) 100 W
  rw [h] at hr0
  clear h
  obtain ⟨bylo, h⟩ : ∃ b', inR m.speed.y.lo (-100) 100 = b' := ⟨_, rfl⟩
  have hcylo := Lib.hid fun W : World => h ▸ r_Within m.speed.y.lo (-100) 100 W
  rw [h] at hr0
  clear h
  obtain ⟨byhi, h⟩ : ∃ b', inR m.speed.y.hi (-100) 100 = b' := ⟨_, rfl⟩
  have hcyhi := Lib.hid fun W : World => h ▸ r_Within m.speed.y.hi (-100) 100 W
  rw [h] at hr0
  clear h
  obtain ⟨bzlo, h⟩ : ∃ b', inR m.speed.z.lo (-100) 100 = b' := ⟨_, rfl⟩
  have hczlo := Lib.hid fun W : World => h ▸ r_Within m.speed.z.lo (-100) 100 W
  rw [h] at hr0
  clear h
  obtain ⟨bzhi, h⟩ : ∃ b', inR m.speed.z.hi (-100) 100 = b' := ⟨_, rfl⟩
  have hczhi := Lib.hid fun W : World => h ▸ r_Within m.speed.z.hi (-100) 100 W
  rw [h] at hr0
  clear h
  obtain ⟨bo, ho⟩ : ∃ b', m.speed.ordered = b' := ⟨_, rfl⟩
  have hco := Lib.hid fun W : World => ho ▸ r_IsEmpty m.speed W
  rw [ho] at hr0
  clear ho
  replace hr0 := Lib.hid hr0
  go_enter Tryz.func55, Tryz.ntmps55
  go_upto_region 1 with fail
  apply absB1 (w0 := w) (g0 := w.heap.size)
  iterate 2 (focus ((with_reducible (repeat' (first | assumption | apply jA | apply jB | apply jC | apply jD | apply jE | apply jF | apply hb3 | apply jG | apply jH | apply jI | apply jJ | apply jK | apply hb3x | (apply jL; first | (simp; done) | rfl) | apply jM | apply jN | apply jO | apply jP | apply jQ | apply jR | apply jS | apply jT (hb := hb3 _ (jA _)) | omega | (simp; done) | (simp; omega) | (dsimp only; omega)))); done))
  intro wz hb0' k0'
  (try simp only [List.setIfInBounds_toArray, List.set_cons_zero, List.set_cons_succ] at k0')
  try clear hb3
  try clear hb0
  try clear k0
  have hb0 := hb0'; clear hb0'
  have k0 := k0'; clear k0'
  have Lk0 := k0.later
  have Fk0 := k0.laterF
  have Qk0 := k0.lt
  cases bt
  · go_wp2_with (go_at_call 78; (first | (with_reducible refine (hct.out _).mono ?_) | (with_reducible refine (hcxlo.out _).mono ?_) | (with_reducible refine (hcxhi.out _).mono ?_) | (with_reducible refine (hcylo.out _).mono ?_) | (with_reducible refine (hcyhi.out _).mono ?_) | (with_reducible refine (hczlo.out _).mono ?_) | (with_reducible refine (hczhi.out _).mono ?_)); rintro e w3 ⟨rfl, rfl⟩)
    go_ret
    exact ⟨by rw [hr0.out] <;> rfl, hb0⟩
  go_upto_region 4 with (first | (go_at_call 78; (first | (with_reducible refine (hct.out _).mono ?_) | (with_reducible refine (hcxlo.out _).mono ?_) | (with_reducible refine (hcxhi.out _).mono ?_) | (with_reducible refine (hcylo.out _).mono ?_) | (with_reducible refine (hcyhi.out _).mono ?_) | (with_reducible refine (hczlo.out _).mono ?_) | (with_reducible refine (hczhi.out _).mono ?_)); rintro e w3 ⟨rfl, rfl⟩) | (go_at_call 77; (with_reducible refine (r_Sides m.speed _).mono ?_); rintro e w3 ⟨rfl, hb3⟩; replace hb3 := bl_tt hb3))
  apply absB2 (w0 := w) (g0 := w.heap.size) (g1 := w3.heap.size)
  iterate 3 (focus ((with_reducible (repeat' (first | assumption | apply jA | apply jB | apply jC | apply jD | apply jE | apply jF | apply hb3 | apply jG | apply jH | apply jI | apply jJ | apply jK | apply hb3x | (apply jL; first | (simp; done) | rfl) | apply jM | apply jN | apply jO | apply jP | apply jQ | apply jR | apply jS | apply jT (hb := hb3 _ (jA _)) | omega | (simp; done) | (simp; omega) | (dsimp only; omega)))); done))
  intro wa hb0' k0' k1'
  (try simp only [List.setIfInBounds_toArray, List.set_cons_zero, List.set_cons_succ] at k0' k1')
  try clear hb3
  try clear Lk0
  try clear Fk0
  try clear Qk0
  try clear hb0
  try clear k0
  try clear k1
  have hb0 := hb0'; clear hb0'
  have k0 := k0'; clear k0'
  have k1 := k1'; clear k1'
  have Lk0 := k0.later
  have Fk0 := k0.laterF
  have Qk0 := k0.lt
  have Lk1 := k1.later
  have Fk1 := k1.laterF
  have Qk1 := k1.lt
  go_wp2
  refine wp_loop_rounds 4 ?_
  rw [rounds_succ]
  cases bxlo
  · go_wp2_with (go_at_call 78; (first | (with_reducible refine (hct.out _).mono ?_) | (with_reducible refine (hcxlo.out _).mono ?_) | (with_reducible refine (hcxhi.out _).mono ?_) | (with_reducible refine (hcylo.out _).mono ?_) | (with_reducible refine (hcyhi.out _).mono ?_) | (with_reducible refine (hczlo.out _).mono ?_) | (with_reducible refine (hczhi.out _).mono ?_)); rintro e w3 ⟨rfl, rfl⟩)
    go_ret
    exact ⟨by rw [hr0.out] <;> rfl, hb0⟩
  cases bxhi
  · go_wp2_with (go_at_call 78; (first | (with_reducible refine (hct.out _).mono ?_) | (with_reducible refine (hcxlo.out _).mono ?_) | (with_reducible refine (hcxhi.out _).mono ?_) | (with_reducible refine (hcylo.out _).mono ?_) | (with_reducible refine (hcyhi.out _).mono ?_) | (with_reducible refine (hczlo.out _).mono ?_) | (with_reducible refine (hczhi.out _).mono ?_)); rintro e w3 ⟨rfl, rfl⟩)
    go_ret
    exact ⟨by rw [hr0.out] <;> rfl, hb0⟩
  go_wp2_with (go_at_call 78; (first | (with_reducible refine (hct.out _).mono ?_) | (with_reducible refine (hcxlo.out _).mono ?_) | (with_reducible refine (hcxhi.out _).mono ?_) | (with_reducible refine (hcylo.out _).mono ?_) | (with_reducible refine (hcyhi.out _).mono ?_) | (with_reducible refine (hczlo.out _).mono ?_) | (with_reducible refine (hczhi.out _).mono ?_)); rintro e w3 ⟨rfl, rfl⟩)
  rw [rounds_succ]
  cases bylo
  · go_wp2_with (go_at_call 78; (first | (with_reducible refine (hct.out _).mono ?_) | (with_reducible refine (hcxlo.out _).mono ?_) | (with_reducible refine (hcxhi.out _).mono ?_) | (with_reducible refine (hcylo.out _).mono ?_) | (with_reducible refine (hcyhi.out _).mono ?_) | (with_reducible refine (hczlo.out _).mono ?_) | (with_reducible refine (hczhi.out _).mono ?_)); rintro e w3 ⟨rfl, rfl⟩)
    go_ret
    exact ⟨by rw [hr0.out] <;> rfl, hb0⟩
  cases byhi
  · go_wp2_with (go_at_call 78; (first | (with_reducible refine (hct.out _).mono ?_) | (with_reducible refine (hcxlo.out _).mono ?_) | (with_reducible refine (hcxhi.out _).mono ?_) | (with_reducible refine (hcylo.out _).mono ?_) | (with_reducible refine (hcyhi.out _).mono ?_) | (with_reducible refine (hczlo.out _).mono ?_) | (with_reducible refine (hczhi.out _).mono ?_)); rintro e w3 ⟨rfl, rfl⟩)
    go_ret
    exact ⟨by rw [hr0.out] <;> rfl, hb0⟩
  go_wp2_with (go_at_call 78; (first | (with_reducible refine (hct.out _).mono ?_) | (with_reducible refine (hcxlo.out _).mono ?_) | (with_reducible refine (hcxhi.out _).mono ?_) | (with_reducible refine (hcylo.out _).mono ?_) | (with_reducible refine (hcyhi.out _).mono ?_) | (with_reducible refine (hczlo.out _).mono ?_) | (with_reducible refine (hczhi.out _).mono ?_)); rintro e w3 ⟨rfl, rfl⟩)
  rw [rounds_succ]
  cases bzlo
  · go_wp2_with (go_at_call 78; (first | (with_reducible refine (hct.out _).mono ?_) | (with_reducible refine (hcxlo.out _).mono ?_) | (with_reducible refine (hcxhi.out _).mono ?_) | (with_reducible refine (hcylo.out _).mono ?_) | (with_reducible refine (hcyhi.out _).mono ?_) | (with_reducible refine (hczlo.out _).mono ?_) | (with_reducible refine (hczhi.out _).mono ?_)); rintro e w3 ⟨rfl, rfl⟩)
    go_ret
    exact ⟨by rw [hr0.out] <;> rfl, hb0⟩
  cases bzhi
  · go_wp2_with (go_at_call 78; (first | (with_reducible refine (hct.out _).mono ?_) | (with_reducible refine (hcxlo.out _).mono ?_) | (with_reducible refine (hcxhi.out _).mono ?_) | (with_reducible refine (hcylo.out _).mono ?_) | (with_reducible refine (hcyhi.out _).mono ?_) | (with_reducible refine (hczlo.out _).mono ?_) | (with_reducible refine (hczhi.out _).mono ?_)); rintro e w3 ⟨rfl, rfl⟩)
    go_ret
    exact ⟨by rw [hr0.out] <;> rfl, hb0⟩
  go_wp2_with (go_at_call 78; (first | (with_reducible refine (hct.out _).mono ?_) | (with_reducible refine (hcxlo.out _).mono ?_) | (with_reducible refine (hcxhi.out _).mono ?_) | (with_reducible refine (hcylo.out _).mono ?_) | (with_reducible refine (hcyhi.out _).mono ?_) | (with_reducible refine (hczlo.out _).mono ?_) | (with_reducible refine (hczhi.out _).mono ?_)); rintro e w3 ⟨rfl, rfl⟩)
  rw [rounds_succ]
  cases bo
  all_goals
    go_wp2_with (go_at_call 29; (with_reducible refine (hco.out _).mono ?_); rintro e w3 ⟨rfl, hb3⟩)
    go_ret
    exact ⟨by rw [hr0.out] <;> rfl, bl_tr hb0 hb3⟩
set_option maxHeartbeats 4000000 in
theorem r_Carried (wd a : Bx) (m : Mv) (s : Value) (w : World) (ha : a.in 10000) (hm : m.ok) : Calls Tryz.prog 43 #[vNt wd s, vBx a, vMv m] w (Ret (vBx (carried wd a m)) w) := by
  obtain ⟨⟨x1, x2, x3, x4⟩, ⟨y1, y2, y3, y4⟩, ⟨z1, z2, z3, z4⟩⟩ := ha
  obtain ⟨h1, h2, ⟨u1, u2, u3, u4⟩, ⟨v1, v2, v3, v4⟩, ⟨w1, w2, w3, w4⟩⟩ := hm
  have bxl := tv_bd h1 h2 u1 u2
  have bxh := tv_bd h1 h2 u3 u4
  have byl := tv_bd h1 h2 v1 v2
  have byh := tv_bd h1 h2 v3 v4
  have bzl := tv_bd h1 h2 w1 w2
  have bzh := tv_bd h1 h2 w3 w4
  have he : Hid (Bx.meet ⟨⟨a.x.lo + m.ticks * m.speed.x.lo, a.x.hi + m.ticks * m.speed.x.hi⟩, ⟨a.y.lo + m.ticks * m.speed.y.lo, a.y.hi + m.ticks * m.speed.y.hi⟩, ⟨a.z.lo + m.ticks * m.speed.z.lo, a.z.hi + m.ticks * m.speed.z.hi⟩⟩ wd = carried wd a m) := by
    refine Lib.hid ?_
    simp only [carried, back, Bx.carry, Rg.carry, Mv.neg, Rg.neg, Int.mul_neg, Int.sub_eq_add_neg]
  go_enter Tryz.func43, Tryz.ntmps43
  go_wp2
  apply absB4 (w0 := w) (g0 := w.heap.size) (g1 := w.heap.size + 1) (g2 := w.heap.size + 2) (g3 := w.heap.size + 3)
  iterate 5 (focus ((with_reducible (repeat' (first | assumption | apply jA | apply jB | apply jC | apply jD | apply jE | apply jF | apply hb3 | apply jG | apply jH | apply jI | apply jJ | apply jK | apply hb3x | (apply jL; first | (simp; done) | rfl) | apply jM | apply jN | apply jO | apply jP | apply jQ | apply jR | apply jS | apply jT (hb := hb3 _ (jA _)) | omega | (simp; done) | (simp; omega) | (dsimp only; omega)))); done))
  intro wa hb0' k0' k1' k2' k3'
  (try simp only [List.setIfInBounds_toArray, List.set_cons_zero, List.set_cons_succ] at k0' k1' k2' k3')
  try clear hb3
  try clear hb0
  try clear k0
  try clear k1
  try clear k2
  try clear k3
  have hb0 := hb0'; clear hb0'
  have k0 := k0'; clear k0'
  have k1 := k1'; clear k1'
  have k2 := k2'; clear k2'
  have k3 := k3'; clear k3'
  have Lk0 := k0.later
  have Fk0 := k0.laterF
  have Qk0 := k0.lt
  have Lk1 := k1.later
  have Fk1 := k1.laterF
  have Qk1 := k1.lt
  have Lk2 := k2.later
  have Fk2 := k2.laterF
  have Qk2 := k2.lt
  have Lk3 := k3.later
  have Fk3 := k3.laterF
  have Qk3 := k3.lt
  have hz := k3.lt
  refine wp_any (w0 := wa) ⟨[7, 8], [], [some 10, some 11, some 12, some 13, some 14, some 7, some 8, none, none], [[], [0], [], [2], [0, 1, 2, 3], [], [], [0, 1, 2, 3, 4, 5, 6], [0, 1, 2, 3, 4, 5, 6, 7]], [[], [0], [], [2], [3], [], [], [], []]⟩ (fun γ => [(γ 5).n, (γ 6).n]) (by kernel_rfl) (by kernel_rfl) (by (with_reducible (repeat' (first | assumption | apply jA | apply jB | apply jC | apply jD | apply jE | apply jF | apply hb3 | omega | (simp; done) | (simp; omega) | (dsimp only; omega))))) (fun u => by simp only [putD, Act.put, List.setIfInBounds_toArray, List.set_cons_zero, List.set_cons_succ, Nat.zero_add, Nat.reduceAdd]; rfl) ?_
  apply RGW.on (i := 0) rfl
  · (simp only [gA, gB, gC] <;> rfl)
  · intro γ u W hcur hd
    clear hd
    (try dsimp only)
    refine ⟨rfl, ?_⟩
    go_simp <;> (try go_bits) <;> with_reducible rfl
  · exact fun _ _ _ => rfl
  · rfl
  dsimp only [nA, cA]
  apply RGW.call (i := 1) rfl
  · (simp only [gA, gB, gC] <;> rfl)
  · intro γ u W hcur hd
    obtain ⟨⟨h0, -, -⟩, -⟩ := hd
    dsimp only at h0
    (try simp only [h0])
    refine ⟨rfl, fun K hK => ?_⟩
    go_simp
    (go_at_call 77; (with_reducible refine (r_Sides a _).mono ?_); rintro e w3 ⟨rfl, hb3⟩; replace hb3 := bl_tt hb3)
    (try dsimp only)
    exact hK.out _ _ rfl (by (with_reducible (repeat' (first | assumption | apply jA | apply jB | apply jC | apply jD | apply jE | apply jF | apply hb3 | omega | (simp; done) | (simp; omega) | (dsimp only; omega)))))
  · exact fun _ _ _ => rfl
  · rfl
  dsimp only [nA, cA]
  apply RGW.on (i := 2) rfl
  · (simp only [gA, gB, gC] <;> rfl)
  · intro γ u W hcur hd
    clear hd
    (try dsimp only)
    refine ⟨rfl, ?_⟩
    go_simp <;> (try go_bits) <;> with_reducible rfl
  · exact fun _ _ _ => rfl
  · rfl
  dsimp only [nA, cA]
  apply RGW.on (i := 3) rfl
  · (simp only [gA, gB, gC] <;> rfl)
  · intro γ u W hcur hd
    obtain ⟨⟨h2, -, -⟩, -⟩ := hd
    dsimp only at h2
    (try simp only [h2])
    refine ⟨rfl, ?_⟩
    go_simp <;> (try go_bits) <;> with_reducible rfl
  · exact fun _ _ _ => rfl
  · rfl
  dsimp only [nA, cA]
  apply RGW.call (i := 4) rfl
  · (simp only [gA, gB, gC] <;> rfl)
  · intro γ u W hcur hd
    obtain ⟨⟨h3, -, -⟩, -⟩ := hd
    dsimp only at h3
    (try simp only [h3])
    refine ⟨rfl, fun K hK => ?_⟩
    go_simp
    (go_at_call 77; (with_reducible refine (r_Sides m.speed _).mono ?_); rintro e w3 ⟨rfl, hb3⟩; replace hb3 := bl_tt hb3)
    (try dsimp only)
    exact hK.out _ _ rfl (by (with_reducible (repeat' (first | assumption | apply jA | apply jB | apply jC | apply jD | apply jE | apply jF | apply hb3 | omega | (simp; done) | (simp; omega) | (dsimp only; omega)))))
  · exact fun _ _ _ => rfl
  · rfl
  dsimp only [nA, cA]
  apply RGW.alloc (i := 5) rfl
  · (simp only [gA, gB, gC] <;> rfl)
  · intro γ u W hcur hd
    clear hd
    (try dsimp only)
    refine ⟨rfl, fun K hK => ?_⟩
    go_simp
    exact hK.out _ _ rfl rfl
  · exact fun _ _ _ => rfl
  · rfl
  · rfl
  dsimp only [nA, cA]
  apply RGW.alloc (i := 6) rfl
  · (simp only [gA, gB, gC] <;> rfl)
  · intro γ u W hcur hd
    clear hd
    (try dsimp only)
    refine ⟨rfl, fun K hK => ?_⟩
    go_simp
    exact hK.out _ _ rfl rfl
  · exact fun _ _ _ => rfl
  · rfl
  · rfl
  dsimp only [nA, cA]
  refine RGW.skip (i := 7) rfl rfl ?_
  dsimp only [nA, cA]
  refine RGW.skip (i := 8) rfl rfl ?_
  dsimp only [nA, cA]
  refine RGW.fin (fun γ u wb hwb hd hdis => ?_)
  obtain ⟨⟨h0, -, -⟩, ⟨h1, -, -⟩, ⟨h2, -, -⟩, ⟨h3, -, -⟩, ⟨h4, -, -⟩, ⟨h5, r5, b5⟩, ⟨h6, r6, b6⟩, -⟩ := hd
  dsimp only at h0 h1 h2 h3 h4 h5 h6 r5 r6 b5 b6
  have n5_6 := hdis 5 6 rfl rfl (Nat.lt_of_lt_of_eq (by decide : 5 < 9) (by kernel_rfl)) (Nat.lt_of_lt_of_eq (by decide : 6 < 9) (by kernel_rfl)) (by decide) _ (List.mem_singleton.2 rfl) _ (List.mem_singleton.2 rfl)
  clear hdis
  simp only [h0, h1, h2, h3, h4, h5, h6]
  clear h6 h5 h4 h3 h2 h1 h0
  replace b5 := b5 _ (List.mem_singleton.2 rfl)
  generalize hγ5 : (γ 5).n = g5 at *
  clear hγ5
  replace b6 := b6 _ (List.mem_singleton.2 rfl)
  generalize hγ6 : (γ 6).n = g6 at *
  clear hγ6
  clear u
  simp only [List.map_cons, List.map_nil]
  apply PlanW.step
  · (simp only [gA, gB, gC] <;> rfl)
  · rfl
  intro K hK
  refine wp_store_keep (X := [g5, g6]) (w0 := wb) rfl rfl rfl (by with_reducible first | exact bx_refl _ _ | assumption) (by with_reducible first | assumption | (apply Blk.below (hb := hwb); assumption)) (by simp) (by kernel_rfl) (by rfl) (by simp [Value.oneCell']) (fun hres1 hcur => ?_)
  refine hK.out _ _ hcur (fun _ => ?_)
  clear hK K
  try simp only [Act.put, List.setIfInBounds_toArray, List.set_cons_zero, List.set_cons_succ]
  apply PlanW.step
  · (simp only [gA, gB, gC] <;> rfl)
  · rfl
  intro K hK
  refine wp_store_keep (X := [g5, g6]) (w0 := wb) rfl rfl rfl (by with_reducible first | exact bx_refl _ _ | assumption) (by with_reducible first | assumption | (apply Blk.below (hb := hwb); assumption)) (by simp) (by kernel_rfl) (by rfl) (by simp [Value.oneCell']) (fun hres2 hcur => ?_)
  refine hK.out _ _ hcur (fun _ => ?_)
  clear hK K
  try simp only [Act.put, List.setIfInBounds_toArray, List.set_cons_zero, List.set_cons_succ]
  refine PlanW.done ?_
  have hb3 := bl_tt hwb
  apply absTB6 (w0 := w) (g0 := w.heap.size) (g1 := w.heap.size + 1) (g2 := w.heap.size + 2) (g3 := w.heap.size + 3) (g4 := g5) (g5 := g6)
  iterate 7 (focus ((with_reducible (repeat' (first | assumption | apply jA | apply jB | apply jC | apply jD | apply jE | apply jF | apply hb3 | apply jG | apply jH | apply jI | apply jJ | apply jK | apply hb3x | (apply jL; first | (simp; done) | rfl) | apply jM | apply jN | apply jO | apply jP | apply jQ | apply jR | apply jS | apply jT (hb := hb3 _ (jA _)) | omega | (simp; done) | (simp; omega) | (dsimp only; omega)))); done))
  intro wc hb0' k0' k1' k2' k3' k5' k6'
  (try simp only [List.setIfInBounds_toArray, List.set_cons_zero, List.set_cons_succ] at k0' k1' k2' k3' k5' k6')
  try clear hb3
  try clear Lk0
  try clear Fk0
  try clear Qk0
  try clear Lk1
  try clear Fk1
  try clear Qk1
  try clear Lk2
  try clear Fk2
  try clear Qk2
  try clear Lk3
  try clear Fk3
  try clear Qk3
  try clear hb0
  try clear k0
  try clear k1
  try clear k2
  try clear k3
  try clear k5
  try clear k6
  have hb0 := hb0'; clear hb0'
  have k0 := k0'; clear k0'
  have k1 := k1'; clear k1'
  have k2 := k2'; clear k2'
  have k3 := k3'; clear k3'
  have k5 := k5'; clear k5'
  have k6 := k6'; clear k6'
  have Lk0 := k0.later
  have Fk0 := k0.laterF
  have Qk0 := k0.lt
  have Lk1 := k1.later
  have Fk1 := k1.laterF
  have Qk1 := k1.lt
  have Lk2 := k2.later
  have Fk2 := k2.laterF
  have Qk2 := k2.lt
  have Lk3 := k3.later
  have Fk3 := k3.laterF
  have Qk3 := k3.lt
  have Lk5 := k5.later
  have Fk5 := k5.laterF
  have Qk5 := k5.lt
  have Lk6 := k6.later
  have Fk6 := k6.laterF
  have Qk6 := k6.lt
  have n50 : g5 ≠ w.heap.size + 3 := by omega
  have n60 : g6 ≠ w.heap.size + 3 := by omega
  go_wp2
  refine wp_loop_rounds 4 ?_
  rw [rounds_succ]
  go_wp2
  refine wp_tailC (C := fun W => Below wc.heap.size wc W) 27 (by kernel_rfl) (by kernel_rfl) (by (with_reducible (repeat' (first | assumption | apply jA | apply jB | apply jC | apply jD | apply jE | apply jF | apply hb3 | omega | (simp; done) | (simp; omega) | (dsimp only; omega))))) (fun wd' hw => ?_)
  simp only [List.take_succ_cons, List.take_zero, List.drop_succ_cons, List.drop_zero]
  repeat still_step
  refine wpStill_nil ?_
  go_wp2
  have hb3 := bl_tt hw
  clear hw
  apply absRB6 (w0 := w) (g0 := w.heap.size) (g1 := w.heap.size + 1) (g2 := w.heap.size + 2) (g3 := w.heap.size + 3) (g4 := g5) (g5 := g6)
  iterate 7 (focus ((with_reducible (repeat' (first | assumption | apply jA | apply jB | apply jC | apply jD | apply jE | apply jF | apply hb3 | apply jG | apply jH | apply jI | apply jJ | apply jK | apply hb3x | (apply jL; first | (simp; done) | rfl) | apply jM | apply jN | apply jO | apply jP | apply jQ | apply jR | apply jS | apply jT (hb := hb3 _ (jA _)) | omega | (simp; done) | (simp; omega) | (dsimp only; omega)))); done))
  intro wc hb0' k0' k1' k2' k3' k5' k6'
  (try simp only [List.setIfInBounds_toArray, List.set_cons_zero, List.set_cons_succ] at k0' k1' k2' k3' k5' k6')
  try clear hb3
  try clear Lk0
  try clear Fk0
  try clear Qk0
  try clear Lk1
  try clear Fk1
  try clear Qk1
  try clear Lk2
  try clear Fk2
  try clear Qk2
  try clear Lk3
  try clear Fk3
  try clear Qk3
  try clear Lk5
  try clear Fk5
  try clear Qk5
  try clear Lk6
  try clear Fk6
  try clear Qk6
  try clear hb0
  try clear k0
  try clear k1
  try clear k2
  try clear k3
  try clear k5
  try clear k6
  have hb0 := hb0'; clear hb0'
  have k0 := k0'; clear k0'
  have k1 := k1'; clear k1'
  have k2 := k2'; clear k2'
  have k3 := k3'; clear k3'
  have k5 := k5'; clear k5'
  have k6 := k6'; clear k6'
  have Lk0 := k0.later
  have Fk0 := k0.laterF
  have Qk0 := k0.lt
  have Lk1 := k1.later
  have Fk1 := k1.laterF
  have Qk1 := k1.lt
  have Lk2 := k2.later
  have Fk2 := k2.laterF
  have Qk2 := k2.lt
  have Lk3 := k3.later
  have Fk3 := k3.laterF
  have Qk3 := k3.lt
  have Lk5 := k5.later
  have Fk5 := k5.laterF
  have Qk5 := k5.lt
  have Lk6 := k6.later
  have Fk6 := k6.laterF
  have Qk6 := k6.lt
  rw [rounds_succ]
  go_wp2
  refine wp_tailC (C := fun W => Below wc.heap.size wc W) 27 (by kernel_rfl) (by kernel_rfl) (by (with_reducible (repeat' (first | assumption | apply jA | apply jB | apply jC | apply jD | apply jE | apply jF | apply hb3 | omega | (simp; done) | (simp; omega) | (dsimp only; omega))))) (fun wd' hw => ?_)
  simp only [List.take_succ_cons, List.take_zero, List.drop_succ_cons, List.drop_zero]
  repeat still_step
  refine wpStill_nil ?_
  go_wp2
  have hb3 := bl_tt hw
  clear hw
  apply absRB6 (w0 := w) (g0 := w.heap.size) (g1 := w.heap.size + 1) (g2 := w.heap.size + 2) (g3 := w.heap.size + 3) (g4 := g5) (g5 := g6)
  iterate 7 (focus ((with_reducible (repeat' (first | assumption | apply jA | apply jB | apply jC | apply jD | apply jE | apply jF | apply hb3 | apply jG | apply jH | apply jI | apply jJ | apply jK | apply hb3x | (apply jL; first | (simp; done) | rfl) | apply jM | apply jN | apply jO | apply jP | apply jQ | apply jR | apply jS | apply jT (hb := hb3 _ (jA _)) | omega | (simp; done) | (simp; omega) | (dsimp only; omega)))); done))
  intro wc hb0' k0' k1' k2' k3' k5' k6'
  (try simp only [List.setIfInBounds_toArray, List.set_cons_zero, List.set_cons_succ] at k0' k1' k2' k3' k5' k6')
  try clear hb3
  try clear Lk0
  try clear Fk0
  try clear Qk0
  try clear Lk1
  try clear Fk1
  try clear Qk1
  try clear Lk2
  try clear Fk2
  try clear Qk2
  try clear Lk3
  try clear Fk3
  try clear Qk3
  try clear Lk5
  try clear Fk5
  try clear Qk5
  try clear Lk6
  try clear Fk6
  try clear Qk6
  try clear hb0
  try clear k0
  try clear k1
  try clear k2
  try clear k3
  try clear k5
  try clear k6
  have hb0 := hb0'; clear hb0'
  have k0 := k0'; clear k0'
  have k1 := k1'; clear k1'
  have k2 := k2'; clear k2'
  have k3 := k3'; clear k3'
  have k5 := k5'; clear k5'
  have k6 := k6'; clear k6'
  have Lk0 := k0.later
  have Fk0 := k0.laterF
  have Qk0 := k0.lt
  have Lk1 := k1.later
  have Fk1 := k1.laterF
  have Qk1 := k1.lt
  have Lk2 := k2.later
  have Fk2 := k2.laterF
  have Qk2 := k2.lt
  have Lk3 := k3.later
  have Fk3 := k3.laterF
  have Qk3 := k3.lt
  have Lk5 := k5.later
  have Fk5 := k5.laterF
  have Qk5 := k5.lt
  have Lk6 := k6.later
  have Fk6 := k6.laterF
  have Qk6 := k6.lt
  rw [rounds_succ]
  go_wp2
  refine wp_tailC (C := fun W => Below wc.heap.size wc W) 27 (by kernel_rfl) (by kernel_rfl) (by (with_reducible (repeat' (first | assumption | apply jA | apply jB | apply jC | apply jD | apply jE | apply jF | apply hb3 | omega | (simp; done) | (simp; omega) | (dsimp only; omega))))) (fun wd' hw => ?_)
  simp only [List.take_succ_cons, List.take_zero, List.drop_succ_cons, List.drop_zero]
  repeat still_step
  refine wpStill_nil ?_
  go_wp2
  have hb3 := bl_tt hw
  clear hw
  apply absRB6 (w0 := w) (g0 := w.heap.size) (g1 := w.heap.size + 1) (g2 := w.heap.size + 2) (g3 := w.heap.size + 3) (g4 := g5) (g5 := g6)
  iterate 7 (focus ((with_reducible (repeat' (first | assumption | apply jA | apply jB | apply jC | apply jD | apply jE | apply jF | apply hb3 | apply jG | apply jH | apply jI | apply jJ | apply jK | apply hb3x | (apply jL; first | (simp; done) | rfl) | apply jM | apply jN | apply jO | apply jP | apply jQ | apply jR | apply jS | apply jT (hb := hb3 _ (jA _)) | omega | (simp; done) | (simp; omega) | (dsimp only; omega)))); done))
  intro wc hb0' k0' k1' k2' k3' k5' k6'
  (try simp only [List.setIfInBounds_toArray, List.set_cons_zero, List.set_cons_succ] at k0' k1' k2' k3' k5' k6')
  try clear hb3
  try clear Lk0
  try clear Fk0
  try clear Qk0
  try clear Lk1
  try clear Fk1
  try clear Qk1
  try clear Lk2
  try clear Fk2
  try clear Qk2
  try clear Lk3
  try clear Fk3
  try clear Qk3
  try clear Lk5
  try clear Fk5
  try clear Qk5
  try clear Lk6
  try clear Fk6
  try clear Qk6
  try clear hb0
  try clear k0
  try clear k1
  try clear k2
  try clear k3
  try clear k5
  try clear k6
  have hb0 := hb0'; clear hb0'
  have k0 := k0'; clear k0'
  have k1 := k1'; clear k1'
  have k2 := k2'; clear k2'
  have k3 := k3'; clear k3'
  have k5 := k5'; clear k5'
  have k6 := k6'; clear k6'
  have Lk0 := k0.later
  have Fk0 := k0.laterF
  have Qk0 := k0.lt
  have Lk1 := k1.later
  have Fk1 := k1.laterF
  have Qk1 := k1.lt
  have Lk2 := k2.later
  have Fk2 := k2.laterF
  have Qk2 := k2.lt
  have Lk3 := k3.later
  have Fk3 := k3.laterF
  have Qk3 := k3.lt
  have Lk5 := k5.later
  have Fk5 := k5.laterF
  have Qk5 := k5.lt
  have Lk6 := k6.later
  have Fk6 := k6.laterF
  have Qk6 := k6.lt
  rw [rounds_succ]
  go_wp2_with fail
  refine wp_any (w0 := wc) ⟨[5], [], [some 46, some 47, some 48, some 49, some 50, none], [[], [0], [], [2], [0, 1, 2, 3], [0, 1, 2, 3, 4]], [[], [0], [], [2], [1, 3], []]⟩ (fun _ => [w.heap.size + 3]) (by kernel_rfl) (by kernel_rfl) (by (with_reducible (repeat' (first | assumption | apply jA | apply jB | apply jC | apply jD | apply jE | apply jF | apply hb3 | omega | (simp; done) | (simp; omega) | (dsimp only; omega))))) (fun u => by simp only [putD, Act.put, List.setIfInBounds_toArray, List.set_cons_zero, List.set_cons_succ, Nat.zero_add, Nat.reduceAdd]; rfl) ?_
  apply RGW.on (i := 0) rfl
  · (simp only [gA, gB, gC] <;> rfl)
  · intro γ u W hcur hd
    clear hd
    (try dsimp only)
    refine ⟨rfl, ?_⟩
    go_simp <;> (try go_bits) <;> with_reducible rfl
  · exact fun _ _ _ => rfl
  · rfl
  dsimp only [nA, cA]
  apply RGW.call (i := 1) rfl
  · (simp only [gA, gB, gC] <;> rfl)
  · intro γ u W hcur hd
    obtain ⟨⟨h0, -, -⟩, -⟩ := hd
    dsimp only at h0
    (try simp only [h0])
    refine ⟨rfl, fun K hK => ?_⟩
    go_simp
    (go_at_call 80; (with_reducible refine (r_box ⟨⟨a.x.lo + m.ticks * m.speed.x.lo, a.x.hi + m.ticks * m.speed.x.hi⟩, ⟨a.y.lo + m.ticks * m.speed.y.lo, a.y.hi + m.ticks * m.speed.y.hi⟩, ⟨a.z.lo + m.ticks * m.speed.z.lo, a.z.hi + m.ticks * m.speed.z.hi⟩⟩ _).mono ?_); rintro e w3 ⟨rfl, hb3⟩; replace hb3 := bl_tt hb3)
    (try dsimp only)
    exact hK.out _ _ rfl (by (with_reducible (repeat' (first | assumption | apply jA | apply jB | apply jC | apply jD | apply jE | apply jF | apply hb3 | omega | (simp; done) | (simp; omega) | (dsimp only; omega)))))
  · exact fun _ _ _ => rfl
  · rfl
  dsimp only [nA, cA]
  apply RGW.on (i := 2) rfl
  · (simp only [gA, gB, gC] <;> rfl)
  · intro γ u W hcur hd
    clear hd
    (try dsimp only)
    refine ⟨rfl, ?_⟩
    go_simp <;> (try go_bits) <;> with_reducible rfl
  · exact fun _ _ _ => rfl
  · rfl
  dsimp only [nA, cA]
  apply RGW.on (i := 3) rfl
  · (simp only [gA, gB, gC] <;> rfl)
  · intro γ u W hcur hd
    obtain ⟨⟨h2, -, -⟩, -⟩ := hd
    dsimp only at h2
    (try simp only [h2])
    refine ⟨rfl, ?_⟩
    go_simp <;> (try go_bits) <;> with_reducible rfl
  · exact fun _ _ _ => rfl
  · rfl
  dsimp only [nA, cA]
  apply RGW.call (i := 4) rfl
  · (simp only [gA, gB, gC] <;> rfl)
  · intro γ u W hcur hd
    obtain ⟨⟨h1, -, -⟩, ⟨h3, -, -⟩, -⟩ := hd
    dsimp only at h1 h3
    (try simp only [h1, h3])
    refine ⟨rfl, fun K hK => ?_⟩
    go_simp
    (go_at_call 30; (with_reducible refine (r_Common ⟨⟨a.x.lo + m.ticks * m.speed.x.lo, a.x.hi + m.ticks * m.speed.x.hi⟩, ⟨a.y.lo + m.ticks * m.speed.y.lo, a.y.hi + m.ticks * m.speed.y.hi⟩, ⟨a.z.lo + m.ticks * m.speed.z.lo, a.z.hi + m.ticks * m.speed.z.hi⟩⟩ wd _).mono ?_); rintro e w3 ⟨rfl, hb3⟩; replace hb3 := bl_tt hb3)
    (try dsimp only)
    exact hK.out _ _ rfl (by (with_reducible (repeat' (first | assumption | apply jA | apply jB | apply jC | apply jD | apply jE | apply jF | apply hb3 | omega | (simp; done) | (simp; omega) | (dsimp only; omega)))))
  · exact fun _ _ _ => rfl
  · rfl
  dsimp only [nA, cA]
  refine RGW.skip (i := 5) rfl rfl ?_
  dsimp only [nA, cA]
  refine RGW.fin (fun γ u we hwe hd hdis => ?_)
  obtain ⟨⟨h0, -, -⟩, ⟨h1, -, -⟩, ⟨h2, -, -⟩, ⟨h3, -, -⟩, ⟨h4, -, -⟩, -⟩ := hd
  dsimp only at h0 h1 h2 h3 h4
  clear hdis
  simp only [h0, h1, h2, h3, h4]
  clear h4 h3 h2 h1 h0
  clear u
  simp only [List.map_cons, List.map_nil]
  apply PlanW.step
  · (simp only [gA, gB, gC] <;> rfl)
  · rfl
  intro K hK
  refine wp_store_keep (X := [w.heap.size + 3]) (w0 := we) rfl rfl rfl (by with_reducible first | exact bx_refl _ _ | assumption) (by with_reducible first | assumption | (apply Blk.below (hb := hwe); assumption)) (by simp) (by kernel_rfl) (by rfl) (by simp [Value.oneCell']) (fun hres1 hcur => ?_)
  refine hK.out _ _ hcur (fun _ => ?_)
  clear hK K
  try simp only [Act.put, List.setIfInBounds_toArray, List.set_cons_zero, List.set_cons_succ]
  refine PlanW.done ?_
  have hb3 := bl_tt hwe
  go_wp2
  apply absPB4 (w0 := w) (g0 := w.heap.size) (g1 := w.heap.size + 1) (g2 := w.heap.size + 2) (g3 := w.heap.size + 3)
  iterate 5 (focus ((with_reducible (repeat' (first | assumption | apply jA | apply jB | apply jC | apply jD | apply jE | apply jF | apply hb3 | apply jG | apply jH | apply jI | apply jJ | apply jK | apply hb3x | (apply jL; first | (simp; done) | rfl) | apply jM | apply jN | apply jO | apply jP | apply jQ | apply jR | apply jS | apply jT (hb := hb3 _ (jA _)) | omega | (simp; done) | (simp; omega) | (dsimp only; omega)))); done))
  intro wf hb0' k0' k1' k2' k3'
  (try simp only [List.setIfInBounds_toArray, List.set_cons_zero, List.set_cons_succ] at k0' k1' k2' k3')
  try clear hb3
  try clear Lk0
  try clear Fk0
  try clear Qk0
  try clear Lk1
  try clear Fk1
  try clear Qk1
  try clear Lk2
  try clear Fk2
  try clear Qk2
  try clear Lk3
  try clear Fk3
  try clear Qk3
  try clear Lk5
  try clear Fk5
  try clear Qk5
  try clear Lk6
  try clear Fk6
  try clear Qk6
  try clear hb0
  try clear k0
  try clear k1
  try clear k2
  try clear k3
  have hb0 := hb0'; clear hb0'
  have k0 := k0'; clear k0'
  have k1 := k1'; clear k1'
  have k2 := k2'; clear k2'
  have k3 := k3'; clear k3'
  have hr := k3.cell
  refine bodyPost_ret (v := vBx (carried wd a m)) (by rw [← he.out]; simp [results, Tryz.results43, go_sem, hr]) rfl ⟨rfl, hb0⟩
set_option maxHeartbeats 4000000 in
theorem r_CarriedBack (wd a : Bx) (m : Mv) (s : Value) (w : World) (ha : a.in 10000) (hm : m.ok) : Calls Tryz.prog 68 #[vNt wd s, vBx a, vMv m] w (Ret (vBx (back wd a m)) w) := by
  obtain ⟨⟨x1, x2, x3, x4⟩, ⟨y1, y2, y3, y4⟩, ⟨z1, z2, z3, z4⟩⟩ := ha
  obtain ⟨h1, h2, ⟨u1, u2, u3, u4⟩, ⟨v1, v2, v3, v4⟩, ⟨w1, w2, w3, w4⟩⟩ := hm
  have bxl := tv_bd h1 h2 u1 u2
  have bxh := tv_bd h1 h2 u3 u4
  have byl := tv_bd h1 h2 v1 v2
  have byh := tv_bd h1 h2 v3 v4
  have bzl := tv_bd h1 h2 w1 w2
  have bzh := tv_bd h1 h2 w3 w4
  have he : Hid (Bx.meet ⟨⟨a.x.lo - m.ticks * m.speed.x.hi, a.x.hi - m.ticks * m.speed.x.lo⟩, ⟨a.y.lo - m.ticks * m.speed.y.hi, a.y.hi - m.ticks * m.speed.y.lo⟩, ⟨a.z.lo - m.ticks * m.speed.z.hi, a.z.hi - m.ticks * m.speed.z.lo⟩⟩ wd = back wd a m) := by
    refine Lib.hid ?_
    simp only [carried, back, Bx.carry, Rg.carry, Mv.neg, Rg.neg, Int.mul_neg, Int.sub_eq_add_neg]
  go_enter Tryz.func68, Tryz.ntmps68
  go_wp2
  apply absB4 (w0 := w) (g0 := w.heap.size) (g1 := w.heap.size + 1) (g2 := w.heap.size + 2) (g3 := w.heap.size + 3)
  iterate 5 (focus ((with_reducible (repeat' (first | assumption | apply jA | apply jB | apply jC | apply jD | apply jE | apply jF | apply hb3 | apply jG | apply jH | apply jI | apply jJ | apply jK | apply hb3x | (apply jL; first | (simp; done) | rfl) | apply jM | apply jN | apply jO | apply jP | apply jQ | apply jR | apply jS | apply jT (hb := hb3 _ (jA _)) | omega | (simp; done) | (simp; omega) | (dsimp only; omega)))); done))
  intro wa hb0' k0' k1' k2' k3'
  (try simp only [List.setIfInBounds_toArray, List.set_cons_zero, List.set_cons_succ] at k0' k1' k2' k3')
  try clear hb3
  try clear hb0
  try clear k0
  try clear k1
  try clear k2
  try clear k3
  have hb0 := hb0'; clear hb0'
  have k0 := k0'; clear k0'
  have k1 := k1'; clear k1'
  have k2 := k2'; clear k2'
  have k3 := k3'; clear k3'
  have Lk0 := k0.later
  have Fk0 := k0.laterF
  have Qk0 := k0.lt
  have Lk1 := k1.later
  have Fk1 := k1.laterF
  have Qk1 := k1.lt
  have Lk2 := k2.later
  have Fk2 := k2.laterF
  have Qk2 := k2.lt
  have Lk3 := k3.later
  have Fk3 := k3.laterF
  have Qk3 := k3.lt
  have hz := k3.lt
  refine wp_any (w0 := wa) ⟨[7, 8], [], [some 10, some 11, some 12, some 13, some 14, some 7, some 8, none, none], [[], [0], [], [2], [0, 1, 2, 3], [], [], [0, 1, 2, 3, 4, 5, 6], [0, 1, 2, 3, 4, 5, 6, 7]], [[], [0], [], [2], [3], [], [], [], []]⟩ (fun γ => [(γ 5).n, (γ 6).n]) (by kernel_rfl) (by kernel_rfl) (by (with_reducible (repeat' (first | assumption | apply jA | apply jB | apply jC | apply jD | apply jE | apply jF | apply hb3 | omega | (simp; done) | (simp; omega) | (dsimp only; omega))))) (fun u => by simp only [putD, Act.put, List.setIfInBounds_toArray, List.set_cons_zero, List.set_cons_succ, Nat.zero_add, Nat.reduceAdd]; rfl) ?_
  apply RGW.on (i := 0) rfl
  · (simp only [gA, gB, gC] <;> rfl)
  · intro γ u W hcur hd
    clear hd
    (try dsimp only)
    refine ⟨rfl, ?_⟩
    go_simp <;> (try go_bits) <;> with_reducible rfl
  · exact fun _ _ _ => rfl
  · rfl
  dsimp only [nA, cA]
  apply RGW.call (i := 1) rfl
  · (simp only [gA, gB, gC] <;> rfl)
  · intro γ u W hcur hd
    obtain ⟨⟨h0, -, -⟩, -⟩ := hd
    dsimp only at h0
    (try simp only [h0])
    refine ⟨rfl, fun K hK => ?_⟩
    go_simp
    (go_at_call 77; (with_reducible refine (r_Sides a _).mono ?_); rintro e w3 ⟨rfl, hb3⟩; replace hb3 := bl_tt hb3)
    (try dsimp only)
    exact hK.out _ _ rfl (by (with_reducible (repeat' (first | assumption | apply jA | apply jB | apply jC | apply jD | apply jE | apply jF | apply hb3 | omega | (simp; done) | (simp; omega) | (dsimp only; omega)))))
  · exact fun _ _ _ => rfl
  · rfl
  dsimp only [nA, cA]
  apply RGW.on (i := 2) rfl
  · (simp only [gA, gB, gC] <;> rfl)
  · intro γ u W hcur hd
    clear hd
    (try dsimp only)
    refine ⟨rfl, ?_⟩
    go_simp <;> (try go_bits) <;> with_reducible rfl
  · exact fun _ _ _ => rfl
  · rfl
  dsimp only [nA, cA]
  apply RGW.on (i := 3) rfl
  · (simp only [gA, gB, gC] <;> rfl)
  · intro γ u W hcur hd
    obtain ⟨⟨h2, -, -⟩, -⟩ := hd
    dsimp only at h2
    (try simp only [h2])
    refine ⟨rfl, ?_⟩
    go_simp <;> (try go_bits) <;> with_reducible rfl
  · exact fun _ _ _ => rfl
  · rfl
  dsimp only [nA, cA]
  apply RGW.call (i := 4) rfl
  · (simp only [gA, gB, gC] <;> rfl)
  · intro γ u W hcur hd
    obtain ⟨⟨h3, -, -⟩, -⟩ := hd
    dsimp only at h3
    (try simp only [h3])
    refine ⟨rfl, fun K hK => ?_⟩
    go_simp
    (go_at_call 77; (with_reducible refine (r_Sides m.speed _).mono ?_); rintro e w3 ⟨rfl, hb3⟩; replace hb3 := bl_tt hb3)
    (try dsimp only)
    exact hK.out _ _ rfl (by (with_reducible (repeat' (first | assumption | apply jA | apply jB | apply jC | apply jD | apply jE | apply jF | apply hb3 | omega | (simp; done) | (simp; omega) | (dsimp only; omega)))))
  · exact fun _ _ _ => rfl
  · rfl
  dsimp only [nA, cA]
  apply RGW.alloc (i := 5) rfl
  · (simp only [gA, gB, gC] <;> rfl)
  · intro γ u W hcur hd
    clear hd
    (try dsimp only)
    refine ⟨rfl, fun K hK => ?_⟩
    go_simp
    exact hK.out _ _ rfl rfl
  · exact fun _ _ _ => rfl
  · rfl
  · rfl
  dsimp only [nA, cA]
  apply RGW.alloc (i := 6) rfl
  · (simp only [gA, gB, gC] <;> rfl)
  · intro γ u W hcur hd
    clear hd
    (try dsimp only)
    refine ⟨rfl, fun K hK => ?_⟩
    go_simp
    exact hK.out _ _ rfl rfl
  · exact fun _ _ _ => rfl
  · rfl
  · rfl
  dsimp only [nA, cA]
  refine RGW.skip (i := 7) rfl rfl ?_
  dsimp only [nA, cA]
  refine RGW.skip (i := 8) rfl rfl ?_
  dsimp only [nA, cA]
  refine RGW.fin (fun γ u wb hwb hd hdis => ?_)
  obtain ⟨⟨h0, -, -⟩, ⟨h1, -, -⟩, ⟨h2, -, -⟩, ⟨h3, -, -⟩, ⟨h4, -, -⟩, ⟨h5, r5, b5⟩, ⟨h6, r6, b6⟩, -⟩ := hd
  dsimp only at h0 h1 h2 h3 h4 h5 h6 r5 r6 b5 b6
  have n5_6 := hdis 5 6 rfl rfl (Nat.lt_of_lt_of_eq (by decide : 5 < 9) (by kernel_rfl)) (Nat.lt_of_lt_of_eq (by decide : 6 < 9) (by kernel_rfl)) (by decide) _ (List.mem_singleton.2 rfl) _ (List.mem_singleton.2 rfl)
  clear hdis
  simp only [h0, h1, h2, h3, h4, h5, h6]
  clear h6 h5 h4 h3 h2 h1 h0
  replace b5 := b5 _ (List.mem_singleton.2 rfl)
  generalize hγ5 : (γ 5).n = g5 at *
  clear hγ5
  replace b6 := b6 _ (List.mem_singleton.2 rfl)
  generalize hγ6 : (γ 6).n = g6 at *
  clear hγ6
  clear u
  simp only [List.map_cons, List.map_nil]
  apply PlanW.step
  · (simp only [gA, gB, gC] <;> rfl)
  · rfl
  intro K hK
  refine wp_store_keep (X := [g5, g6]) (w0 := wb) rfl rfl rfl (by with_reducible first | exact bx_refl _ _ | assumption) (by with_reducible first | assumption | (apply Blk.below (hb := hwb); assumption)) (by simp) (by kernel_rfl) (by rfl) (by simp [Value.oneCell']) (fun hres1 hcur => ?_)
  refine hK.out _ _ hcur (fun _ => ?_)
  clear hK K
  try simp only [Act.put, List.setIfInBounds_toArray, List.set_cons_zero, List.set_cons_succ]
  apply PlanW.step
  · (simp only [gA, gB, gC] <;> rfl)
  · rfl
  intro K hK
  refine wp_store_keep (X := [g5, g6]) (w0 := wb) rfl rfl rfl (by with_reducible first | exact bx_refl _ _ | assumption) (by with_reducible first | assumption | (apply Blk.below (hb := hwb); assumption)) (by simp) (by kernel_rfl) (by rfl) (by simp [Value.oneCell']) (fun hres2 hcur => ?_)
  refine hK.out _ _ hcur (fun _ => ?_)
  clear hK K
  try simp only [Act.put, List.setIfInBounds_toArray, List.set_cons_zero, List.set_cons_succ]
  refine PlanW.done ?_
  have hb3 := bl_tt hwb
  apply absTB6 (w0 := w) (g0 := w.heap.size) (g1 := w.heap.size + 1) (g2 := w.heap.size + 2) (g3 := w.heap.size + 3) (g4 := g5) (g5 := g6)
  iterate 7 (focus ((with_reducible (repeat' (first | assumption | apply jA | apply jB | apply jC | apply jD | apply jE | apply jF | apply hb3 | apply jG | apply jH | apply jI | apply jJ | apply jK | apply hb3x | (apply jL; first | (simp; done) | rfl) | apply jM | apply jN | apply jO | apply jP | apply jQ | apply jR | apply jS | apply jT (hb := hb3 _ (jA _)) | omega | (simp; done) | (simp; omega) | (dsimp only; omega)))); done))
  intro wc hb0' k0' k1' k2' k3' k5' k6'
  (try simp only [List.setIfInBounds_toArray, List.set_cons_zero, List.set_cons_succ] at k0' k1' k2' k3' k5' k6')
  try clear hb3
  try clear Lk0
  try clear Fk0
  try clear Qk0
  try clear Lk1
  try clear Fk1
  try clear Qk1
  try clear Lk2
  try clear Fk2
  try clear Qk2
  try clear Lk3
  try clear Fk3
  try clear Qk3
  try clear hb0
  try clear k0
  try clear k1
  try clear k2
  try clear k3
  try clear k5
  try clear k6
  have hb0 := hb0'; clear hb0'
  have k0 := k0'; clear k0'
  have k1 := k1'; clear k1'
  have k2 := k2'; clear k2'
  have k3 := k3'; clear k3'
  have k5 := k5'; clear k5'
  have k6 := k6'; clear k6'
  have Lk0 := k0.later
  have Fk0 := k0.laterF
  have Qk0 := k0.lt
  have Lk1 := k1.later
  have Fk1 := k1.laterF
  have Qk1 := k1.lt
  have Lk2 := k2.later
  have Fk2 := k2.laterF
  have Qk2 := k2.lt
  have Lk3 := k3.later
  have Fk3 := k3.laterF
  have Qk3 := k3.lt
  have Lk5 := k5.later
  have Fk5 := k5.laterF
  have Qk5 := k5.lt
  have Lk6 := k6.later
  have Fk6 := k6.laterF
  have Qk6 := k6.lt
  have n50 : g5 ≠ w.heap.size + 3 := by omega
  have n60 : g6 ≠ w.heap.size + 3 := by omega
  go_wp2
  refine wp_loop_rounds 4 ?_
  rw [rounds_succ]
  go_wp2
  refine wp_tailC (C := fun W => Below wc.heap.size wc W) 27 (by kernel_rfl) (by kernel_rfl) (by (with_reducible (repeat' (first | assumption | apply jA | apply jB | apply jC | apply jD | apply jE | apply jF | apply hb3 | omega | (simp; done) | (simp; omega) | (dsimp only; omega))))) (fun wd' hw => ?_)
  simp only [List.take_succ_cons, List.take_zero, List.drop_succ_cons, List.drop_zero]
  repeat still_step
  refine wpStill_nil ?_
  go_wp2
  have hb3 := bl_tt hw
  clear hw
  apply absRB6 (w0 := w) (g0 := w.heap.size) (g1 := w.heap.size + 1) (g2 := w.heap.size + 2) (g3 := w.heap.size + 3) (g4 := g5) (g5 := g6)
  iterate 7 (focus ((with_reducible (repeat' (first | assumption | apply jA | apply jB | apply jC | apply jD | apply jE | apply jF | apply hb3 | apply jG | apply jH | apply jI | apply jJ | apply jK | apply hb3x | (apply jL; first | (simp; done) | rfl) | apply jM | apply jN | apply jO | apply jP | apply jQ | apply jR | apply jS | apply jT (hb := hb3 _ (jA _)) | omega | (simp; done) | (simp; omega) | (dsimp only; omega)))); done))
  intro wc hb0' k0' k1' k2' k3' k5' k6'
  (try simp only [List.setIfInBounds_toArray, List.set_cons_zero, List.set_cons_succ] at k0' k1' k2' k3' k5' k6')
  try clear hb3
  try clear Lk0
  try clear Fk0
  try clear Qk0
  try clear Lk1
  try clear Fk1
  try clear Qk1
  try clear Lk2
  try clear Fk2
  try clear Qk2
  try clear Lk3
  try clear Fk3
  try clear Qk3
  try clear Lk5
  try clear Fk5
  try clear Qk5
  try clear Lk6
  try clear Fk6
  try clear Qk6
  try clear hb0
  try clear k0
  try clear k1
  try clear k2
  try clear k3
  try clear k5
  try clear k6
  have hb0 := hb0'; clear hb0'
  have k0 := k0'; clear k0'
  have k1 := k1'; clear k1'
  have k2 := k2'; clear k2'
  have k3 := k3'; clear k3'
  have k5 := k5'; clear k5'
  have k6 := k6'; clear k6'
  have Lk0 := k0.later
  have Fk0 := k0.laterF
  have Qk0 := k0.lt
  have Lk1 := k1.later
  have Fk1 := k1.laterF
  have Qk1 := k1.lt
  have Lk2 := k2.later
  have Fk2 := k2.laterF
  have Qk2 := k2.lt
  have Lk3 := k3.later
  have Fk3 := k3.laterF
  have Qk3 := k3.lt
  have Lk5 := k5.later
  have Fk5 := k5.laterF
  have Qk5 := k5.lt
  have Lk6 := k6.later
  have Fk6 := k6.laterF
  have Qk6 := k6.lt
  rw [rounds_succ]
  go_wp2
  refine wp_tailC (C := fun W => Below wc.heap.size wc W) 27 (by kernel_rfl) (by kernel_rfl) (by (with_reducible (repeat' (first | assumption | apply jA | apply jB | apply jC | apply jD | apply jE | apply jF | apply hb3 | omega | (simp; done) | (simp; omega) | (dsimp only; omega))))) (fun wd' hw => ?_)
  simp only [List.take_succ_cons, List.take_zero, List.drop_succ_cons, List.drop_zero]
  repeat still_step
  refine wpStill_nil ?_
  go_wp2
  have hb3 := bl_tt hw
  clear hw
  apply absRB6 (w0 := w) (g0 := w.heap.size) (g1 := w.heap.size + 1) (g2 := w.heap.size + 2) (g3 := w.heap.size + 3) (g4 := g5) (g5 := g6)
  iterate 7 (focus ((with_reducible (repeat' (first | assumption | apply jA | apply jB | apply jC | apply jD | apply jE | apply jF | apply hb3 | apply jG | apply jH | apply jI | apply jJ | apply jK | apply hb3x | (apply jL; first | (simp; done) | rfl) | apply jM | apply jN | apply jO | apply jP | apply jQ | apply jR | apply jS | apply jT (hb := hb3 _ (jA _)) | omega | (simp; done) | (simp; omega) | (dsimp only; omega)))); done))
  intro wc hb0' k0' k1' k2' k3' k5' k6'
  (try simp only [List.setIfInBounds_toArray, List.set_cons_zero, List.set_cons_succ] at k0' k1' k2' k3' k5' k6')
  try clear hb3
  try clear Lk0
  try clear Fk0
  try clear Qk0
  try clear Lk1
  try clear Fk1
  try clear Qk1
  try clear Lk2
  try clear Fk2
  try clear Qk2
  try clear Lk3
  try clear Fk3
  try clear Qk3
  try clear Lk5
  try clear Fk5
  try clear Qk5
  try clear Lk6
  try clear Fk6
  try clear Qk6
  try clear hb0
  try clear k0
  try clear k1
  try clear k2
  try clear k3
  try clear k5
  try clear k6
  have hb0 := hb0'; clear hb0'
  have k0 := k0'; clear k0'
  have k1 := k1'; clear k1'
  have k2 := k2'; clear k2'
  have k3 := k3'; clear k3'
  have k5 := k5'; clear k5'
  have k6 := k6'; clear k6'
  have Lk0 := k0.later
  have Fk0 := k0.laterF
  have Qk0 := k0.lt
  have Lk1 := k1.later
  have Fk1 := k1.laterF
  have Qk1 := k1.lt
  have Lk2 := k2.later
  have Fk2 := k2.laterF
  have Qk2 := k2.lt
  have Lk3 := k3.later
  have Fk3 := k3.laterF
  have Qk3 := k3.lt
  have Lk5 := k5.later
  have Fk5 := k5.laterF
  have Qk5 := k5.lt
  have Lk6 := k6.later
  have Fk6 := k6.laterF
  have Qk6 := k6.lt
  rw [rounds_succ]
  go_wp2
  refine wp_tailC (C := fun W => Below wc.heap.size wc W) 27 (by kernel_rfl) (by kernel_rfl) (by (with_reducible (repeat' (first | assumption | apply jA | apply jB | apply jC | apply jD | apply jE | apply jF | apply hb3 | omega | (simp; done) | (simp; omega) | (dsimp only; omega))))) (fun wd' hw => ?_)
  simp only [List.take_succ_cons, List.take_zero, List.drop_succ_cons, List.drop_zero]
  repeat still_step
  refine wpStill_nil ?_
  go_wp2
  have hb3 := bl_tt hw
  clear hw
  apply absRB6 (w0 := w) (g0 := w.heap.size) (g1 := w.heap.size + 1) (g2 := w.heap.size + 2) (g3 := w.heap.size + 3) (g4 := g5) (g5 := g6)
  iterate 7 (focus ((with_reducible (repeat' (first | assumption | apply jA | apply jB | apply jC | apply jD | apply jE | apply jF | apply hb3 | apply jG | apply jH | apply jI | apply jJ | apply jK | apply hb3x | (apply jL; first | (simp; done) | rfl) | apply jM | apply jN | apply jO | apply jP | apply jQ | apply jR | apply jS | apply jT (hb := hb3 _ (jA _)) | omega | (simp; done) | (simp; omega) | (dsimp only; omega)))); done))
  intro wc hb0' k0' k1' k2' k3' k5' k6'
  (try simp only [List.setIfInBounds_toArray, List.set_cons_zero, List.set_cons_succ] at k0' k1' k2' k3' k5' k6')
  try clear hb3
  try clear Lk0
  try clear Fk0
  try clear Qk0
  try clear Lk1
  try clear Fk1
  try clear Qk1
  try clear Lk2
  try clear Fk2
  try clear Qk2
  try clear Lk3
  try clear Fk3
  try clear Qk3
  try clear Lk5
  try clear Fk5
  try clear Qk5
  try clear Lk6
  try clear Fk6
  try clear Qk6
  try clear hb0
  try clear k0
  try clear k1
  try clear k2
  try clear k3
  try clear k5
  try clear k6
  have hb0 := hb0'; clear hb0'
  have k0 := k0'; clear k0'
  have k1 := k1'; clear k1'
  have k2 := k2'; clear k2'
  have k3 := k3'; clear k3'
  have k5 := k5'; clear k5'
  have k6 := k6'; clear k6'
  have Lk0 := k0.later
  have Fk0 := k0.laterF
  have Qk0 := k0.lt
  have Lk1 := k1.later
  have Fk1 := k1.laterF
  have Qk1 := k1.lt
  have Lk2 := k2.later
  have Fk2 := k2.laterF
  have Qk2 := k2.lt
  have Lk3 := k3.later
  have Fk3 := k3.laterF
  have Qk3 := k3.lt
  have Lk5 := k5.later
  have Fk5 := k5.laterF
  have Qk5 := k5.lt
  have Lk6 := k6.later
  have Fk6 := k6.laterF
  have Qk6 := k6.lt
  rw [rounds_succ]
  go_wp2_with fail
  refine wp_any (w0 := wc) ⟨[5], [], [some 46, some 47, some 48, some 49, some 50, none], [[], [0], [], [2], [0, 1, 2, 3], [0, 1, 2, 3, 4]], [[], [0], [], [2], [1, 3], []]⟩ (fun _ => [w.heap.size + 3]) (by kernel_rfl) (by kernel_rfl) (by (with_reducible (repeat' (first | assumption | apply jA | apply jB | apply jC | apply jD | apply jE | apply jF | apply hb3 | omega | (simp; done) | (simp; omega) | (dsimp only; omega))))) (fun u => by simp only [putD, Act.put, List.setIfInBounds_toArray, List.set_cons_zero, List.set_cons_succ, Nat.zero_add, Nat.reduceAdd]; rfl) ?_
  apply RGW.on (i := 0) rfl
  · (simp only [gA, gB, gC] <;> rfl)
  · intro γ u W hcur hd
    clear hd
    (try dsimp only)
    refine ⟨rfl, ?_⟩
    go_simp <;> (try go_bits) <;> with_reducible rfl
  · exact fun _ _ _ => rfl
  · rfl
  dsimp only [nA, cA]
  apply RGW.call (i := 1) rfl
  · (simp only [gA, gB, gC] <;> rfl)
  · intro γ u W hcur hd
    obtain ⟨⟨h0, -, -⟩, -⟩ := hd
    dsimp only at h0
    (try simp only [h0])
    refine ⟨rfl, fun K hK => ?_⟩
    go_simp
    (go_at_call 80; (with_reducible refine (r_box ⟨⟨a.x.lo - m.ticks * m.speed.x.hi, a.x.hi - m.ticks * m.speed.x.lo⟩, ⟨a.y.lo - m.ticks * m.speed.y.hi, a.y.hi - m.ticks * m.speed.y.lo⟩, ⟨a.z.lo - m.ticks * m.speed.z.hi, a.z.hi - m.ticks * m.speed.z.lo⟩⟩ _).mono ?_); rintro e w3 ⟨rfl, hb3⟩; replace hb3 := bl_tt hb3)
    (try dsimp only)
    exact hK.out _ _ rfl (by (with_reducible (repeat' (first | assumption | apply jA | apply jB | apply jC | apply jD | apply jE | apply jF | apply hb3 | omega | (simp; done) | (simp; omega) | (dsimp only; omega)))))
  · exact fun _ _ _ => rfl
  · rfl
  dsimp only [nA, cA]
  apply RGW.on (i := 2) rfl
  · (simp only [gA, gB, gC] <;> rfl)
  · intro γ u W hcur hd
    clear hd
    (try dsimp only)
    refine ⟨rfl, ?_⟩
    go_simp <;> (try go_bits) <;> with_reducible rfl
  · exact fun _ _ _ => rfl
  · rfl
  dsimp only [nA, cA]
  apply RGW.on (i := 3) rfl
  · (simp only [gA, gB, gC] <;> rfl)
  · intro γ u W hcur hd
    obtain ⟨⟨h2, -, -⟩, -⟩ := hd
    dsimp only at h2
    (try simp only [h2])
    refine ⟨rfl, ?_⟩
    go_simp <;> (try go_bits) <;> with_reducible rfl
  · exact fun _ _ _ => rfl
  · rfl
  dsimp only [nA, cA]
  apply RGW.call (i := 4) rfl
  · (simp only [gA, gB, gC] <;> rfl)
  · intro γ u W hcur hd
    obtain ⟨⟨h1, -, -⟩, ⟨h3, -, -⟩, -⟩ := hd
    dsimp only at h1 h3
    (try simp only [h1, h3])
    refine ⟨rfl, fun K hK => ?_⟩
    go_simp
    (go_at_call 30; (with_reducible refine (r_Common ⟨⟨a.x.lo - m.ticks * m.speed.x.hi, a.x.hi - m.ticks * m.speed.x.lo⟩, ⟨a.y.lo - m.ticks * m.speed.y.hi, a.y.hi - m.ticks * m.speed.y.lo⟩, ⟨a.z.lo - m.ticks * m.speed.z.hi, a.z.hi - m.ticks * m.speed.z.lo⟩⟩ wd _).mono ?_); rintro e w3 ⟨rfl, hb3⟩; replace hb3 := bl_tt hb3)
    (try dsimp only)
    exact hK.out _ _ rfl (by (with_reducible (repeat' (first | assumption | apply jA | apply jB | apply jC | apply jD | apply jE | apply jF | apply hb3 | omega | (simp; done) | (simp; omega) | (dsimp only; omega)))))
  · exact fun _ _ _ => rfl
  · rfl
  dsimp only [nA, cA]
  refine RGW.skip (i := 5) rfl rfl ?_
  dsimp only [nA, cA]
  refine RGW.fin (fun γ u we hwe hd hdis => ?_)
  obtain ⟨⟨h0, -, -⟩, ⟨h1, -, -⟩, ⟨h2, -, -⟩, ⟨h3, -, -⟩, ⟨h4, -, -⟩, -⟩ := hd
  dsimp only at h0 h1 h2 h3 h4
  clear hdis
  simp only [h0, h1, h2, h3, h4]
  clear h4 h3 h2 h1 h0
  clear u
  simp only [List.map_cons, List.map_nil]
  apply PlanW.step
  · (simp only [gA, gB, gC] <;> rfl)
  · rfl
  intro K hK
  refine wp_store_keep (X := [w.heap.size + 3]) (w0 := we) rfl rfl rfl (by with_reducible first | exact bx_refl _ _ | assumption) (by with_reducible first | assumption | (apply Blk.below (hb := hwe); assumption)) (by simp) (by kernel_rfl) (by rfl) (by simp [Value.oneCell']) (fun hres1 hcur => ?_)
  refine hK.out _ _ hcur (fun _ => ?_)
  clear hK K
  try simp only [Act.put, List.setIfInBounds_toArray, List.set_cons_zero, List.set_cons_succ]
  refine PlanW.done ?_
  have hb3 := bl_tt hwe
  go_wp2
  apply absPB4 (w0 := w) (g0 := w.heap.size) (g1 := w.heap.size + 1) (g2 := w.heap.size + 2) (g3 := w.heap.size + 3)
  iterate 5 (focus ((with_reducible (repeat' (first | assumption | apply jA | apply jB | apply jC | apply jD | apply jE | apply jF | apply hb3 | apply jG | apply jH | apply jI | apply jJ | apply jK | apply hb3x | (apply jL; first | (simp; done) | rfl) | apply jM | apply jN | apply jO | apply jP | apply jQ | apply jR | apply jS | apply jT (hb := hb3 _ (jA _)) | omega | (simp; done) | (simp; omega) | (dsimp only; omega)))); done))
  intro wf hb0' k0' k1' k2' k3'
  (try simp only [List.setIfInBounds_toArray, List.set_cons_zero, List.set_cons_succ] at k0' k1' k2' k3')
  try clear hb3
  try clear Lk0
  try clear Fk0
  try clear Qk0
  try clear Lk1
  try clear Fk1
  try clear Qk1
  try clear Lk2
  try clear Fk2
  try clear Qk2
  try clear Lk3
  try clear Fk3
  try clear Qk3
  try clear Lk5
  try clear Fk5
  try clear Qk5
  try clear Lk6
  try clear Fk6
  try clear Qk6
  try clear hb0
  try clear k0
  try clear k1
  try clear k2
  try clear k3
  have hb0 := hb0'; clear hb0'
  have k0 := k0'; clear k0'
  have k1 := k1'; clear k1'
  have k2 := k2'; clear k2'
  have k3 := k3'; clear k3'
  have hr := k3.cell
  refine bodyPost_ret (v := vBx (back wd a m)) (by rw [← he.out]; simp [results, Tryz.results68, go_sem, hr]) rfl ⟨rfl, hb0⟩
end Go.Proofs.YtephimmamkafoaaGreat
