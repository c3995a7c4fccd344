/-
  Walks: the track of steps, by the library.
  Plain: the smoothed boxes of a track; none of them is empty.
  What a move, taken twice or back, does to a box: plain facts.
  Plain: paths; each position of a path lies in the box of the track, and in the smoothed one; a path whose track has an error has one that is searched too long.
-/
import Derived.Test.YtephimmamkafoaaGreatUH3
import Derived.Test.YtephimmamkafoaaGreatU12
set_option linter.unusedSimpArgs false
set_option linter.unusedVariables false
namespace Go.Proofs.YtephimmamkafoaaGreat
open Go.RowKit Go.Shelf
attribute [local go_sem] bl_al bl_drew bl_drewN bl_refl bx_al bx_drew bx_drewN bx_refl
set_option maxRecDepth 20000
set_option maxHeartbeats 4000000 in
theorem c_openSteps (n : Nt) (b : Bx) (l : List StA) (A A' : Option Addr) (c c' : Nat) (w : World) (hn : NtIn n A c w) (hl : StsIn l A' w) (hll : few1 l) (hlb : n.bs.length ≤ 1000) :
    Calls Tryz.prog 69 #[vNt n.world (.slice A n.bs.length c), vBx b, .slice A' l.length c'] w (Ret (.tuple #[vON n.world (.slice A n.bs.length c), vBx b, .int .i64 (stepsErr n b (l.map (·.s)))]) w) := by
  have hco := Lib.hid fun (W : World) (hb : Below w.heap.size w W) => c_openBox n b A c W (hn.below hb)
  have hck := Lib.hid fun (W : World) (hb : Below w.heap.size w W) => c_CheckSteps n l A A' c c' W (hn.below hb) (hl.below hb) hll hlb
  have hme : Hid (stepsErr n b (l.map (·.s)) = fstE [boxErr n b, (stepsChk n (l.map (·.s))).2]) := by
    refine Lib.hid ?_
    unfold stepsErr
    by_cases h : boxErr n b = 0
    · rw [if_pos h, h, fst_z, fst_one]
    · rw [if_neg h, fstE, if_neg h]
  clear hn hl hll
  generalize stepsErr n b (l.map (·.s)) = SE at *
  generalize stepsChk n (l.map (·.s)) = SC at *
  generalize n.bs.length = nl at *
  generalize l.length = ll at *
  go_enter Tryz.func69, Tryz.ntmps69
  go_upto_region 1 with fail
  first
  | apply absB4 (w0 := w) (g0 := w.heap.size) (g1 := w.heap.size + 1) (g2 := w.heap.size + 2) (g3 := w.heap.size + 3)
  | apply absTB4 (w0 := w) (g0 := w.heap.size) (g1 := w.heap.size + 1) (g2 := w.heap.size + 2) (g3 := w.heap.size + 3)
  | apply absIB4 (w0 := w) (g0 := w.heap.size) (g1 := w.heap.size + 1) (g2 := w.heap.size + 2) (g3 := w.heap.size + 3)
  iterate 5 (focus exact zL)
  try clear hb3
  try clear hb0
  try clear k0
  try clear k1
  try clear k2
  try clear k3
  intro wa hb0 k0 k1 k2 k3
  (try simp only [List.setIfInBounds_toArray, List.set_cons_zero, List.set_cons_succ] at k0 k1 k2 k3)
  have Lk0 := k0.later
  have Fk0 := k0.laterF
  have Qk0 := k0.lt
  have Lk1 := k1.later
  have Fk1 := k1.laterF
  have Qk1 := k1.lt
  have Lk2 := k2.later
  have Fk2 := k2.laterF
  have Qk2 := k2.lt
  have Lk3 := k3.later
  have Fk3 := k3.laterF
  have Qk3 := k3.lt
  go_wp2_with fail
  with_reducible refine Calls.mono (hco.out _ (bl_tr hb0 (by (exact zE)))) ?_
  rintro e w3 ⟨rfl, hb3⟩
  replace hb3 := bl_tt hb3
  apply absX4 (w0 := w) (w := w3) (g0 := w.heap.size) (g1 := w.heap.size + 1) (g2 := w.heap.size + 2) (g3 := w.heap.size + 3)
  iterate 5 (focus exact zL)
  try clear hb3
  try clear Lk0
  try clear Fk0
  try clear Qk0
  try clear Lk1
  try clear Fk1
  try clear Qk1
  try clear Lk2
  try clear Fk2
  try clear Qk2
  try clear Lk3
  try clear Fk3
  try clear Qk3
  try clear hb0
  try clear k0
  try clear k1
  try clear k2
  try clear k3
  intro wb hb0 k0 k1 k2 k3
  (try simp only [List.setIfInBounds_toArray, List.set_cons_zero, List.set_cons_succ] at k0 k1 k2 k3)
  have Lk0 := k0.later
  have Fk0 := k0.laterF
  have Qk0 := k0.lt
  have Lk1 := k1.later
  have Fk1 := k1.laterF
  have Qk1 := k1.lt
  have Lk2 := k2.later
  have Fk2 := k2.laterF
  have Qk2 := k2.lt
  have Lk3 := k3.later
  have Fk3 := k3.laterF
  have Qk3 := k3.lt
  have hzb : w.heap.size + 4 ≤ wb.heap.size := by have := k3.lt; omega
  go_upto_region 2 with fail
  first
  | apply absB6 (w0 := w) (g0 := w.heap.size) (g1 := w.heap.size + 1) (g2 := w.heap.size + 2) (g3 := w.heap.size + 3) (g4 := wb.heap.size) (g5 := wb.heap.size + 1)
  | apply absTB6 (w0 := w) (g0 := w.heap.size) (g1 := w.heap.size + 1) (g2 := w.heap.size + 2) (g3 := w.heap.size + 3) (g4 := wb.heap.size) (g5 := wb.heap.size + 1)
  | apply absIB6 (w0 := w) (g0 := w.heap.size) (g1 := w.heap.size + 1) (g2 := w.heap.size + 2) (g3 := w.heap.size + 3) (g4 := wb.heap.size) (g5 := wb.heap.size + 1)
  iterate 7 (focus exact zL)
  try clear hb3
  try clear Lk0
  try clear Fk0
  try clear Qk0
  try clear Lk1
  try clear Fk1
  try clear Qk1
  try clear Lk2
  try clear Fk2
  try clear Qk2
  try clear Lk3
  try clear Fk3
  try clear Qk3
  try clear hb0
  try clear k0
  try clear k1
  try clear k2
  try clear k3
  try clear k4
  try clear k5
  intro wc hb0 k0 k1 k2 k3 k4 k5
  (try simp only [List.setIfInBounds_toArray, List.set_cons_zero, List.set_cons_succ] at k0 k1 k2 k3 k4 k5)
  have Lk0 := k0.later
  have Fk0 := k0.laterF
  have Qk0 := k0.lt
  have Lk1 := k1.later
  have Fk1 := k1.laterF
  have Qk1 := k1.lt
  have Lk2 := k2.later
  have Fk2 := k2.laterF
  have Qk2 := k2.lt
  have Lk3 := k3.later
  have Fk3 := k3.laterF
  have Qk3 := k3.lt
  have Lk4 := k4.later
  have Fk4 := k4.laterF
  have Qk4 := k4.lt
  have Lk5 := k5.later
  have Fk5 := k5.laterF
  have Qk5 := k5.lt
  go_upto_region 3 with (go_at_call 9; (with_reducible refine (hck.out _ (bl_tr hb0 (by (exact zE)))).mono ?_); rintro e w3 ⟨rfl, hb3⟩; replace hb3 := bl_tt hb3)
  first
  | apply absB6 (w0 := w) (g0 := w.heap.size) (g1 := w.heap.size + 1) (g2 := w.heap.size + 2) (g3 := w.heap.size + 3) (g4 := wb.heap.size) (g5 := wb.heap.size + 1)
  | apply absTB6 (w0 := w) (g0 := w.heap.size) (g1 := w.heap.size + 1) (g2 := w.heap.size + 2) (g3 := w.heap.size + 3) (g4 := wb.heap.size) (g5 := wb.heap.size + 1)
  | apply absIB6 (w0 := w) (g0 := w.heap.size) (g1 := w.heap.size + 1) (g2 := w.heap.size + 2) (g3 := w.heap.size + 3) (g4 := wb.heap.size) (g5 := wb.heap.size + 1)
  iterate 7 (focus exact zL)
  try clear hb3
  try clear Lk0
  try clear Fk0
  try clear Qk0
  try clear Lk1
  try clear Fk1
  try clear Qk1
  try clear Lk2
  try clear Fk2
  try clear Qk2
  try clear Lk3
  try clear Fk3
  try clear Qk3
  try clear Lk4
  try clear Fk4
  try clear Qk4
  try clear Lk5
  try clear Fk5
  try clear Qk5
  try clear hb0
  try clear k0
  try clear k1
  try clear k2
  try clear k3
  try clear k4
  try clear k5
  intro wd hb0 k0 k1 k2 k3 k4 k5
  (try simp only [List.setIfInBounds_toArray, List.set_cons_zero, List.set_cons_succ] at k0 k1 k2 k3 k4 k5)
  have Lk0 := k0.later
  have Fk0 := k0.laterF
  have Qk0 := k0.lt
  have Lk1 := k1.later
  have Fk1 := k1.laterF
  have Qk1 := k1.lt
  have Lk2 := k2.later
  have Fk2 := k2.laterF
  have Qk2 := k2.lt
  have Lk3 := k3.later
  have Fk3 := k3.laterF
  have Qk3 := k3.lt
  have Lk4 := k4.later
  have Fk4 := k4.laterF
  have Qk4 := k4.lt
  have Lk5 := k5.later
  have Fk5 := k5.laterF
  have Qk5 := k5.lt
  have hzc : wb.heap.size + 2 ≤ wd.heap.size := k5.lt
  have L4 := k4.laterX (X := [w.heap.size + 2, w.heap.size + 3]) (by simp; omega)
  have L5 := k5.laterX (X := [w.heap.size + 2, w.heap.size + 3]) (by simp; omega)
  clear k0 k1 k4 k5 Lk0 Lk1 Lk2 Lk3 Lk4 Lk5 Fk0 Fk1 Fk2 Fk3 Fk4 Fk5
  try clear hb3
  refine wp_plan [(0, true), (1, true), (2, true), (3, true), (4, false), (5, false), (6, false), (7, false), (8, true)] (fun W => BX [w.heap.size + 2, w.heap.size + 3] wd W) (by kernel_rfl) (by kernel_rfl) (by kernel_rfl) (by solve_by_elim (maxDepth := 80) only [bx_al, bx_drew, bx_drewN, bx_refl, bx_set1, bx_set2, bx_set3, *]) ?_
  apply PlanW.on
  · (simp only [gA, gB, gC] <;> rfl)
  · rfl
  · (intro W hS; (try dsimp only at hS); go_simp <;> with_reducible rfl)
  try simp only [Act.put, List.setIfInBounds_toArray, List.set_cons_zero, List.set_cons_succ]
  apply PlanW.on
  · (simp only [gA, gB, gC] <;> rfl)
  · rfl
  · (intro W hS; (try dsimp only at hS); go_simp <;> with_reducible rfl)
  try simp only [Act.put, List.setIfInBounds_toArray, List.set_cons_zero, List.set_cons_succ]
  apply PlanW.on
  · (simp only [gA, gB, gC] <;> rfl)
  · rfl
  · (intro W hS; (try dsimp only at hS); go_simp <;> with_reducible rfl)
  try simp only [Act.put, List.setIfInBounds_toArray, List.set_cons_zero, List.set_cons_succ]
  apply PlanW.on
  · (simp only [gA, gB, gC] <;> rfl)
  · rfl
  · (intro W hS; (try dsimp only at hS); go_simp <;> with_reducible rfl)
  try simp only [Act.put, List.setIfInBounds_toArray, List.set_cons_zero, List.set_cons_succ]
  apply PlanW.step
  · (simp only [gA, gB, gC] <;> rfl)
  · rfl
  intro K hK
  go_simp
  refine hK.out _ _ (by solve_by_elim (maxDepth := 80) only [bx_al, bx_drew, bx_drewN, bx_refl, bx_set1, bx_set2, bx_set3, *]) (fun hcur => ?_)
  clear hK K
  (try dsimp only at hcur)
  try simp only [Act.put, List.setIfInBounds_toArray, List.set_cons_zero, List.set_cons_succ]
  apply PlanW.step
  · (simp only [gA, gB, gC] <;> rfl)
  · rfl
  intro K hK
  go_simp
  (first | (first | (go_at_call 48; (with_reducible refine (c_first2 (Blk.new _ _ _)).mono ?_); rintro e w3 ⟨rfl, rfl⟩) | (go_at_call 48; (with_reducible refine (c_first2 (Blk.drew (Blk.new _ _ _))).mono ?_); rintro e w3 ⟨rfl, rfl⟩) | (go_at_call 48; (with_reducible refine (c_first2 (Blk.drewN (Blk.new _ _ _) _)).mono ?_); rintro e w3 ⟨rfl, rfl⟩)))
  (try dsimp only)
  refine hK.out _ _ (by solve_by_elim (maxDepth := 80) only [bx_al, bx_drew, bx_drewN, bx_refl, bx_set1, bx_set2, bx_set3, *]) (fun hcur => ?_)
  clear hK K
  (try dsimp only at hcur)
  try simp only [Act.put, List.setIfInBounds_toArray, List.set_cons_zero, List.set_cons_succ]
  apply PlanW.step
  · (simp only [gA, gB, gC] <;> rfl)
  · rfl
  intro K hK
  refine wp_store_keep (X := [w.heap.size + 2, w.heap.size + 3]) (w0 := wd) rfl rfl rfl (by solve_by_elim (maxDepth := 80) only [bx_al, bx_drew, bx_drewN, bx_refl, bx_set1, bx_set2, bx_set3, *]) (by assumption) (by simp) (by kernel_rfl) (by rfl) (by simp [Value.oneCell']) (fun hres1 hcur => ?_)
  refine hK.out _ _ hcur (fun _ => ?_)
  clear hK K
  try simp only [Act.put, List.setIfInBounds_toArray, List.set_cons_zero, List.set_cons_succ]
  apply PlanW.step
  · (simp only [gA, gB, gC] <;> rfl)
  · rfl
  intro K hK
  refine wp_store_keep (X := [w.heap.size + 2, w.heap.size + 3]) (w0 := wd) rfl rfl rfl (by solve_by_elim (maxDepth := 80) only [bx_al, bx_drew, bx_drewN, bx_refl, bx_set1, bx_set2, bx_set3, *]) (by assumption) (by simp) (by kernel_rfl) (by rfl) (by simp [Value.oneCell']) (fun hres2 hcur => ?_)
  refine hK.out _ _ hcur (fun _ => ?_)
  clear hK K
  try simp only [Act.put, List.setIfInBounds_toArray, List.set_cons_zero, List.set_cons_succ]
  apply PlanW.on
  · (simp only [gA, gB, gC] <;> rfl)
  · rfl
  · (intro W hS; (try dsimp only at hS); go_simp <;> with_reducible rfl)
  try simp only [Act.put, List.setIfInBounds_toArray, List.set_cons_zero, List.set_cons_succ]
  refine PlanW.done ?_
  have hr2 := hres2.cell
  have hr1 := fun vs => (hres1.rowOther (g' := w.heap.size + 3) (by omega) vs).cell
  go_wp2
  refine bodyPost_ret (v := .tuple #[vON n.world (.slice A nl c), vBx b, .int .i64 (fstE [boxErr n b, SC.2])]) (by simp [results, Tryz.results69, go_sem, hr1, hr2]) rfl ⟨by rw [hme.out], ?_⟩
  exact hcur.below (by simp) hb0
theorem absPK {P : Program} {fn : Func} {R : Ending → World → Prop} {x : Exit} {a : Act} {w0 w : World} {X : List Nat} {g0 : Nat} {t0 : TypeId} {c0 : Array Value} (hb : BX X w0 w) (k0 : Blk w g0 t0 c0) (h : ∀ W, BX X w0 W → Blk W g0 t0 c0 → bodyPost P fn R x a W) : bodyPost P fn R x a w := h w hb k0
theorem infoAx : (Tryz.prog.info? 92).map (fun i => (i.zero, i.size, i.bytes)) = some (some (.agg #[.int .i64 0, .int .i64 0, .int .i64 0, .int .i64 0, .int .i64 0, .int .i64 0]), 6, 48) := by kernel_rfl
abbrev vON0 : Value := .agg #[.int .i64 0, .int .i64 0, .int .i64 0, .int .i64 0, .int .i64 0, .int .i64 0, .slice none 0 0, .int .i64 0, .int .i64 0, .int .i64 0, .int .i64 0, .int .i64 0, .int .i64 0]
set_option maxHeartbeats 8000000 in
theorem c_track (n : Nt) (b : Bx) (l : List StA) (A A' : Option Addr) (c c' : Nat) (w : World) (hn : NtIn n A c w) (hl : StsIn l A' w) (hll : few1 l) (hlb : n.bs.length ≤ 1000) :
    Calls Tryz.prog 63 #[vNt n.world (.slice A n.bs.length c), vBx b, .slice A' l.length c'] w (fun e w' => Below w.heap.size w w' ∧ (trackE n b (l.map (·.s)) ≠ 0 → e = .returned (.tuple #[vON0, .slice none 0 0, .int .i64 (trackE n b (l.map (·.s)))]))
      ∧ (trackE n b (l.map (·.s)) = 0 → ∃ g cap, e = .returned (.tuple #[vON n.world (.slice A n.bs.length c), .slice (some ⟨g, 0, none⟩) (l.length + 1) cap, .int .i64 0]) ∧ w'.ownsRow w.heap.size 92 6 (.slice (some ⟨g, 0, none⟩) (l.length + 1) cap) (l.length + 1) ((b :: trk n b (l.map (·.s))).flatMap cBox))) := by
  obtain ⟨i0, hi0, hy0, hy1, hy2⟩ := info_parts infoAx
  have hos := Lib.hid fun (W : World) (hb : Below w.heap.size w W) => c_openSteps n b l A A' c c' W (hn.below hb) (hl.below hb) hll hlb
  have hca := Lib.hid fun (b' : Bx) (x : StA) (hx : x ∈ l) (h : afterE n b' x.s = 0) (W : World) (hb : Below w.heap.size w W) => c_after n b' x.s A x.A c x.c W (hn.sl.below hb) hlb ((hl.rd x hx).below hb) (after_ok h).2.2.1 (net_world_ok (box_zero (after_ok h).1).1) (box_ok (after_ok h).1).in (mv_ok (after_ok h).2.1) (after_ok h).2.2.2
  have hz := Lib.hid fun h : stepsErr n b (l.map (·.s)) = 0 => steps_zero h
  have hT0 : Hid (stepsErr n b (l.map (·.s)) = 0 → trackE n b (l.map (·.s)) = trkE n b ((l.map (·.s)).drop 0)) := fun h => by rw [trackE, if_pos h, List.drop_zero]
  have hT1 : Hid (stepsErr n b (l.map (·.s)) ≠ 0 → trackE n b (l.map (·.s)) = stepsErr n b (l.map (·.s))) := fun h => by rw [trackE, if_neg h]
  have hE0 : Hid (∀ b' : Bx, trkE n b' ((l.map (·.s)).drop l.length) = 0 ∧ trk n b' ((l.map (·.s)).drop l.length) = []) := fun b' => by rw [← show (l.map (fun x : StA => x.s)).length = l.length from List.length_map _, List.drop_length]; exact ⟨rfl, rfl⟩
  have hat : Hid (∀ (b' : Bx) (j : Nat) (x : StA), l[j]? = some x → trkE n b' ((l.map (·.s)).drop j) = if afterX n b' x.s = 0 then trkE n (afterV n b' x.s).1 ((l.map (·.s)).drop (j + 1)) else afterX n b' x.s) := fun b' j x h => trkE_at h
  have hal : Hid (∀ (b' : Bx) (j : Nat) (x : StA), l[j]? = some x → trk n b' ((l.map (·.s)).drop j) = (afterV n b' x.s).1 :: trk n (afterV n b' x.s).1 ((l.map (·.s)).drop (j + 1))) := fun b' j x h => trk_at h
  have hR : Hid (trk n b (l.map (·.s)) = trk n b ((l.map (·.s)).drop 0)) := by rw [List.drop_zero]; exact Lib.hid rfl
  have Hl := Lib.hid hl
  have hl1 := hll.1
  clear hn hl hll
  generalize stepsErr n b (l.map (·.s)) = SE at *
  generalize trackE n b (l.map (·.s)) = TE at *
  generalize trk n b (l.map (·.s)) = TR at *
  generalize l.map (·.s) = L at *
  generalize n.bs.length = nl at *
  obtain ⟨ll, Hn⟩ : ∃ k, Hid (l.length = k) := ⟨_, rfl⟩
  rw [Hn.out] at hl1 hE0 hos ⊢
  go_enter Tryz.func63, Tryz.ntmps63
  go_upto_region 1 with fail
  first
  | apply absB3 (w0 := w) (g0 := w.heap.size) (g1 := w.heap.size + 1) (g2 := w.heap.size + 2)
  | apply absTB3 (w0 := w) (g0 := w.heap.size) (g1 := w.heap.size + 1) (g2 := w.heap.size + 2)
  | apply absIB3 (w0 := w) (g0 := w.heap.size) (g1 := w.heap.size + 1) (g2 := w.heap.size + 2)
  iterate 4 (focus exact zL)
  try clear hb3
  try clear hb0
  try clear k0
  try clear k1
  try clear k2
  intro wa hb0 k0 k1 k2
  (try simp only [List.setIfInBounds_toArray, List.set_cons_zero, List.set_cons_succ] at k0 k1 k2)
  have Lk0 := k0.later
  have Fk0 := k0.laterF
  have Qk0 := k0.lt
  have Lk1 := k1.later
  have Fk1 := k1.laterF
  have Qk1 := k1.lt
  have Lk2 := k2.later
  have Fk2 := k2.laterF
  have Qk2 := k2.lt
  go_wp2_with fail
  with_reducible refine Calls.mono (hos.out _ (bl_tr hb0 (by (exact zE)))) ?_
  rintro e w3 ⟨rfl, hb3⟩
  replace hb3 := bl_tt hb3
  apply absX3 (w0 := w) (w := w3) (g0 := w.heap.size) (g1 := w.heap.size + 1) (g2 := w.heap.size + 2)
  iterate 4 (focus exact zL)
  try clear hb3
  try clear Lk0
  try clear Fk0
  try clear Qk0
  try clear Lk1
  try clear Fk1
  try clear Qk1
  try clear Lk2
  try clear Fk2
  try clear Qk2
  try clear hb0
  try clear k0
  try clear k1
  try clear k2
  intro wb hb0 k0 k1 k2
  (try simp only [List.setIfInBounds_toArray, List.set_cons_zero, List.set_cons_succ] at k0 k1 k2)
  have Lk0 := k0.later
  have Fk0 := k0.laterF
  have Qk0 := k0.lt
  have Lk1 := k1.later
  have Fk1 := k1.laterF
  have Qk1 := k1.lt
  have Lk2 := k2.later
  have Fk2 := k2.laterF
  have Qk2 := k2.lt
  have hzb : w.heap.size + 3 ≤ wb.heap.size := by have := k2.lt; omega
  go_upto_region 2 with fail
  first
  | apply absB3 (w0 := w) (g0 := w.heap.size + 2) (g1 := wb.heap.size) (g2 := wb.heap.size + 1)
  | apply absTB3 (w0 := w) (g0 := w.heap.size + 2) (g1 := wb.heap.size) (g2 := wb.heap.size + 1)
  | apply absIB3 (w0 := w) (g0 := w.heap.size + 2) (g1 := wb.heap.size) (g2 := wb.heap.size + 1)
  iterate 4 (focus exact zL)
  try clear hb3
  try clear Lk0
  try clear Fk0
  try clear Qk0
  try clear Lk1
  try clear Fk1
  try clear Qk1
  try clear Lk2
  try clear Fk2
  try clear Qk2
  try clear hb0
  try clear k2
  try clear k4
  try clear k5
  intro wc hb0 k2 k4 k5
  (try simp only [List.setIfInBounds_toArray, List.set_cons_zero, List.set_cons_succ] at k2 k4 k5)
  have Lk2 := k2.later
  have Fk2 := k2.laterF
  have Qk2 := k2.lt
  have Lk4 := k4.later
  have Fk4 := k4.laterF
  have Qk4 := k4.lt
  have Lk5 := k5.later
  have Fk5 := k5.laterF
  have Qk5 := k5.lt
  have hzc : wb.heap.size + 2 ≤ wc.heap.size := by have := k5.lt; omega
  by_cases hS : SE = 0
  case neg =>
    have hS' : (SE != 0) = true := by simp [hS]
    have hT := Lib.hid (hT1.out hS)
    replace hS := Lib.hid hS
    go_wp2
    first
    | apply absPB1 (w0 := w) (g0 := w.heap.size + 2)
    | apply absPMB1 (w0 := w) (g0 := w.heap.size + 2)
    iterate 2 (focus exact zL)
    try clear hb3
    try clear Lk2
    try clear Fk2
    try clear Qk2
    try clear Lk4
    try clear Fk4
    try clear Qk4
    try clear Lk5
    try clear Fk5
    try clear Qk5
    try clear hb0
    try clear k2
    intro wf hb0 k2
    (try simp only [List.setIfInBounds_toArray, List.set_cons_zero, List.set_cons_succ] at k2)
    have hr2 := k2.cell
    refine bodyPost_ret (v := .tuple #[vON0, .slice none 0 0, .int .i64 SE]) (by simp [results, Tryz.results63, go_sem, hr2]) rfl ⟨hb0, fun _ => by rw [hT.out], fun h => absurd (hT.out ▸ h) hS.out⟩
  subst hS
  obtain ⟨hz0, hz1⟩ := hz.out (by simp)
  replace hz1 := Lib.hid hz1
  have hT := Lib.hid (hT0.out (by simp))
  clear hz hos hT0 hT1
  go_upto_region 5 with fail
  have hown0 := World.ownsRow_lit (e := 92) (size := 6) (base := wc.heap.size) wc (cBox b).toArray 1 (Nat.le_refl _) (by unfold maxLen; omega) rfl
  have k2a := k2.alloc (.cells (cBox b).toArray 92)
  have k4a := k4.alloc (.cells (cBox b).toArray 92)
  have k5a := k5.alloc (.cells (cBox b).toArray 92)
  have hba : Below w.heap.size w (wc.alloc (.cells (cBox b).toArray 92)) := bl_al _ hb0
  clear Lk2 Lk4 Lk5 Fk2 Fk4 Fk5
  go_wp2
  go_loopw [12, 31] (fun v i wr => ∃ (j : Nat) (b' : Bx) (pre : List Bx), j ≤ ll ∧ i = .int .i64 j ∧ Below w.heap.size w wr ∧ Blk wr (w.heap.size + 2) 94 #[.int .i64 0, .int .i64 0, .int .i64 0, .int .i64 0, .int .i64 0, .int .i64 0, .slice none 0 0, .int .i64 0, .int .i64 0, .int .i64 0, .int .i64 0, .int .i64 0, .int .i64 0] ∧ Blk wr wb.heap.size 94 (aON n.world (.slice A nl c)) ∧ Blk wr (wb.heap.size + 1) 92 (aBx b') ∧ boxErr n b' = 0 ∧ TE = trkE n b' (L.drop j) ∧ pre ++ trk n b' (L.drop j) = b :: TR ∧ wr.ownsRow wc.heap.size 92 6 v (j + 1) (pre.flatMap cBox)) (fun _ i _ => ll - (intOf i).toNat)
  case atStart => exact ⟨0, b, [b], Nat.zero_le _, rfl, hba, k2a, k4a, k5a, hz0, hT.out, by rw [hR.out]; rfl, hown0⟩
  case round =>
    clear k2 k4 k5 k2a k4a k5a hown0 hba hb0 hT
    obtain ⟨j, b', pre, hj, rfl, hb0, k2, k4, k5, hbe, hT, hpre, hown⟩ := hrel
    replace hT := Lib.hid hT
    replace hown := Lib.hid hown
    replace hpre := Lib.hid hpre
    have hzr : wb.heap.size + 2 ≤ wr.heap.size := k5.lt
    by_cases hjt : j < ll
    · have hx : l[j]? = some (l[j]'(by rw [Hn.out]; exact hjt)) := List.getElem?_eq_getElem _
      generalize l[j]'(by rw [Hn.out]; exact hjt) = x at hx
      have hm : x ∈ l := List.mem_of_getElem? hx
      obtain ⟨bb, off, hA, hc⟩ := Hl.out.sl j x hx
      obtain ⟨hm1, hv1⟩ := hz1.out j x hx
      have haE := afterE_zero hbe hm1 hv1
      have hst := Lib.hid (hat.out b' j x hx)
      have hca := Lib.hid (hca.out b' x hm haE)
      have hnb := Lib.hid (after_box (n := n) (b := b') (s := x.s) (box_zero hbe).1)
      have hln := Lib.hid (hal.out b' j x hx)
      unfold vSt at hca
      clear hm hm1 hv1 haE hbe
      replace hx := Lib.hid hx
      generalize afterV n b' x.s = V at *
      generalize afterX n b' x.s = X at *
      subst hA
      have c0 : ∀ W, Below _ _ W → W.cell? ⟨bb, off + j * 9, none⟩ = some (.int .i64 x.s.mv.ticks) := later (kcell hb0 (hc 0 _ rfl))
      have c1 : ∀ W, Below _ _ W → W.cell? ⟨bb, off + j * 9 + 1, none⟩ = some (.int .i64 x.s.mv.speed.x.lo) := later (kcell hb0 (hc 1 _ rfl))
      have c2 : ∀ W, Below _ _ W → W.cell? ⟨bb, off + j * 9 + 2, none⟩ = some (.int .i64 x.s.mv.speed.x.hi) := later (kcell hb0 (hc 2 _ rfl))
      have c3 : ∀ W, Below _ _ W → W.cell? ⟨bb, off + j * 9 + 3, none⟩ = some (.int .i64 x.s.mv.speed.y.lo) := later (kcell hb0 (hc 3 _ rfl))
      have c4 : ∀ W, Below _ _ W → W.cell? ⟨bb, off + j * 9 + 4, none⟩ = some (.int .i64 x.s.mv.speed.y.hi) := later (kcell hb0 (hc 4 _ rfl))
      have c5 : ∀ W, Below _ _ W → W.cell? ⟨bb, off + j * 9 + 5, none⟩ = some (.int .i64 x.s.mv.speed.z.lo) := later (kcell hb0 (hc 5 _ rfl))
      have c6 : ∀ W, Below _ _ W → W.cell? ⟨bb, off + j * 9 + 6, none⟩ = some (.int .i64 x.s.mv.speed.z.hi) := later (kcell hb0 (hc 6 _ rfl))
      have c7 : ∀ W, Below _ _ W → W.cell? ⟨bb, off + j * 9 + 7, none⟩ = some (.slice x.A x.s.vt.rs.length x.c) := later (kcell hb0 (hc 7 _ rfl))
      have c8 : ∀ W, Below _ _ W → W.cell? ⟨bb, off + j * 9 + 8, none⟩ = some (.int .i64 x.s.vt.wrong) := later (kcell hb0 (hc 8 _ rfl))
      have hbw := hb0
      clear hb0
      have hb0 := bl_refl wr
      have Lk2 := k2.later
      have Fk2 := k2.laterF
      have Qk2 := k2.lt
      have Lk4 := k4.later
      have Fk4 := k4.laterF
      have Qk4 := k4.lt
      have Lk5 := k5.later
      have Fk5 := k5.laterF
      have Qk5 := k5.lt
      go_upto_region 8 with fail
      first
      | apply absB4 (w0 := wr) (g0 := w.heap.size + 2) (g1 := wb.heap.size) (g2 := wb.heap.size + 1) (g3 := wr.heap.size)
      | apply absTB4 (w0 := wr) (g0 := w.heap.size + 2) (g1 := wb.heap.size) (g2 := wb.heap.size + 1) (g3 := wr.heap.size)
      | apply absIB4 (w0 := wr) (g0 := w.heap.size + 2) (g1 := wb.heap.size) (g2 := wb.heap.size + 1) (g3 := wr.heap.size)
      iterate 5 (focus exact zL)
      try clear hb3
      try clear Lk2
      try clear Fk2
      try clear Qk2
      try clear Lk4
      try clear Fk4
      try clear Qk4
      try clear Lk5
      try clear Fk5
      try clear Qk5
      try clear hb0
      try clear k2
      try clear k4
      try clear k5
      try clear k6
      intro we hb0 k2 k4 k5 k6
      (try simp only [List.setIfInBounds_toArray, List.set_cons_zero, List.set_cons_succ] at k2 k4 k5 k6)
      have Lk2 := k2.later
      have Fk2 := k2.laterF
      have Qk2 := k2.lt
      have Lk4 := k4.later
      have Fk4 := k4.laterF
      have Qk4 := k4.lt
      have Lk5 := k5.later
      have Fk5 := k5.laterF
      have Qk5 := k5.lt
      have Lk6 := k6.later
      have Fk6 := k6.laterF
      have Qk6 := k6.lt
      clear c0 c1 c2 c3 c4 c5 c6 c7 c8
      go_wp2_with fail
      with_reducible refine Calls.mono (hca.out _ (bl_tr hbw (bl_tr hb0 (by (exact zE))))) ?_
      rintro e w3 ⟨o, rfl, hb3, ho⟩
      replace hb3 := bl_tt hb3
      apply absX3 (w0 := wr) (w := w3) (g0 := w.heap.size + 2) (g1 := wb.heap.size) (g2 := wb.heap.size + 1)
      iterate 4 (focus exact zL)
      try clear hb3
      try clear Lk2
      try clear Fk2
      try clear Qk2
      try clear Lk4
      try clear Fk4
      try clear Qk4
      try clear Lk5
      try clear Fk5
      try clear Qk5
      try clear Lk6
      try clear Fk6
      try clear Qk6
      try clear hb0
      try clear k2
      try clear k4
      try clear k5
      intro wf hb0 k2 k4 k5
      (try simp only [List.setIfInBounds_toArray, List.set_cons_zero, List.set_cons_succ] at k2 k4 k5)
      have hown2 := Lib.hid (own_below hown.out hb0)
      have hbf := bl_tr hbw hb0
      clear hown hbw hb0
      have hb0 := bl_refl wf
      have hzf : wb.heap.size + 2 ≤ wf.heap.size := k5.lt
      have Lk2 := k2.later
      have Fk2 := k2.laterF
      have Qk2 := k2.lt
      have Lk4 := k4.later
      have Fk4 := k4.laterF
      have Qk4 := k4.lt
      have Lk5 := k5.later
      have Fk5 := k5.laterF
      have Qk5 := k5.lt
      by_cases hX : X = 0
      · subst hX
        obtain rfl := ho rfl
        replace hnb := Lib.hid (hnb.out (by simp))
        rw [if_pos rfl] at hst
        go_upto_region 11 with fail
        first
        | apply goesK3 (X := [wb.heap.size + 1]) (w0 := wf) (g0 := w.heap.size + 2) (g1 := wb.heap.size) (g2 := wb.heap.size + 1)
        | apply absJK3 (X := [wb.heap.size + 1]) (w0 := wf) (g0 := w.heap.size + 2) (g1 := wb.heap.size) (g2 := wb.heap.size + 1)
        | apply absIK3 (X := [wb.heap.size + 1]) (w0 := wf) (g0 := w.heap.size + 2) (g1 := wb.heap.size) (g2 := wb.heap.size + 1)
        | apply absTK3 (X := [wb.heap.size + 1]) (w0 := wf) (g0 := w.heap.size + 2) (g1 := wb.heap.size) (g2 := wb.heap.size + 1)
        | apply absRK3 (X := [wb.heap.size + 1]) (w0 := wf) (g0 := w.heap.size + 2) (g1 := wb.heap.size) (g2 := wb.heap.size + 1)
        | apply absK3 (X := [wb.heap.size + 1]) (w0 := wf) (g0 := w.heap.size + 2) (g1 := wb.heap.size) (g2 := wb.heap.size + 1)
        iterate 4 (focus exact zL)
        try clear hb3
        try clear hb3x
        try clear Lk2
        try clear Fk2
        try clear Qk2
        try clear Lk4
        try clear Fk4
        try clear Qk4
        try clear Lk5
        try clear Fk5
        try clear Qk5
        try clear hb0
        try clear k2
        try clear k4
        try clear k5
        intro wg hb0 k2 k4 k5
        (try simp only [List.setIfInBounds_toArray, List.set_cons_zero, List.set_cons_succ] at k2 k4 k5)
        have hown3 := Lib.hid (own_bx hown2.out hb0 (by simp; omega))
        have hbg := bx_below hbf hb0 (by simp; omega)
        clear hb0 hown2 hbf
        have hb0 := hbg
        have Lk2 := k2.later
        have Fk2 := k2.laterF
        have Qk2 := k2.lt
        have Lk4 := k4.later
        have Fk4 := k4.laterF
        have Qk4 := k4.lt
        have Lk5 := k5.later
        have Fk5 := k5.laterF
        have Qk5 := k5.lt
        have hzg : wb.heap.size + 2 ≤ wg.heap.size := k5.lt
        have hge := own_ge hown3.out
        have hcg : wc.heap.size ≤ wg.heap.size := by
          rcases hown3.out.2 with ⟨-, h⟩ | ⟨g', _, _, e', h1', h2', _⟩
          · omega
          · have := (Array.getElem?_eq_some_iff.1 h2').1
            omega
        clear hge
        go_wp2_with (at_builtin; refine wpList_append_own _ rfl _ _ 114 rfl wc.heap.size 92 i0 _ 6 48 Tryz.underlying114 hi0 hy0 hy1 hy2 rfl (by decide) _ _ _ rfl (hown3.out.alloc _) ⟨wg.heap.size, 0, none⟩ 1 1 (cBox V.1) rfl rfl ?c1 ?c2 ?c3 ?c4 ?c5 ?_)
        try case c1 =>
          intro j' u hj'
          have e : (⟨wg.heap.size, 0, none⟩ : Addr).add j' = ⟨wg.heap.size, j', none⟩ := by by_cases h : j' = 0 <;> simp [Addr.add, h]
          rw [e, (Blk.new wg _ _).cell j', List.getElem?_toArray]
          exact hj'
        try case c2 =>
          intro u hu
          simp [cBox] at hu
          rcases hu with h | h | h | h | h | h <;> subst h <;> rfl
        try case c3 => unfold maxLen; omega
        try case c4 => omega
        try case c5 => simp; omega
        intro v' w1 hown4 hgrow _
        have hb5 : Below w.heap.size w w1 := (bl_al _ hbg).grown hgrow (by simp; omega) (fun k hk => by have := own_ge hown3.out k hk; omega)
        have k2' := (k2.alloc (.cells (cBox V.1).toArray 92)).grown (hown3.out.alloc _) hgrow (by omega)
        have k4' := (k4.alloc (.cells (cBox V.1).toArray 92)).grown (hown3.out.alloc _) hgrow (by omega)
        have k5' := (k5.alloc (.cells (cBox V.1).toArray 92)).grown (hown3.out.alloc _) hgrow (by omega)
        clear hgrow hown3
        replace hown4 := Lib.hid hown4
        go_wp2
        go_roundw
        case rel => exact ⟨j + 1, V.1, pre ++ [V.1], by omega, by go_num, hb5, k2', k4', k5', hnb.out, by rw [hT.out, hst.out], by rw [← hpre.out, hln.out]; simp, by rw [List.flatMap_append]; simpa using hown4.out⟩
        case measure => simp [intOf]; omega
      · have hX' : (X != 0) = true := by simp [hX]
        rw [if_neg hX] at hst
        have hTX : Hid (TE = X) := by rw [hT.out, hst.out]; exact Lib.hid rfl
        replace hX := Lib.hid hX
        have hb6 := hbf
        have hb0 := hbf
        go_wp2
        first
        | apply absPB1 (w0 := w) (g0 := w.heap.size + 2)
        | apply absPMB1 (w0 := w) (g0 := w.heap.size + 2)
        iterate 2 (focus exact zL)
        try clear hb3
        try clear hb0
        try clear k2
        intro wh hb0 k2
        (try simp only [List.setIfInBounds_toArray, List.set_cons_zero, List.set_cons_succ] at k2)
        have hr2 := k2.cell
        refine bodyPost_ret (v := .tuple #[vON0, .slice none 0 0, .int .i64 X]) (by simp [results, Tryz.results63, go_sem, hr2]) rfl ⟨hb0, fun _ => by rw [hTX.out], fun h => absurd (hTX.out ▸ h) hX.out⟩
    · obtain rfl : j = ll := by omega
      obtain ⟨hE1, hE2⟩ := hE0.out b'
      have hT0 := Lib.hid (hT.out.trans hE1)
      rw [hE2, List.append_nil] at hpre
      replace hown := Lib.hid hown.out
      rw [hpre.out] at hown
      rcases hown.out.2 with ⟨-, h0⟩ | ⟨g, cap, cur, ev, hg, hcell, _⟩
      · exact absurd h0 (by omega)
      subst ev
      have hgl := (Array.getElem?_eq_some_iff.1 hcell).1
      clear hcell
      have hbw := hb0
      clear hb0
      have hb0 := bl_refl wr
      have Lk2 := k2.later
      have Fk2 := k2.laterF
      have Qk2 := k2.lt
      have Lk4 := k4.later
      have Fk4 := k4.laterF
      have Qk4 := k4.lt
      go_wp2
      refine absPK (w0 := wr) (X := [w.heap.size + 2]) (g0 := w.heap.size + 2) (by (exact zX)) (by (exact zK)) (fun wh hb0 k2 => ?_)
      have hown3 := own_mono (show w.heap.size ≤ wc.heap.size by omega) (own_bx hown.out hb0 (by simp; omega))
      have hbg := bx_below hbw hb0 (by simp)
      have hr2 := k2.cell
      refine bodyPost_ret (v := .tuple #[vON n.world (.slice A nl c), .slice (some ⟨g, 0, none⟩) (j + 1) cap, .int .i64 0]) (by simp [results, Tryz.results63, go_sem, hr2]) rfl ⟨hbg, fun h => absurd hT0.out h, fun _ => ⟨g, cap, rfl, hown3⟩⟩
end Go.Proofs.YtephimmamkafoaaGreat
namespace Go.Proofs.YtephimmamkafoaaGreat
open Go.RowKit Go.Shelf
set_option maxRecDepth 20000
/-- The smoothed boxes. -/
def smo (n : Nt) : Bx → List St → List Bx
  | b, [] => [b]
  | b, s :: l => b.meet (back n.world ((smo n (afterV n b s).1 l).headD bx0) s.mv) :: smo n (afterV n b s).1 l
theorem smo_len (n : Nt) : ∀ (l : List St) (b : Bx), (smo n b l).length = l.length + 1
  | [], b => rfl
  | s :: l, b => by rw [smo, List.length_cons, List.length_cons, smo_len n l]
theorem smo_last (n : Nt) : ∀ (l : List St) (b : Bx), (smo n b l)[l.length]? = (b :: trk n b l)[l.length]?
  | [], b => rfl
  | s :: l, b => by
    rw [smo, trk, List.length_cons, List.getElem?_cons_succ, List.getElem?_cons_succ]
    exact smo_last n l _
theorem smo_step (n : Nt) : ∀ (l : List St) (b : Bx) (i : Nat) (s : St) (c d : Bx), l[i]? = some s → (b :: trk n b l)[i]? = some c → (smo n b l)[i + 1]? = some d → (smo n b l)[i]? = some (c.meet (back n.world d s.mv))
  | [], b, i, s, c, d => fun h _ _ => by cases h
  | s0 :: l, b, 0, s, c, d => fun h h1 h2 => by
    rw [smo, List.getElem?_cons_succ] at h2
    rw [List.getElem?_cons_zero] at h h1
    injection h with h
    injection h1 with h1
    subst h h1
    have hd : (smo n (afterV n b s0).1 l).headD bx0 = d := by
      cases hs : smo n (afterV n b s0).1 l with
      | nil => rw [hs] at h2; cases h2
      | cons x t => rw [hs] at h2; rw [List.getElem?_cons_zero] at h2; injection h2
    rw [smo, List.getElem?_cons_zero, hd]
  | s0 :: l, b, i + 1, s, c, d => fun h h1 h2 => by
    rw [smo, List.getElem?_cons_succ] at h2
    rw [List.getElem?_cons_succ] at h
    rw [trk, List.getElem?_cons_succ] at h1
    rw [smo, List.getElem?_cons_succ]
    exact smo_step n l _ i s c d h h1 h2
theorem after_sub {n : Nt} {b : Bx} {s : St} (hx : afterX n b s = 0) : (afterV n b s).1.sub (carried n.world b s.mv) := by
  have hg : (carried n.world b s.mv).ordered = true := by
    cases h : (carried n.world b s.mv).ordered
    · rw [afterX, h] at hx
      simp at hx
    · rfl
  have hne : (afterV n b s).2 ≠ 0 := by
    intro h0
    rw [afterX, if_pos hg, if_pos h0] at hx
    split at hx <;> cases hx
  exact ((votes_inv (okB n.bs s.vt.rs s.vt.wrong) (carried n.world b s.mv).pts).2 hne).2 _ fun q hq _ => mem_pts.1 hq
theorem mv_ordS {m : Mv} (h : mvErr m = 0) : m.speed.ordered = true := by
  unfold mvErr at h
  simp only [fst_cons, unl_zero (show (2 : Int) ≠ 0 by decide), unl_zero (show (9 : Int) ≠ 0 by decide)] at h
  exact h.2.1
theorem rg_good {w b d v : Rg} {t : Int} (ht : 0 ≤ t) (hv : v.lo ≤ v.hi) (hb : b.lo ≤ b.hi) (hw : w.lo ≤ b.lo ∧ b.hi ≤ w.hi) (hd : d.lo ≤ d.hi) (hs : ((b.carry v t).meet w).lo ≤ d.lo ∧ d.hi ≤ ((b.carry v t).meet w).hi) :
    ((d.carry v.neg t).meet w).lo ≤ ((d.carry v.neg t).meet w).hi ∧ (b.meet ((d.carry v.neg t).meet w)).lo ≤ (b.meet ((d.carry v.neg t).meet w)).hi := by
  have h1 := Int.mul_le_mul_of_nonneg_left hv ht
  obtain ⟨vl, vh⟩ := v
  simp only [Rg.carry, Rg.meet, Rg.neg, Int.mul_neg] at *
  generalize t * vl = x at *
  generalize t * vh = y at *
  omega
theorem back_good {w b d : Bx} {m : Mv} (hb : b.ordered = true) (hw : w.holds b = true) (hm : mvErr m = 0) (hd : d.ordered = true) (hs : d.sub (carried w b m)) :
    (back w d m).ordered = true ∧ (b.meet (back w d m)).ordered = true := by
  have ht := (mv_ok hm).1
  have hv := mv_ordS hm
  rw [Bx.ordered_iff] at hb hd hv
  rw [Bx.holds_iff] at hw
  obtain ⟨s1, s2, s3⟩ := hs
  obtain ⟨x1, x2⟩ := rg_good ht hv.1 hb.1 hw.1 hd.1 s1
  obtain ⟨y1, y2⟩ := rg_good ht hv.2.1 hb.2.1 hw.2.1 hd.2.1 s2
  obtain ⟨z1, z2⟩ := rg_good ht hv.2.2 hb.2.2 hw.2.2 hd.2.2 s3
  exact ⟨Bx.ordered_iff.2 ⟨x1, y1, z1⟩, Bx.ordered_iff.2 ⟨x2, y2, z2⟩⟩
theorem sub_meetl (b c : Bx) : (b.meet c).sub b := by
  unfold Bx.sub Bx.meet Rg.meet
  dsimp only
  omega
theorem sub_trans {a b c : Bx} (h : a.sub b) (h' : b.sub c) : a.sub c := by
  unfold Bx.sub at *
  omega
theorem sub_holds {w b d : Bx} (h : w.holds b = true) (hs : d.sub b) : w.holds d = true := by
  rw [Bx.holds_iff] at *
  unfold Bx.sub at hs
  omega
theorem box_sub {n : Nt} {b d : Bx} (h : boxErr n b = 0) (hs : d.sub b) (ho : d.ordered = true) : boxErr n d = 0 := by
  obtain ⟨h1, _, h3⟩ := box_zero h
  simp [boxErr, h1, ho, sub_holds h3 hs, unl, fstE]
/-- Each smoothed box is a valid one, within that of the track. -/
theorem smo_good {n : Nt} : ∀ (l : List St) (b : Bx), boxErr n b = 0 → (∀ s ∈ l, mvErr s.mv = 0) → trkE n b l = 0 →
    ∀ (i : Nat) (c d : Bx), (b :: trk n b l)[i]? = some c → (smo n b l)[i]? = some d → boxErr n c = 0 ∧ boxErr n d = 0 ∧ d.sub c
  | [], b, hb, _, _, i, c, d, h1, h2 => by
    cases i with
    | zero =>
      rw [smo, List.getElem?_cons_zero] at h2
      rw [trk, List.getElem?_cons_zero] at h1
      injection h1 with h1
      injection h2 with h2
      subst h1 h2
      exact ⟨hb, hb, by unfold Bx.sub; omega⟩
    | succ i => cases h2
  | s :: l, b, hb, hm, he, i, c, d, h1, h2 => by
    have hx : afterX n b s = 0 := by
      by_cases h : afterX n b s = 0
      · exact h
      · rw [trkE, if_neg h] at he
        exact absurd he h
    rw [trkE, if_pos hx] at he
    have hb' := after_box (box_zero hb).1 hx
    have ih := smo_good l (afterV n b s).1 hb' (fun s' h => hm s' (List.mem_cons_of_mem _ h)) he
    cases i with
    | zero =>
      rw [smo, List.getElem?_cons_zero] at h2
      rw [trk, List.getElem?_cons_zero] at h1
      injection h1 with h1
      injection h2 with h2
      subst h1
      have hl := smo_len n l (afterV n b s).1
      cases hs : smo n (afterV n b s).1 l with
      | nil => rw [hs] at hl; simp at hl
      | cons x t =>
        obtain ⟨_, g2, g3⟩ := ih 0 (afterV n b s).1 x rfl (by rw [hs]; rfl)
        obtain ⟨_, o1, o2⟩ := box_zero hb
        have k := back_good o1 o2 (hm s List.mem_cons_self) (box_zero g2).2.1 (sub_trans g3 (after_sub hx))
        rw [hs] at h2
        subst h2
        exact ⟨hb, box_sub hb (sub_meetl _ _) k.2, sub_meetl _ _⟩
    | succ i =>
      rw [smo, List.getElem?_cons_succ] at h2
      rw [trk, List.getElem?_cons_succ] at h1
      exact ih i c d h1 h2
/-- At each step of smoothing the box carried back is not empty, and meets that of the track. -/
theorem smo_at {n : Nt} {l : List St} {b : Bx} (hb : boxErr n b = 0) (hm : ∀ s ∈ l, mvErr s.mv = 0) (he : trkE n b l = 0) {i : Nat} {s : St} {c d : Bx} (hs : l[i]? = some s) (hc : (b :: trk n b l)[i]? = some c) (hd : (smo n b l)[i + 1]? = some d) :
    d.in 10000 ∧ (back n.world d s.mv).ordered = true ∧ (c.meet (back n.world d s.mv)).ordered = true ∧ (smo n b l)[i]? = some (c.meet (back n.world d s.mv)) := by
  have h0 := smo_step n l b i s c d hs hc hd
  have hl : i + 1 < (b :: trk n b l).length := by
    rw [List.length_cons, trk_len]
    have := (List.getElem?_eq_some_iff.1 hs).1
    omega
  obtain ⟨g1, g2, g3⟩ := smo_good l b hb hm he i c _ hc h0
  obtain ⟨g4, g5, g6⟩ := smo_good l b hb hm he (i + 1) _ d (List.getElem?_eq_getElem hl) hd
  refine ⟨(box_ok g5).in, ?_, (box_zero g2).2.1, h0⟩
  have g7 := (box_zero g2).2.1
  rw [Bx.ordered_iff] at g7 ⊢
  unfold Bx.meet Rg.meet at g7
  dsimp only at g7
  omega
end Go.Proofs.YtephimmamkafoaaGreat
namespace Go.Proofs.YtephimmamkafoaaGreat
theorem Bx.has_iff {a : Bx} {p : Pl} : a.has p = true ↔ (a.x.lo ≤ p.x ∧ p.x ≤ a.x.hi) ∧ (a.y.lo ≤ p.y ∧ p.y ≤ a.y.hi) ∧ (a.z.lo ≤ p.z ∧ p.z ≤ a.z.hi) := by
  simp [Bx.has, inR, and_assoc]
theorem Rg.meet_iff {a b : Rg} {x : Int} : ((a.meet b).lo ≤ x ∧ x ≤ (a.meet b).hi) ↔ (a.lo ≤ x ∧ x ≤ a.hi) ∧ (b.lo ≤ x ∧ x ≤ b.hi) := by
  simp only [Rg.meet, Int.max_le, Int.le_min]
  constructor
  · rintro ⟨⟨h1, h2⟩, h3, h4⟩
    exact ⟨⟨h1, h3⟩, h2, h4⟩
  · rintro ⟨⟨h1, h3⟩, h2, h4⟩
    exact ⟨⟨h1, h2⟩, h3, h4⟩
theorem Bx.meet_has {a b : Bx} {p : Pl} : (a.meet b).has p = true ↔ a.has p = true ∧ b.has p = true := by
  simp only [Bx.has_iff, Bx.meet, Rg.meet_iff]
  constructor
  · rintro ⟨⟨h1, h2⟩, ⟨h3, h4⟩, h5, h6⟩
    exact ⟨⟨h1, h3, h5⟩, h2, h4, h6⟩
  · rintro ⟨⟨h1, h3, h5⟩, h2, h4, h6⟩
    exact ⟨⟨h1, h2⟩, ⟨h3, h4⟩, h5, h6⟩
theorem has_ord {a : Bx} {p : Pl} (h : a.has p = true) : a.ordered = true := by
  rw [Bx.has_iff] at h
  rw [Bx.ordered_iff]
  omega
theorem holds_has {w b : Bx} {p : Pl} (h : w.holds b = true) (hp : b.has p = true) : w.has p = true := by
  rw [Bx.holds_iff] at h
  rw [Bx.has_iff] at hp ⊢
  omega
end Go.Proofs.YtephimmamkafoaaGreat
namespace Go.Proofs.YtephimmamkafoaaGreat
open Go.RowKit Go.Shelf
set_option maxRecDepth 20000
def within3 (p q : Pl) (m : Mv) : Bool := inR (q.x - p.x) (m.ticks * m.speed.x.lo) (m.ticks * m.speed.x.hi) && (inR (q.y - p.y) (m.ticks * m.speed.y.lo) (m.ticks * m.speed.y.hi) && inR (q.z - p.z) (m.ticks * m.speed.z.lo) (m.ticks * m.speed.z.hi))
/-- Whether a position may follow upon another one in a step. -/
def stepB (n : Nt) (p q : Pl) (s : St) : Bool := n.world.has q && (okB n.bs s.vt.rs s.vt.wrong q && within3 p q s.mv)
def pathB (n : Nt) : Pl → List St → List Pl → Bool
  | p, s :: l, q :: t => stepB n p q s && pathB n q l t
  | _, _, _ => true
theorem carr_has {w b : Bx} {p q : Pl} {m : Mv} (hp : b.has p = true) (hq : w.has q = true) (h : within3 p q m = true) : (carried w b m).has q = true := by
  refine Bx.meet_has.2 ⟨?_, hq⟩
  unfold within3 at h
  simp only [Bool.and_eq_true, inR_iff] at h
  rw [Bx.has_iff] at hp ⊢
  simp only [Bx.carry, Rg.carry]
  omega
theorem back_has {w d : Bx} {p q : Pl} {m : Mv} (hp : w.has p = true) (hq : d.has q = true) (h : within3 p q m = true) : (back w d m).has p = true := by
  refine Bx.meet_has.2 ⟨?_, hp⟩
  unfold within3 at h
  simp only [Bool.and_eq_true, inR_iff] at h
  rw [Bx.has_iff] at hq ⊢
  simp only [Bx.carry, Rg.carry, Mv.neg, Rg.neg, Int.mul_neg]
  omega
theorem path_step {n : Nt} {b : Bx} {p q : Pl} {s : St} (hp : b.has p = true) (h : stepB n p q s = true) : within3 p q s.mv = true ∧ n.world.has q = true ∧ (afterX n b s ≠ 0 → afterX n b s = 8) ∧ (afterV n b s).1.has q = true := by
  unfold stepB at h
  simp only [Bool.and_eq_true] at h
  obtain ⟨h1, h2, h3⟩ := h
  have hc := carr_has hp h1 h3
  have hne : (afterV n b s).2 ≠ 0 := by
    show (votesOf (okB n.bs s.vt.rs s.vt.wrong) (carried n.world b s.mv).pts).2 ≠ 0
    rw [(votes_inv (okB n.bs s.vt.rs s.vt.wrong) (carried n.world b s.mv).pts).1]
    intro h
    exact List.countP_eq_zero.1 h q (mem_pts.2 hc) h2
  refine ⟨h3, h1, fun hx => ?_, ((votes_inv (okB n.bs s.vt.rs s.vt.wrong) (carried n.world b s.mv).pts).2 hne).1 q (mem_pts.2 hc) h2⟩
  unfold afterX at hx ⊢
  rw [if_pos (has_ord hc), if_neg hne] at hx ⊢
  split at hx
  · exact absurd rfl hx
  · rename_i h
    rw [if_neg h]
theorem path_err {n : Nt} : ∀ (l : List St) (b : Bx) (p : Pl) (t : List Pl), b.has p = true → t.length = l.length → pathB n p l t = true → trkE n b l ≠ 0 → trkE n b l = 8
  | [], b, p, t, hp, hl, h, he => absurd rfl he
  | s :: l, b, p, [], hp, hl, h, he => by cases hl
  | s :: l, b, p, q :: t, hp, hl, h, he => by
    rw [pathB, Bool.and_eq_true] at h
    obtain ⟨-, -, hx, hv⟩ := path_step (b := b) hp h.1
    rw [trkE] at he ⊢
    by_cases h0 : afterX n b s = 0
    · rw [if_pos h0] at he ⊢
      exact path_err l _ q t hv (by simpa using hl) h.2 he
    · rw [if_neg h0]
      exact hx h0
theorem path_trk {n : Nt} : ∀ (l : List St) (b : Bx) (p : Pl) (t : List Pl), b.has p = true → pathB n p l t = true →
    ∀ (i : Nat) (c : Bx) (q : Pl), (b :: trk n b l)[i]? = some c → (p :: t)[i]? = some q → c.has q = true
  | l, b, p, t, hp, h, 0, c, q, h1, h2 => by
    rw [List.getElem?_cons_zero] at h1 h2
    injection h1 with h1
    injection h2 with h2
    rw [← h1, ← h2]
    exact hp
  | [], b, p, t, hp, h, i + 1, c, q, h1, h2 => by cases h1
  | s :: l, b, p, [], hp, h, i + 1, c, q, h1, h2 => by cases h2
  | s :: l, b, p, r :: t, hp, h, i + 1, c, q, h1, h2 => by
    rw [pathB, Bool.and_eq_true] at h
    obtain ⟨-, -, -, hv⟩ := path_step (b := b) hp h.1
    rw [List.getElem?_cons_succ] at h1 h2
    rw [trk] at h1
    exact path_trk l _ r t hv h.2 i c q h1 h2
theorem path_smo {n : Nt} : ∀ (l : List St) (b : Bx) (p : Pl) (t : List Pl), b.has p = true → n.world.has p = true → t.length = l.length → pathB n p l t = true →
    ∀ (i : Nat) (d : Bx) (q : Pl), (smo n b l)[i]? = some d → (p :: t)[i]? = some q → d.has q = true
  | [], b, p, t, hp, hw, hl, h, 0, d, q, h1, h2 => by
    rw [smo, List.getElem?_cons_zero] at h1
    rw [List.getElem?_cons_zero] at h2
    injection h1 with h1
    injection h2 with h2
    rw [← h1, ← h2]
    exact hp
  | [], b, p, t, hp, hw, hl, h, i + 1, d, q, h1, h2 => by cases h1
  | s :: l, b, p, [], hp, hw, hl, h, i, d, q, h1, h2 => by cases hl
  | s :: l, b, p, r :: t, hp, hw, hl, h, 0, d, q, h1, h2 => by
    rw [pathB, Bool.and_eq_true] at h
    obtain ⟨hm, hr, -, hv⟩ := path_step (b := b) hp h.1
    have ih := path_smo l _ r t hv hr (by simpa using hl) h.2 0
    rw [List.getElem?_cons_zero] at h2
    injection h2 with h2
    subst h2
    have hlen := smo_len n l (afterV n b s).1
    cases hs : smo n (afterV n b s).1 l with
    | nil => rw [hs] at hlen; simp at hlen
    | cons x tl =>
      rw [smo, List.getElem?_cons_zero, hs] at h1
      injection h1 with h1
      subst h1
      exact Bx.meet_has.2 ⟨hp, back_has hw (ih x r (by rw [hs]; rfl) rfl) hm⟩
  | s :: l, b, p, r :: t, hp, hw, hl, h, i + 1, d, q, h1, h2 => by
    rw [pathB, Bool.and_eq_true] at h
    obtain ⟨-, hr, -, hv⟩ := path_step (b := b) hp h.1
    rw [List.getElem?_cons_succ] at h2
    rw [smo, List.getElem?_cons_succ] at h1
    exact path_smo l _ r t hv hr (by simpa using hl) h.2 i d q h1 h2
/-- One more position of a path. -/
theorem pathB_at {n : Nt} {l : List St} {t : List Pl} {i : Nat} {s : St} {p q : Pl} (hs : l[i]? = some s) (hp : t[i]? = some p) (hq : t[i + 1]? = some q) :
    pathB n p (l.drop i) (t.drop (i + 1)) = (stepB n p q s && pathB n q (l.drop (i + 1)) (t.drop (i + 2))) := by
  have h1 := (List.getElem?_eq_some_iff.1 hs).1
  have h2 := (List.getElem?_eq_some_iff.1 hq).1
  rw [List.drop_eq_getElem_cons h1, (List.getElem?_eq_some_iff.1 hs).2, List.drop_eq_getElem_cons h2, (List.getElem?_eq_some_iff.1 hq).2, pathB]
end Go.Proofs.YtephimmamkafoaaGreat
