/-
  Walks: whether positions are a path, by the library.
-/
import Derived.Test.YtephimmamkafoaaGreatUH4
set_option linter.unusedSimpArgs false
set_option linter.unusedVariables false
namespace Go.Proofs.YtephimmamkafoaaGreat
open Go.RowKit Go.Shelf
attribute [local go_sem] bl_al bl_drew bl_drewN bl_refl bx_al bx_drew bx_drewN bx_refl index_b0 index_b1 index_b2
set_option maxRecDepth 20000
def cPl (p : Pl) : List Value := [.int .i64 p.x, .int .i64 p.y, .int .i64 p.z]
def isPB (n : Nt) (b : Bx) (l : List St) : List Pl → Bool
  | p :: t => b.has p && pathB n p l t
  | [] => true
def isPE (n : Nt) (b : Bx) (l : List St) (t : List Pl) : Int := fstE [stepsErr n b l, unl (decide (t.length = l.length + 1)) 10]
theorem okB_idx (bs : List Bc) (l : List Rd) (k : Int) (p : Pl) (h : l.length ≤ 8) : okB bs l k p = !decide (k < ((idxs (bitsTo (wrongB bs p l) l.length) true l.length).length : Int)) := by
  rw [okB_ref bs l k p h]
  have h1 := wrongL_len bs l p
  unfold wrongL at h1
  rw [Bool.eq_iff_iff]
  simp
  omega
theorem world_in {n : Nt} (h : netErr n = 0) {p : Pl} (hp : n.world.has p = true) : p.in 10000 := pts_in (net_world_ok h) (mem_pts.2 hp)
theorem isPE_zero {n : Nt} {b : Bx} {l : List St} {t : List Pl} (h : isPE n b l t = 0) : stepsErr n b l = 0 ∧ t.length = l.length + 1 := by
  unfold isPE at h
  simp only [fst_cons, unl_zero (show (10 : Int) ≠ 0 by decide), decide_eq_true_eq] at h
  exact ⟨h.1, h.2.1⟩
theorem has_world {n : Nt} {b : Bx} (h : boxErr n b = 0) {p : Pl} (hp : b.has p = true) : n.world.has p = true := holds_has (box_zero h).2.2 hp
set_option maxHeartbeats 16000000 in
theorem c_IsPath (n : Nt) (b : Bx) (l : List StA) (t : List Pl) (A A' AP : Option Addr) (c c' cp : Nat) (w : World) (hn : NtIn n A c w) (hl : StsIn l A' w) (hll : few1 l) (hlb : n.bs.length ≤ 1000) (ht : Sl cPl 3 w AP t) (htl : t.length ≤ 1000) :
    Calls Tryz.prog 24 #[vNt n.world (.slice A n.bs.length c), vBx b, .slice A' l.length c', .slice AP t.length cp] w (Ret (.tuple #[.bool (decide (isPE n b (l.map (·.s)) t = 0) && isPB n b (l.map (·.s)) t), .int .i64 (isPE n b (l.map (·.s)) t)]) w) := by
  have hop := Lib.hid fun (W : World) (hb : Below w.heap.size w W) => c_openSteps n b l A A' c c' W (hn.below hb) (hl.below hb) hll hlb
  have hcw := Lib.hid fun (x : StA) (hx : x ∈ l) (q : Pl) (hq : q.in 10000) (h8 : x.s.vt.rs.length ≤ 8) (hr : ∀ r ∈ x.s.vt.rs, r.ok n.bs) (W : World) (hb : Below w.heap.size w W) => c_wrong n.world n.bs A x.A c x.c x.s.vt.rs q W (hn.sl.below hb) hlb ((hl.rd x hx).below hb) h8 hq hr
  have hE : Hid (isPE n b (l.map (·.s)) t = fstE [stepsErr n b (l.map (·.s)), unl (decide (t.length = l.length + 1)) 10]) := by rw [isPE, List.length_map]; exact Lib.hid rfl
  have hz : Hid (isPE n b (l.map (·.s)) t = 0 → boxErr n b = 0 ∧ netErr n = 0 ∧ t.length = l.length + 1 ∧ ∀ (j : Nat) (x : StA), l[j]? = some x → x.s.mv.ok ∧ x.s.vt.rs.length ≤ 8 ∧ ∀ r ∈ x.s.vt.rs, r.ok n.bs) := fun h => by
    obtain ⟨h1, h2⟩ := isPE_zero h
    obtain ⟨h3, h4⟩ := steps_zero h1
    refine ⟨h3, (box_zero h3).1, by rw [List.length_map] at h2; exact h2, fun j x hx => ?_⟩
    have h5 := after_ok (afterE_zero h3 (h4 j x hx).1 (h4 j x hx).2)
    exact ⟨mv_ok (h4 j x hx).1, h5.2.2.1, h5.2.2.2⟩
  have Hl := Lib.hid hl
  have Ht := Lib.hid ht
  have hl1 := hll.1
  have hat : Hid (∀ (j : Nat) (x : StA) (p q : Pl), l[j]? = some x → t[j]? = some p → t[j + 1]? = some q → pathB n p ((l.map (·.s)).drop j) (t.drop (j + 1)) = (stepB n p q x.s && pathB n q ((l.map (·.s)).drop (j + 1)) (t.drop (j + 2)))) := fun j x p q h1 h2 h3 => pathB_at (by simp [h1]) h2 h3
  have hend : Hid (∀ p, pathB n p ((l.map (·.s)).drop l.length) (t.drop (l.length + 1)) = true) := fun p => by rw [← show (l.map (fun x : StA => x.s)).length = l.length from List.length_map _, List.drop_length]; cases t.drop ((l.map (fun x : StA => x.s)).length + 1) <;> rfl
  have hP0 : Hid (∀ p, t[0]? = some p → isPB n b (l.map (·.s)) t = (b.has p && pathB n p ((l.map (·.s)).drop 0) (t.drop 1))) := fun p h => by
    cases t with
    | nil => cases h
    | cons q t' => rw [List.getElem?_cons_zero] at h; injection h with h; subst h; rfl
  clear hn hl hll ht
  generalize isPE n b (l.map (·.s)) t = IE at *
  generalize isPB n b (l.map (·.s)) t = IB at *
  generalize stepsErr n b (l.map (·.s)) = SE at *
  generalize l.map (·.s) = L at *
  generalize hnl : n.bs.length = nl at *
  clear hnl
  obtain ⟨ll, Hn⟩ : ∃ k, Hid (l.length = k) := ⟨_, rfl⟩
  obtain ⟨tl, Htn⟩ : ∃ k, Hid (t.length = k) := ⟨_, rfl⟩
  rw [Hn.out] at hl1 hend hE hop hz ⊢
  rw [Htn.out] at htl hE hz ⊢
  go_enter Tryz.func24, Tryz.ntmps24
  go_upto_region 1 with fail
  apply absB2 (w0 := w) (g0 := w.heap.size) (g1 := w.heap.size + 1)
  iterate 3 (focus exact zL)
  try clear hb3
  try clear hb0
  try clear k0
  try clear k1
  intro wa hb0 k0 k1
  (try simp only [List.setIfInBounds_toArray, List.set_cons_zero, List.set_cons_succ] at k0 k1)
  have Lk0 := k0.later
  have Fk0 := k0.laterF
  have Qk0 := k0.lt
  have Lk1 := k1.later
  have Fk1 := k1.laterF
  have Qk1 := k1.lt
  go_wp2_with fail
  with_reducible refine Calls.mono (hop.out _ (bl_tr hb0 (by (exact zE)))) ?_
  rintro e w3 ⟨rfl, hb3⟩
  replace hb3 := bl_tt hb3
  apply absX2 (w0 := w) (w := w3) (g0 := w.heap.size) (g1 := w.heap.size + 1)
  iterate 3 (focus exact zL)
  try clear hb3
  try clear Lk0
  try clear Fk0
  try clear Qk0
  try clear Lk1
  try clear Fk1
  try clear Qk1
  try clear hb0
  try clear k0
  try clear k1
  intro wb hb0 k0 k1
  (try simp only [List.setIfInBounds_toArray, List.set_cons_zero, List.set_cons_succ] at k0 k1)
  have Lk0 := k0.later
  have Fk0 := k0.laterF
  have Qk0 := k0.lt
  have Lk1 := k1.later
  have Fk1 := k1.laterF
  have Qk1 := k1.lt
  have hzb : w.heap.size + 2 ≤ wb.heap.size := by have := k1.lt; omega
  go_upto_region 2 with fail
  apply absB2 (w0 := w) (g0 := wb.heap.size) (g1 := wb.heap.size + 1)
  iterate 3 (focus exact zL)
  try clear hb3
  try clear Lk0
  try clear Fk0
  try clear Qk0
  try clear Lk1
  try clear Fk1
  try clear Qk1
  try clear hb0
  try clear k2
  try clear k3
  intro wc hb0 k2 k3
  (try simp only [List.setIfInBounds_toArray, List.set_cons_zero, List.set_cons_succ] at k2 k3)
  have Lk2 := k2.later
  have Fk2 := k2.laterF
  have Qk2 := k2.lt
  have Lk3 := k3.later
  have Fk3 := k3.laterF
  have Qk3 := k3.lt
  obtain ⟨D, hD⟩ : ∃ D, decide (tl = ll + 1) = D := ⟨_, rfl⟩
  rw [hD] at hE
  have hD2 : ((tl : Int) == (ll : Int) + 1) = D := by rw [← hD, Bool.eq_iff_iff]; simp; omega
  replace hD := Lib.hid hD
  go_upto_region 3 with (first | (go_at_call 49; (with_reducible refine (c_unless _ _ _).mono ?_); rintro e w3 ⟨rfl, rfl⟩) | (go_at_call 48; (with_reducible refine (c_first2 (Blk.new _ _ _)).mono ?_); rintro e w3 ⟨rfl, rfl⟩))
  clear hD2
  apply absB2 (w0 := w) (g0 := wb.heap.size) (g1 := wb.heap.size + 1)
  iterate 3 (focus exact zL)
  try clear hb3
  try clear Lk2
  try clear Fk2
  try clear Qk2
  try clear Lk3
  try clear Fk3
  try clear Qk3
  try clear hb0
  try clear k2
  try clear k3
  intro wd hb0 k2 k3
  (try simp only [List.setIfInBounds_toArray, List.set_cons_zero, List.set_cons_succ] at k2 k3)
  have Lk2 := k2.later
  have Fk2 := k2.laterF
  have Qk2 := k2.lt
  have Lk3 := k3.later
  have Fk3 := k3.laterF
  have Qk3 := k3.lt
  rw [← hE.out]
  by_cases h0 : IE = 0
  case neg =>
    have h0' : (IE != 0) = true := by simp [h0]
    have hd0 : Hid (decide (IE = 0) = false) := by simp [h0]; exact Lib.hid trivial
    replace h0 := Lib.hid h0
    go_wp2
    go_ret2
    exact ⟨by rw [hd0.out] <;> rfl, hb0⟩
  obtain ⟨hbe, hne, htl1, hst⟩ := hz.out h0
  subst h0
  replace hst := Lib.hid hst
  clear hz hE hop hD
  have hd0 : Hid (decide ((0 : Int) = 0) = true) := by simp; exact Lib.hid trivial
  rw [hd0.out, Bool.true_and]
  obtain ⟨p0, hp0⟩ : ∃ p, t[0]? = some p := ⟨t[0]'(by rw [Htn.out, htl1]; exact Nat.succ_pos _), List.getElem?_eq_getElem _⟩
  obtain ⟨pb, po, hPA, hpc⟩ := Ht.out 0 p0 hp0
  have hIB := Lib.hid (hP0.out p0 hp0)
  have hw0 := Lib.hid fun h : b.has p0 = true => has_world hbe h
  have hwi := Lib.hid fun (p : Pl) (h : n.world.has p = true) => world_in hne h
  subst hPA
  replace hpc := Lib.hid hpc
  replace hp0 := Lib.hid hp0
  clear hP0 hbe hne
  have htl2 : 0 < tl := by omega
  replace htl1 := Lib.hid htl1
  have hch := Lib.hid fun W => c_has b p0 W
  generalize hHB : b.has p0 = HB at *
  replace hHB := Lib.hid hHB
  have hpz : Hid (∀ (j : Nat) (v : Value), (cPl p0)[j]? = some v → w.cell? ⟨pb, po + j, none⟩ = some v) := fun j v h => by have := hpc.out j v h; simpa using this
  have q0 : ∀ W, Below _ _ W → W.cell? ⟨pb, po, none⟩ = some (.int .i64 p0.x) := later (kcell hb0 (hpz.out 0 _ rfl))
  have q1 : ∀ W, Below _ _ W → W.cell? ⟨pb, po + 1, none⟩ = some (.int .i64 p0.y) := later (kcell hb0 (hpz.out 1 _ rfl))
  have q2 : ∀ W, Below _ _ W → W.cell? ⟨pb, po + 2, none⟩ = some (.int .i64 p0.z) := later (kcell hb0 (hpz.out 2 _ rfl))
  go_upto_region 5 with fail
  refine wp_any (w0 := wd) ⟨[], [], [some 40, some 41, some 42, some 43, some 44, some 45, some 46], [[], [], [1], [1, 2], [1, 2, 3], [0, 1, 2, 3, 4], [0, 1, 2, 3, 4, 5]], [[], [], [1], [2], [3], [0, 4], [5]]⟩ (fun _ => []) (by kernel_rfl) (by kernel_rfl) (by (exact zE)) (fun u => by simp only [putD, Act.put, List.setIfInBounds_toArray, List.set_cons_zero, List.set_cons_succ, Nat.zero_add, Nat.reduceAdd]; rfl) ?_
  apply RGW.on (i := 0) rfl
  · exact zG
  · intro γ u W hcur hd
    clear hd
    (try dsimp only)
    exact ⟨rfl, zS⟩
  · exact zC
  · rfl
  dsimp only [nA, cA]
  apply RGW.on (i := 1) rfl
  · exact zG
  · intro γ u W hcur hd
    clear hd
    (try dsimp only)
    exact ⟨rfl, zS⟩
  · exact zC
  · rfl
  dsimp only [nA, cA]
  apply RGW.on (i := 2) rfl
  · exact zG
  · intro γ u W hcur hd
    obtain ⟨⟨h1, -, -⟩, -⟩ := hd
    dsimp only at h1
    (try simp only [h1])
    exact ⟨rfl, zS⟩
  · exact zC
  · rfl
  dsimp only [nA, cA]
  apply RGW.on (i := 3) rfl
  · exact zG
  · intro γ u W hcur hd
    obtain ⟨⟨h2, -, -⟩, -⟩ := hd
    dsimp only at h2
    (try simp only [h2])
    exact ⟨rfl, zS⟩
  · exact zC
  · rfl
  dsimp only [nA, cA]
  apply RGW.call (i := 4) rfl
  · exact zG
  · intro γ u W hcur hd
    obtain ⟨⟨h3, -, -⟩, -⟩ := hd
    dsimp only at h3
    (try simp only [h3])
    refine ⟨rfl, fun K hK => ?_⟩
    go_simp
    (go_at_call 71; (with_reducible refine (c_at p0 _).mono ?_); rintro e w3 ⟨rfl, hb3⟩; replace hb3 := bl_tt hb3)
    (try dsimp only)
    exact hK.out _ _ rfl (by (exact zE))
  · exact zC
  · rfl
  dsimp only [nA, cA]
  apply RGW.call (i := 5) rfl
  · exact zG
  · intro γ u W hcur hd
    obtain ⟨⟨h0, -, -⟩, ⟨h4, -, -⟩, -⟩ := hd
    dsimp only at h0 h4
    (try simp only [h0, h4])
    refine ⟨rfl, fun K hK => ?_⟩
    go_simp
    (go_at_call 70; (with_reducible refine (hch.out _).mono ?_); rintro e w3 ⟨rfl, hb3⟩; replace hb3 := bl_tt hb3)
    (try dsimp only)
    exact hK.out _ _ rfl (by (exact zE))
  · exact zC
  · rfl
  dsimp only [nA, cA]
  apply RGW.on (i := 6) rfl
  · exact zG
  · intro γ u W hcur hd
    obtain ⟨⟨h5, -, -⟩, -⟩ := hd
    dsimp only at h5
    (try simp only [h5])
    exact ⟨rfl, zS⟩
  · exact zC
  · rfl
  dsimp only [nA, cA]
  refine RGW.fin (fun γ u we hwe hd hdis => ?_)
  obtain ⟨⟨h0, -, -⟩, ⟨h1, -, -⟩, ⟨h2, -, -⟩, ⟨h3, -, -⟩, ⟨h4, -, -⟩, ⟨h5, -, -⟩, ⟨h6, -, -⟩, -⟩ := hd
  dsimp only at h0 h1 h2 h3 h4 h5 h6
  clear hdis
  simp only [h0, h1, h2, h3, h4, h5, h6]
  clear h6 h5 h4 h3 h2 h1 h0
  clear u
  simp only [List.map_nil]
  refine PlanW.done ?_
  have hb3 := bl_tt hwe
  clear q0 q1 q2
  apply absTB1 (w0 := w) (g0 := wb.heap.size)
  iterate 2 (focus exact zL)
  try clear hb3
  try clear Lk2
  try clear Fk2
  try clear Qk2
  try clear Lk3
  try clear Fk3
  try clear Qk3
  try clear hb0
  try clear k2
  intro wf hb0 k2
  (try simp only [List.setIfInBounds_toArray, List.set_cons_zero, List.set_cons_succ] at k2)
  have Lk2 := k2.later
  have Fk2 := k2.laterF
  have Qk2 := k2.lt
  cases HB
  · go_wp2
    go_ret2
    exact ⟨by rw [hIB.out] <;> rfl, hb0⟩
  have hwp0 := hw0.out rfl
  replace hIB : Hid (IB = pathB n p0 (L.drop 0) (t.drop 1)) := by rw [hIB.out]; exact Lib.hid rfl
  clear hpc hw0 hHB hch hpz
  replace hwp0 := Lib.hid hwp0
  clear Lk2 Fk2
  go_wp2
  go_loopw [49] (fun i wr => ∃ (j : Nat) (p : Pl), j ≤ ll ∧ i = .int .i64 j ∧ t[j]? = some p ∧ n.world.has p = true ∧ IB = pathB n p (L.drop j) (t.drop (j + 1)) ∧ Below w.heap.size w wr ∧ Blk wr wb.heap.size 94 (aON n.world (.slice A nl c))) (fun i _ => ll - (intOf i).toNat)
  case atStart => exact ⟨0, p0, Nat.zero_le _, rfl, hp0.out, hwp0.out, hIB.out, hb0, k2⟩
  case round =>
    clear k2 hb0 hIB hwp0 hp0
    obtain ⟨j, p, hj, rfl, hp, hwp, hIB, hb0, k2⟩ := hrel
    replace hIB := Lib.hid hIB
    by_cases hjt : j < ll
    · have hx : l[j]? = some (l[j]'(by rw [Hn.out]; exact hjt)) := List.getElem?_eq_getElem _
      generalize l[j]'(by rw [Hn.out]; exact hjt) = x at hx
      have hq : t[j + 1]? = some (t[j + 1]'(by rw [Htn.out, htl1.out]; omega)) := List.getElem?_eq_getElem _
      generalize t[j + 1]'(by rw [Htn.out, htl1.out]; omega) = q at hq
      have hm : x ∈ l := List.mem_of_getElem? hx
      obtain ⟨bb, off, hA, hc⟩ := Hl.out.sl j x hx
      obtain ⟨hmo, h8, hro⟩ := hst.out j x hx
      obtain ⟨pb', po', e1, hpc⟩ := Ht.out j p hp
      obtain ⟨pb'', po'', e2, hqc⟩ := Ht.out (j + 1) q hq
      injection e1 with e1
      injection e1 with e1 e3 _
      subst e1 e3
      injection e2 with e2
      injection e2 with e2 e3 _
      subst e2 e3
      have hpi := hwi.out p hwp
      have hcw := Lib.hid fun (h : n.world.has q = true) (W : World) (hb : Below w.heap.size w W) => hcw.out x hm q (hwi.out q h) h8 hro W hb
      have hqi := Lib.hid fun (h : n.world.has q = true) => hwi.out q h
      have hok := Lib.hid (okB_idx n.bs x.s.vt.rs x.s.vt.wrong q h8)
      have hbt := Lib.hid (bitsTo_lt (wrongB n.bs q x.s.vt.rs) x.s.vt.rs.length)
      have hstp := Lib.hid (hat.out j x p q hx hp hq)
      have hsb : Hid (stepB n p q x.s = (n.world.has q && (okB n.bs x.s.vt.rs x.s.vt.wrong q && within3 p q x.s.mv))) := rfl
      have hcx := Lib.hid fun (W : World) => c_has n.world q W
      have hw3 : Hid (within3 p q x.s.mv = (inR (q.x - p.x) (x.s.mv.ticks * x.s.mv.speed.x.lo) (x.s.mv.ticks * x.s.mv.speed.x.hi) && (inR (q.y - p.y) (x.s.mv.ticks * x.s.mv.speed.y.lo) (x.s.mv.ticks * x.s.mv.speed.y.hi) && inR (q.z - p.z) (x.s.mv.ticks * x.s.mv.speed.z.lo) (x.s.mv.ticks * x.s.mv.speed.z.hi)))) := rfl
      have hix := Lib.hid fun (W : World) => c_indexes (bitsTo (wrongB n.bs q x.s.vt.rs) x.s.vt.rs.length) x.s.vt.rs.length true W (Nat.lt_of_lt_of_le hbt.out (Nat.pow_le_pow_right (by decide) (by omega))) (by omega)
      obtain ⟨m1, m2, ⟨u1, u2, u3, u4⟩, ⟨v1, v2, v3, v4⟩, ⟨w1, w2, w3, w4⟩⟩ := hmo
      have bxl := tv_bd m1 m2 u1 u2
      have bxh := tv_bd m1 m2 u3 u4
      have byl := tv_bd m1 m2 v1 v2
      have byh := tv_bd m1 m2 v3 v4
      have bzl := tv_bd m1 m2 w1 w2
      have bzh := tv_bd m1 m2 w3 w4
      obtain ⟨⟨p1, p2⟩, ⟨p3, p4⟩, p5, p6⟩ := hpi
      have hcx1 := Lib.hid fun W => c_within (q.x - p.x) (x.s.mv.ticks * x.s.mv.speed.x.lo) (x.s.mv.ticks * x.s.mv.speed.x.hi) W
      have hcx2 := Lib.hid fun W => c_within (q.y - p.y) (x.s.mv.ticks * x.s.mv.speed.y.lo) (x.s.mv.ticks * x.s.mv.speed.y.hi) W
      have hcx3 := Lib.hid fun W => c_within (q.z - p.z) (x.s.mv.ticks * x.s.mv.speed.z.lo) (x.s.mv.ticks * x.s.mv.speed.z.hi) W
      have hjt1 : j + 1 < tl := by rw [htl1.out]; omega
      have hjt2 : j < tl := by omega
      have hjt3 : (0 : Int) ≤ (j : Int) + 1 ∧ (j : Int) + 1 < (tl : Int) := by omega
      clear hm hro h8 hbt u1 u2 u3 u4 v1 v2 v3 v4 w1 w2 w3 w4 hwp
      replace hx := Lib.hid hx
      replace hp := Lib.hid hp
      replace hq := Lib.hid hq
      replace hc := Lib.hid hc
      replace hpc := Lib.hid hpc
      replace hqc := Lib.hid hqc
      generalize inR (q.x - p.x) (x.s.mv.ticks * x.s.mv.speed.x.lo) (x.s.mv.ticks * x.s.mv.speed.x.hi) = B1 at *
      generalize inR (q.y - p.y) (x.s.mv.ticks * x.s.mv.speed.y.lo) (x.s.mv.ticks * x.s.mv.speed.y.hi) = B2 at *
      generalize inR (q.z - p.z) (x.s.mv.ticks * x.s.mv.speed.z.lo) (x.s.mv.ticks * x.s.mv.speed.z.hi) = B3 at *
      generalize within3 p q x.s.mv = W3 at *
      generalize bitsTo (wrongB n.bs q x.s.vt.rs) x.s.vt.rs.length = BT at *
      generalize okB n.bs x.s.vt.rs x.s.vt.wrong q = OK at *
      obtain ⟨HW, hHW⟩ : ∃ HW, n.world.has q = HW := ⟨_, rfl⟩
      rw [hHW] at hcx
      replace hHW := Lib.hid hHW
      subst hA
      have hbw := hb0
      clear hb0
      have hb0 := bl_refl wr
      have hzr : wb.heap.size < wr.heap.size := k2.lt
      have Lk2 := k2.later
      have Fk2 := k2.laterF
      have Qk2 := k2.lt
      have c0 : ∀ W, Below _ _ W → W.cell? ⟨bb, off + j * 9, none⟩ = some (.int .i64 x.s.mv.ticks) := later (kcell hbw (hc.out 0 _ rfl))
      have c1 : ∀ W, Below _ _ W → W.cell? ⟨bb, off + j * 9 + 1, none⟩ = some (.int .i64 x.s.mv.speed.x.lo) := later (kcell hbw (hc.out 1 _ rfl))
      have c2 : ∀ W, Below _ _ W → W.cell? ⟨bb, off + j * 9 + 2, none⟩ = some (.int .i64 x.s.mv.speed.x.hi) := later (kcell hbw (hc.out 2 _ rfl))
      have c3 : ∀ W, Below _ _ W → W.cell? ⟨bb, off + j * 9 + 3, none⟩ = some (.int .i64 x.s.mv.speed.y.lo) := later (kcell hbw (hc.out 3 _ rfl))
      have c4 : ∀ W, Below _ _ W → W.cell? ⟨bb, off + j * 9 + 4, none⟩ = some (.int .i64 x.s.mv.speed.y.hi) := later (kcell hbw (hc.out 4 _ rfl))
      have c5 : ∀ W, Below _ _ W → W.cell? ⟨bb, off + j * 9 + 5, none⟩ = some (.int .i64 x.s.mv.speed.z.lo) := later (kcell hbw (hc.out 5 _ rfl))
      have c6 : ∀ W, Below _ _ W → W.cell? ⟨bb, off + j * 9 + 6, none⟩ = some (.int .i64 x.s.mv.speed.z.hi) := later (kcell hbw (hc.out 6 _ rfl))
      have c7 : ∀ W, Below _ _ W → W.cell? ⟨bb, off + j * 9 + 7, none⟩ = some (.slice x.A x.s.vt.rs.length x.c) := later (kcell hbw (hc.out 7 _ rfl))
      have c8 : ∀ W, Below _ _ W → W.cell? ⟨bb, off + j * 9 + 8, none⟩ = some (.int .i64 x.s.vt.wrong) := later (kcell hbw (hc.out 8 _ rfl))
      go_upto_region 10 with fail
      apply absB2 (w0 := wr) (g0 := wb.heap.size) (g1 := wr.heap.size)
      iterate 3 (focus exact zL)
      try clear hb3
      try clear Lk2
      try clear Fk2
      try clear Qk2
      try clear hb0
      try clear k2
      try clear k4
      intro we hb0 k2 k4
      (try simp only [List.setIfInBounds_toArray, List.set_cons_zero, List.set_cons_succ] at k2 k4)
      have Lk2 := k2.later
      have Fk2 := k2.laterF
      have Qk2 := k2.lt
      have Lk4 := k4.later
      have Fk4 := k4.laterF
      have Qk4 := k4.lt
      clear c0 c1 c2 c3 c4 c5 c6 c7 c8
      have cp0 : ∀ W, Below _ _ W → W.cell? ⟨pb, po + j * 3, none⟩ = some (.int .i64 p.x) := later (kcell (bl_tr hbw hb0) (hpc.out 0 _ rfl))
      have cp1 : ∀ W, Below _ _ W → W.cell? ⟨pb, po + j * 3 + 1, none⟩ = some (.int .i64 p.y) := later (kcell (bl_tr hbw hb0) (hpc.out 1 _ rfl))
      have cp2 : ∀ W, Below _ _ W → W.cell? ⟨pb, po + j * 3 + 2, none⟩ = some (.int .i64 p.z) := later (kcell (bl_tr hbw hb0) (hpc.out 2 _ rfl))
      have cq0 : ∀ W, Below _ _ W → W.cell? ⟨pb, po + (j + 1) * 3, none⟩ = some (.int .i64 q.x) := later (kcell (bl_tr hbw hb0) (hqc.out 0 _ rfl))
      have cq1 : ∀ W, Below _ _ W → W.cell? ⟨pb, po + (j + 1) * 3 + 1, none⟩ = some (.int .i64 q.y) := later (kcell (bl_tr hbw hb0) (hqc.out 1 _ rfl))
      have cq2 : ∀ W, Below _ _ W → W.cell? ⟨pb, po + (j + 1) * 3 + 2, none⟩ = some (.int .i64 q.z) := later (kcell (bl_tr hbw hb0) (hqc.out 2 _ rfl))
      refine wp_any (w0 := we) ⟨[13, 14], [], [some 54, some 55, some 56, some 57, some 58, some 59, some 60, some 61, some 62, some 63, some 64, some 15, some 16, none, none], [[], [], [0, 1], [0, 1, 2], [0, 1, 2, 3], [], [], [6], [5, 6, 7], [5, 6, 7, 8], [0, 1, 2, 3, 4, 5, 6, 7, 8, 9], [], [], [0, 1, 2, 3, 4, 5, 6, 7, 8, 9, 10, 11, 12], [0, 1, 2, 3, 4, 5, 6, 7, 8, 9, 10, 11, 12, 13]], [[], [], [0, 1], [2], [3], [], [], [6], [5, 7], [8], [9], [], [], [], []]⟩ (fun γ => [(γ 11).n, (γ 12).n]) (by kernel_rfl) (by kernel_rfl) (by (exact zE)) (fun u => by simp only [putD, Act.put, List.setIfInBounds_toArray, List.set_cons_zero, List.set_cons_succ, Nat.zero_add, Nat.reduceAdd]; rfl) ?_
      apply RGW.on (i := 0) rfl
      · exact zG
      · intro γ u W hcur hd
        clear hd
        (try dsimp only)
        exact ⟨rfl, zS⟩
      · exact zC
      · rfl
      dsimp only [nA, cA]
      apply RGW.on (i := 1) rfl
      · exact zG
      · intro γ u W hcur hd
        clear hd
        (try dsimp only)
        exact ⟨rfl, zS⟩
      · exact zC
      · rfl
      dsimp only [nA, cA]
      apply RGW.on (i := 2) rfl
      · exact zG
      · intro γ u W hcur hd
        obtain ⟨⟨h0, -, -⟩, ⟨h1, -, -⟩, -⟩ := hd
        dsimp only at h0 h1
        (try simp only [h0, h1])
        exact ⟨rfl, zS⟩
      · exact zC
      · rfl
      dsimp only [nA, cA]
      apply RGW.on (i := 3) rfl
      · exact zG
      · intro γ u W hcur hd
        obtain ⟨⟨h2, -, -⟩, -⟩ := hd
        dsimp only at h2
        (try simp only [h2])
        exact ⟨rfl, zS⟩
      · exact zC
      · rfl
      dsimp only [nA, cA]
      apply RGW.call (i := 4) rfl
      · exact zG
      · intro γ u W hcur hd
        obtain ⟨⟨h3, -, -⟩, -⟩ := hd
        dsimp only at h3
        (try simp only [h3])
        refine ⟨rfl, fun K hK => ?_⟩
        go_simp
        (go_at_call 71; (with_reducible refine (c_at p _).mono ?_); rintro e w3 ⟨rfl, hb3⟩; replace hb3 := bl_tt hb3)
        (try dsimp only)
        exact hK.out _ _ rfl (by (exact zE))
      · exact zC
      · rfl
      dsimp only [nA, cA]
      apply RGW.on (i := 5) rfl
      · exact zG
      · intro γ u W hcur hd
        clear hd
        (try dsimp only)
        exact ⟨rfl, zS⟩
      · exact zC
      · rfl
      dsimp only [nA, cA]
      apply RGW.on (i := 6) rfl
      · exact zG
      · intro γ u W hcur hd
        clear hd
        (try dsimp only)
        exact ⟨rfl, zS⟩
      · exact zC
      · rfl
      dsimp only [nA, cA]
      apply RGW.on (i := 7) rfl
      · exact zG
      · intro γ u W hcur hd
        obtain ⟨⟨h6, -, -⟩, -⟩ := hd
        dsimp only at h6
        (try simp only [h6])
        exact ⟨rfl, zS⟩
      · exact zC
      · rfl
      dsimp only [nA, cA]
      apply RGW.on (i := 8) rfl
      · exact zG
      · intro γ u W hcur hd
        obtain ⟨⟨h5, -, -⟩, ⟨h7, -, -⟩, -⟩ := hd
        dsimp only at h5 h7
        (try simp only [h5, h7])
        exact ⟨rfl, zS⟩
      · exact zC
      · rfl
      dsimp only [nA, cA]
      apply RGW.on (i := 9) rfl
      · exact zG
      · intro γ u W hcur hd
        obtain ⟨⟨h8, -, -⟩, -⟩ := hd
        dsimp only at h8
        (try simp only [h8])
        exact ⟨rfl, zS⟩
      · exact zC
      · rfl
      dsimp only [nA, cA]
      apply RGW.call (i := 10) rfl
      · exact zG
      · intro γ u W hcur hd
        obtain ⟨⟨h9, -, -⟩, -⟩ := hd
        dsimp only at h9
        (try simp only [h9])
        refine ⟨rfl, fun K hK => ?_⟩
        go_simp
        (go_at_call 71; (with_reducible refine (c_at q _).mono ?_); rintro e w3 ⟨rfl, hb3⟩; replace hb3 := bl_tt hb3)
        (try dsimp only)
        exact hK.out _ _ rfl (by (exact zE))
      · exact zC
      · rfl
      dsimp only [nA, cA]
      apply RGW.alloc (i := 11) rfl
      · exact zG
      · intro γ u W hcur hd
        clear hd
        (try dsimp only)
        refine ⟨rfl, fun K hK => ?_⟩
        go_simp
        exact hK.out _ _ rfl rfl
      · exact zC
      · rfl
      · rfl
      dsimp only [nA, cA]
      apply RGW.alloc (i := 12) rfl
      · exact zG
      · intro γ u W hcur hd
        clear hd
        (try dsimp only)
        refine ⟨rfl, fun K hK => ?_⟩
        go_simp
        exact hK.out _ _ rfl rfl
      · exact zC
      · rfl
      · rfl
      dsimp only [nA, cA]
      refine RGW.skip (i := 13) rfl rfl ?_
      dsimp only [nA, cA]
      refine RGW.skip (i := 14) rfl rfl ?_
      dsimp only [nA, cA]
      refine RGW.fin (fun γ u wf hwf hd hdis => ?_)
      obtain ⟨⟨h0, -, -⟩, ⟨h1, -, -⟩, ⟨h2, -, -⟩, ⟨h3, -, -⟩, ⟨h4, -, -⟩, ⟨h5, -, -⟩, ⟨h6, -, -⟩, ⟨h7, -, -⟩, ⟨h8, -, -⟩, ⟨h9, -, -⟩, ⟨h10, -, -⟩, ⟨h11, r11, b11⟩, ⟨h12, r12, b12⟩, -⟩ := hd
      dsimp only at h0 h1 h2 h3 h4 h5 h6 h7 h8 h9 h10 h11 h12 r11 r12 b11 b12
      have n11_12 := hdis 11 12 rfl rfl (Nat.lt_of_lt_of_eq (by decide : 11 < 15) (by kernel_rfl)) (Nat.lt_of_lt_of_eq (by decide : 12 < 15) (by kernel_rfl)) (by decide) _ (List.mem_singleton.2 rfl) _ (List.mem_singleton.2 rfl)
      clear hdis
      simp only [h0, h1, h2, h3, h4, h5, h6, h7, h8, h9, h10, h11, h12]
      clear h12 h11 h10 h9 h8 h7 h6 h5 h4 h3 h2 h1 h0
      replace b11 := b11 _ (List.mem_singleton.2 rfl)
      generalize hγ11 : (γ 11).n = g11 at *
      clear hγ11
      replace b12 := b12 _ (List.mem_singleton.2 rfl)
      generalize hγ12 : (γ 12).n = g12 at *
      clear hγ12
      clear u
      simp only [List.map_cons, List.map_nil]
      apply PlanW.step
      · exact zG
      · rfl
      intro K hK
      refine wp_store_keep (X := [g11, g12]) (w0 := wf) rfl rfl rfl (by with_reducible first | exact bx_refl _ _ | assumption) (by with_reducible first | assumption | (apply Blk.below (hb := hwf); assumption)) (by simp) (by kernel_rfl) (by rfl) (by simp [Value.oneCell']) (fun hres1 hcur => ?_)
      refine hK.out _ _ hcur (fun _ => ?_)
      clear hK K
      try simp only [Act.put, List.setIfInBounds_toArray, List.set_cons_zero, List.set_cons_succ]
      apply PlanW.step
      · exact zG
      · rfl
      intro K hK
      refine wp_store_keep (X := [g11, g12]) (w0 := wf) rfl rfl rfl (by with_reducible first | exact bx_refl _ _ | assumption) (by with_reducible first | assumption | (apply Blk.below (hb := hwf); assumption)) (by simp) (by kernel_rfl) (by rfl) (by simp [Value.oneCell']) (fun hres2 hcur => ?_)
      refine hK.out _ _ hcur (fun _ => ?_)
      clear hK K
      try simp only [Act.put, List.setIfInBounds_toArray, List.set_cons_zero, List.set_cons_succ]
      refine PlanW.done ?_
      have hb3 := bl_tt hwf
      clear cp0 cp1 cp2
      clear cq0 cq1 cq2
      apply absTB4 (w0 := wr) (g0 := wb.heap.size) (g1 := wr.heap.size) (g2 := g11) (g3 := g12)
      iterate 5 (focus exact zL)
      try clear hb3
      try clear Lk2
      try clear Fk2
      try clear Qk2
      try clear Lk4
      try clear Fk4
      try clear Qk4
      try clear hb0
      try clear k2
      try clear k4
      try clear k5
      try clear k6
      intro wg hb0 k2 k4 k5 k6
      (try simp only [List.setIfInBounds_toArray, List.set_cons_zero, List.set_cons_succ] at k2 k4 k5 k6)
      have Lk2 := k2.later
      have Fk2 := k2.laterF
      have Qk2 := k2.lt
      have Lk4 := k4.later
      have Fk4 := k4.laterF
      have Qk4 := k4.lt
      have Lk5 := k5.later
      have Fk5 := k5.laterF
      have Qk5 := k5.lt
      have Lk6 := k6.later
      have Fk6 := k6.laterF
      have Qk6 := k6.lt
      go_upto_region 11 with fail
      cases HW
      case false =>
        refine wp_any (w0 := wg) ⟨[], [], [some 65, some 66, some 67, some 68, some 69, some 70, some 71, some 72, some 73, some 74, some 75, some 76, some 77, some 78, some 79, some 80, some 81, some 82, some 83, some 84, some 85, some 86, some 87], [[], [0], [], [0, 1, 2], [0, 1, 2, 3], [0, 1, 2, 3, 4], [0, 1, 2, 3, 4, 5], [0, 1, 2, 3, 4, 5], [0, 1, 2, 3, 4, 5, 7], [0, 1, 2, 3, 4, 5, 7, 8], [0, 1, 2, 3, 4, 5], [0, 1, 2, 3, 4, 5, 6, 7, 8, 9, 10], [0, 1, 2, 3, 4, 5], [0, 1, 2, 3, 4, 5, 12], [0, 1, 2, 3, 4, 5, 12, 13], [0, 1, 2, 3, 4, 5, 12, 13, 14], [0, 1, 2, 3, 4, 5, 6, 7, 8, 9, 10, 11, 12, 13, 14, 15], [0, 1, 2, 3, 4, 5, 6, 7, 8, 9, 10, 11, 12, 13, 14, 15, 16], [0, 1, 2, 3, 4, 5], [0, 1, 2, 3, 4, 5, 18], [0, 1, 2, 3, 4, 5, 18, 19], [0, 1, 2, 3, 4, 5, 6, 7, 8, 9, 10, 11, 12, 13, 14, 15, 16, 17, 18, 19, 20], [0, 1, 2, 3, 4, 5, 6, 7, 8, 9, 10, 11, 12, 13, 14, 15, 16, 17, 18, 19, 20, 21]], [[], [0], [], [1, 2], [3], [4], [5], [5], [5, 7], [5, 8], [5], [5, 6, 9, 10], [5], [5, 12], [5, 13], [5, 14], [5, 11, 15], [5, 16], [5], [5, 18], [5, 19], [5, 17, 20], [5, 21]]⟩ (fun _ => []) (by kernel_rfl) (by kernel_rfl) (by (exact zE)) (fun u => by simp only [putD, Act.put, List.setIfInBounds_toArray, List.set_cons_zero, List.set_cons_succ, Nat.zero_add, Nat.reduceAdd]; rfl) ?_
        apply RGW.on (i := 0) rfl
        · exact zG
        · intro γ u W hcur hd
          clear hd
          (try dsimp only)
          exact ⟨rfl, zS⟩
        · exact zC
        · rfl
        dsimp only [nA, cA]
        apply RGW.on (i := 1) rfl
        · exact zG
        · intro γ u W hcur hd
          obtain ⟨⟨h0, -, -⟩, -⟩ := hd
          dsimp only at h0
          (try simp only [h0])
          exact ⟨rfl, zS⟩
        · exact zC
        · rfl
        dsimp only [nA, cA]
        apply RGW.on (i := 2) rfl
        · exact zG
        · intro γ u W hcur hd
          clear hd
          (try dsimp only)
          exact ⟨rfl, zS⟩
        · exact zC
        · rfl
        dsimp only [nA, cA]
        apply RGW.call (i := 3) rfl
        · exact zG
        · intro γ u W hcur hd
          obtain ⟨⟨h1, -, -⟩, ⟨h2, -, -⟩, -⟩ := hd
          dsimp only at h1 h2
          (try simp only [h1, h2])
          refine ⟨rfl, fun K hK => ?_⟩
          go_simp
          (go_at_call 70; (with_reducible refine (hcx.out _).mono ?_); rintro e w3 ⟨rfl, hb3⟩; replace hb3 := bl_tt hb3)
          (try dsimp only)
          exact hK.out _ _ rfl (by (exact zE))
        · exact zC
        · rfl
        dsimp only [nA, cA]
        apply RGW.on (i := 4) rfl
        · exact zG
        · intro γ u W hcur hd
          obtain ⟨⟨h3, -, -⟩, -⟩ := hd
          dsimp only at h3
          (try simp only [h3])
          exact ⟨rfl, zS⟩
        · exact zC
        · rfl
        dsimp only [nA, cA]
        apply RGW.on (i := 5) rfl
        · exact zG
        · intro γ u W hcur hd
          obtain ⟨⟨h4, -, -⟩, -⟩ := hd
          dsimp only at h4
          (try simp only [h4])
          exact ⟨rfl, zS⟩
        · exact zC
        · rfl
        dsimp only [nA, cA]
        apply RGW.off (i := 6) rfl
        · exact zG
        · intro γ u W hcur hd
          obtain ⟨⟨h5, -, -⟩, -⟩ := hd
          dsimp only at h5
          (try simp only [h5])
          simp [Region.wanted, yielded, undef, *]
        · rfl
        dsimp only [nA, cA]
        apply RGW.off (i := 7) rfl
        · exact zG
        · intro γ u W hcur hd
          obtain ⟨⟨h5, -, -⟩, -⟩ := hd
          dsimp only at h5
          (try simp only [h5])
          simp [Region.wanted, yielded, undef, *]
        · rfl
        dsimp only [nA, cA]
        apply RGW.off (i := 8) rfl
        · exact zG
        · intro γ u W hcur hd
          obtain ⟨⟨h5, -, -⟩, ⟨h7, -, -⟩, -⟩ := hd
          dsimp only at h5 h7
          (try simp only [h5, h7])
          simp [Region.wanted, yielded, undef, *]
        · rfl
        dsimp only [nA, cA]
        apply RGW.off (i := 9) rfl
        · exact zG
        · intro γ u W hcur hd
          obtain ⟨⟨h5, -, -⟩, ⟨h8, -, -⟩, -⟩ := hd
          dsimp only at h5 h8
          (try simp only [h5, h8])
          simp [Region.wanted, yielded, undef, *]
        · rfl
        dsimp only [nA, cA]
        apply RGW.off (i := 10) rfl
        · exact zG
        · intro γ u W hcur hd
          obtain ⟨⟨h5, -, -⟩, -⟩ := hd
          dsimp only at h5
          (try simp only [h5])
          simp [Region.wanted, yielded, undef, *]
        · rfl
        dsimp only [nA, cA]
        apply RGW.off (i := 11) rfl
        · exact zG
        · intro γ u W hcur hd
          obtain ⟨⟨h5, -, -⟩, ⟨h6, -, -⟩, ⟨h9, -, -⟩, ⟨h10, -, -⟩, -⟩ := hd
          dsimp only at h5 h6 h9 h10
          (try simp only [h5, h6, h9, h10])
          simp [Region.wanted, yielded, undef, *]
        · rfl
        dsimp only [nA, cA]
        apply RGW.off (i := 12) rfl
        · exact zG
        · intro γ u W hcur hd
          obtain ⟨⟨h5, -, -⟩, -⟩ := hd
          dsimp only at h5
          (try simp only [h5])
          simp [Region.wanted, yielded, undef, *]
        · rfl
        dsimp only [nA, cA]
        apply RGW.off (i := 13) rfl
        · exact zG
        · intro γ u W hcur hd
          obtain ⟨⟨h5, -, -⟩, ⟨h12, -, -⟩, -⟩ := hd
          dsimp only at h5 h12
          (try simp only [h5, h12])
          simp [Region.wanted, yielded, undef, *]
        · rfl
        dsimp only [nA, cA]
        apply RGW.off (i := 14) rfl
        · exact zG
        · intro γ u W hcur hd
          obtain ⟨⟨h5, -, -⟩, ⟨h13, -, -⟩, -⟩ := hd
          dsimp only at h5 h13
          (try simp only [h5, h13])
          simp [Region.wanted, yielded, undef, *]
        · rfl
        dsimp only [nA, cA]
        apply RGW.off (i := 15) rfl
        · exact zG
        · intro γ u W hcur hd
          obtain ⟨⟨h5, -, -⟩, ⟨h14, -, -⟩, -⟩ := hd
          dsimp only at h5 h14
          (try simp only [h5, h14])
          simp [Region.wanted, yielded, undef, *]
        · rfl
        dsimp only [nA, cA]
        apply RGW.off (i := 16) rfl
        · exact zG
        · intro γ u W hcur hd
          obtain ⟨⟨h5, -, -⟩, ⟨h11, -, -⟩, ⟨h15, -, -⟩, -⟩ := hd
          dsimp only at h5 h11 h15
          (try simp only [h5, h11, h15])
          simp [Region.wanted, yielded, undef, *]
        · rfl
        dsimp only [nA, cA]
        apply RGW.off (i := 17) rfl
        · exact zG
        · intro γ u W hcur hd
          obtain ⟨⟨h5, -, -⟩, ⟨h16, -, -⟩, -⟩ := hd
          dsimp only at h5 h16
          (try simp only [h5, h16])
          simp [Region.wanted, yielded, undef, *]
        · rfl
        dsimp only [nA, cA]
        apply RGW.off (i := 18) rfl
        · exact zG
        · intro γ u W hcur hd
          obtain ⟨⟨h5, -, -⟩, -⟩ := hd
          dsimp only at h5
          (try simp only [h5])
          simp [Region.wanted, yielded, undef, *]
        · rfl
        dsimp only [nA, cA]
        apply RGW.off (i := 19) rfl
        · exact zG
        · intro γ u W hcur hd
          obtain ⟨⟨h5, -, -⟩, ⟨h18, -, -⟩, -⟩ := hd
          dsimp only at h5 h18
          (try simp only [h5, h18])
          simp [Region.wanted, yielded, undef, *]
        · rfl
        dsimp only [nA, cA]
        apply RGW.off (i := 20) rfl
        · exact zG
        · intro γ u W hcur hd
          obtain ⟨⟨h5, -, -⟩, ⟨h19, -, -⟩, -⟩ := hd
          dsimp only at h5 h19
          (try simp only [h5, h19])
          simp [Region.wanted, yielded, undef, *]
        · rfl
        dsimp only [nA, cA]
        apply RGW.off (i := 21) rfl
        · exact zG
        · intro γ u W hcur hd
          obtain ⟨⟨h5, -, -⟩, ⟨h17, -, -⟩, ⟨h20, -, -⟩, -⟩ := hd
          dsimp only at h5 h17 h20
          (try simp only [h5, h17, h20])
          simp [Region.wanted, yielded, undef, *]
        · rfl
        dsimp only [nA, cA]
        apply RGW.on (i := 22) rfl
        · exact zG
        · intro γ u W hcur hd
          obtain ⟨⟨h5, -, -⟩, ⟨h21, -, -⟩, -⟩ := hd
          dsimp only at h5 h21
          (try simp only [h5, h21])
          exact ⟨rfl, zS⟩
        · exact zC
        · rfl
        dsimp only [nA, cA]
        refine RGW.fin (fun γ u wh hwh hd hdis => ?_)
        obtain ⟨⟨h0, -, -⟩, ⟨h1, -, -⟩, ⟨h2, -, -⟩, ⟨h3, -, -⟩, ⟨h4, -, -⟩, ⟨h5, -, -⟩, ⟨h6, -, -⟩, ⟨h7, -, -⟩, ⟨h8, -, -⟩, ⟨h9, -, -⟩, ⟨h10, -, -⟩, ⟨h11, -, -⟩, ⟨h12, -, -⟩, ⟨h13, -, -⟩, ⟨h14, -, -⟩, ⟨h15, -, -⟩, ⟨h16, -, -⟩, ⟨h17, -, -⟩, ⟨h18, -, -⟩, ⟨h19, -, -⟩, ⟨h20, -, -⟩, ⟨h21, -, -⟩, ⟨h22, -, -⟩, -⟩ := hd
        dsimp only at h0 h1 h2 h3 h4 h5 h6 h7 h8 h9 h10 h11 h12 h13 h14 h15 h16 h17 h18 h19 h20 h21 h22
        clear hdis
        simp only [h0, h1, h2, h3, h4, h5, h6, h7, h8, h9, h10, h11, h12, h13, h14, h15, h16, h17, h18, h19, h20, h21, h22]
        clear h22 h21 h20 h19 h18 h17 h16 h15 h14 h13 h12 h11 h10 h9 h8 h7 h6 h5 h4 h3 h2 h1 h0
        clear u
        simp only [List.map_nil]
        refine PlanW.done ?_
        have hb3 := bl_tt hwh
        apply absTB4 (w0 := wr) (g0 := wb.heap.size) (g1 := wr.heap.size) (g2 := g11) (g3 := g12)
        iterate 5 (focus exact zL)
        try clear hb3
        try clear Lk2
        try clear Fk2
        try clear Qk2
        try clear Lk4
        try clear Fk4
        try clear Qk4
        try clear Lk5
        try clear Fk5
        try clear Qk5
        try clear Lk6
        try clear Fk6
        try clear Qk6
        try clear hb0
        try clear k2
        try clear k4
        try clear k5
        try clear k6
        intro wi hb0 k2 k4 k5 k6
        (try simp only [List.setIfInBounds_toArray, List.set_cons_zero, List.set_cons_succ] at k2 k4 k5 k6)
        go_wp2
        go_ret2
        exact ⟨by rw [hIB.out, hstp.out, hsb.out, hHW.out] <;> rfl, bl_tr hbw hb0⟩
      obtain ⟨⟨q1, q2⟩, ⟨q3, q4⟩, q5, q6⟩ := hqi.out hHW.out
      replace hcw := Lib.hid (hcw.out hHW.out)
      generalize hIL : idxs BT true x.s.vt.rs.length = IL at *
      obtain ⟨GT, hGT⟩ : ∃ GT, decide (x.s.vt.wrong < (IL.length : Int)) = GT := ⟨_, rfl⟩
      rw [hGT] at hok
      clear hIL
      refine wp_any (w0 := wg) ⟨[], [], [some 65, some 66, some 67, some 68, some 69, some 70, some 71, some 72, some 73, some 74, some 75, some 76, some 77, some 78, some 79, some 80, some 81, some 82, some 83, some 84, some 85, some 86, some 87], [[], [0], [], [0, 1, 2], [0, 1, 2, 3], [0, 1, 2, 3, 4], [0, 1, 2, 3, 4, 5], [0, 1, 2, 3, 4, 5], [0, 1, 2, 3, 4, 5, 7], [0, 1, 2, 3, 4, 5, 7, 8], [0, 1, 2, 3, 4, 5], [0, 1, 2, 3, 4, 5, 6, 7, 8, 9, 10], [0, 1, 2, 3, 4, 5], [0, 1, 2, 3, 4, 5, 12], [0, 1, 2, 3, 4, 5, 12, 13], [0, 1, 2, 3, 4, 5, 12, 13, 14], [0, 1, 2, 3, 4, 5, 6, 7, 8, 9, 10, 11, 12, 13, 14, 15], [0, 1, 2, 3, 4, 5, 6, 7, 8, 9, 10, 11, 12, 13, 14, 15, 16], [0, 1, 2, 3, 4, 5], [0, 1, 2, 3, 4, 5, 18], [0, 1, 2, 3, 4, 5, 18, 19], [0, 1, 2, 3, 4, 5, 6, 7, 8, 9, 10, 11, 12, 13, 14, 15, 16, 17, 18, 19, 20], [0, 1, 2, 3, 4, 5, 6, 7, 8, 9, 10, 11, 12, 13, 14, 15, 16, 17, 18, 19, 20, 21]], [[], [0], [], [1, 2], [3], [4], [5], [5], [5, 7], [5, 8], [5], [5, 6, 9, 10], [5], [5, 12], [5, 13], [5, 14], [5, 11, 15], [5, 16], [5], [5, 18], [5, 19], [5, 16, 17, 20], [5, 16, 21]]⟩ (fun _ => []) (by kernel_rfl) (by kernel_rfl) (by (exact zE)) (fun u => by simp only [putD, Act.put, List.setIfInBounds_toArray, List.set_cons_zero, List.set_cons_succ, Nat.zero_add, Nat.reduceAdd]; rfl) ?_
      apply RGW.on (i := 0) rfl
      · exact zG
      · intro γ u W hcur hd
        clear hd
        (try dsimp only)
        exact ⟨rfl, zS⟩
      · exact zC
      · rfl
      dsimp only [nA, cA]
      apply RGW.on (i := 1) rfl
      · exact zG
      · intro γ u W hcur hd
        obtain ⟨⟨h0, -, -⟩, -⟩ := hd
        dsimp only at h0
        (try simp only [h0])
        exact ⟨rfl, zS⟩
      · exact zC
      · rfl
      dsimp only [nA, cA]
      apply RGW.on (i := 2) rfl
      · exact zG
      · intro γ u W hcur hd
        clear hd
        (try dsimp only)
        exact ⟨rfl, zS⟩
      · exact zC
      · rfl
      dsimp only [nA, cA]
      apply RGW.call (i := 3) rfl
      · exact zG
      · intro γ u W hcur hd
        obtain ⟨⟨h1, -, -⟩, ⟨h2, -, -⟩, -⟩ := hd
        dsimp only at h1 h2
        (try simp only [h1, h2])
        refine ⟨rfl, fun K hK => ?_⟩
        go_simp
        (go_at_call 70; (with_reducible refine (hcx.out _).mono ?_); rintro e w3 ⟨rfl, hb3⟩; replace hb3 := bl_tt hb3)
        (try dsimp only)
        exact hK.out _ _ rfl (by (exact zE))
      · exact zC
      · rfl
      dsimp only [nA, cA]
      apply RGW.on (i := 4) rfl
      · exact zG
      · intro γ u W hcur hd
        obtain ⟨⟨h3, -, -⟩, -⟩ := hd
        dsimp only at h3
        (try simp only [h3])
        exact ⟨rfl, zS⟩
      · exact zC
      · rfl
      dsimp only [nA, cA]
      apply RGW.on (i := 5) rfl
      · exact zG
      · intro γ u W hcur hd
        obtain ⟨⟨h4, -, -⟩, -⟩ := hd
        dsimp only at h4
        (try simp only [h4])
        exact ⟨rfl, zS⟩
      · exact zC
      · rfl
      dsimp only [nA, cA]
      apply RGW.on (i := 6) rfl
      · exact zG
      · intro γ u W hcur hd
        obtain ⟨⟨h5, -, -⟩, -⟩ := hd
        dsimp only at h5
        (try simp only [h5])
        refine ⟨?_, ?_⟩
        · (simp [Region.wanted, yielded, undef, *]; done)
        exact zS
      · exact zC
      · rfl
      dsimp only [nA, cA]
      apply RGW.on (i := 7) rfl
      · exact zG
      · intro γ u W hcur hd
        obtain ⟨⟨h5, -, -⟩, -⟩ := hd
        dsimp only at h5
        (try simp only [h5])
        refine ⟨?_, ?_⟩
        · (simp [Region.wanted, yielded, undef, *]; done)
        exact zS
      · exact zC
      · rfl
      dsimp only [nA, cA]
      apply RGW.on (i := 8) rfl
      · exact zG
      · intro γ u W hcur hd
        obtain ⟨⟨h5, -, -⟩, ⟨h7, -, -⟩, -⟩ := hd
        dsimp only at h5 h7
        (try simp only [h5, h7])
        refine ⟨?_, ?_⟩
        · (simp [Region.wanted, yielded, undef, *]; done)
        exact zS
      · exact zC
      · rfl
      dsimp only [nA, cA]
      apply RGW.on (i := 9) rfl
      · exact zG
      · intro γ u W hcur hd
        obtain ⟨⟨h5, -, -⟩, ⟨h8, -, -⟩, -⟩ := hd
        dsimp only at h5 h8
        (try simp only [h5, h8])
        refine ⟨?_, ?_⟩
        · (simp [Region.wanted, yielded, undef, *]; done)
        exact zS
      · exact zC
      · rfl
      dsimp only [nA, cA]
      apply RGW.on (i := 10) rfl
      · exact zG
      · intro γ u W hcur hd
        obtain ⟨⟨h5, -, -⟩, -⟩ := hd
        dsimp only at h5
        (try simp only [h5])
        refine ⟨?_, ?_⟩
        · (simp [Region.wanted, yielded, undef, *]; done)
        exact zS
      · exact zC
      · rfl
      dsimp only [nA, cA]
      apply RGW.call (i := 11) rfl
      · exact zG
      · intro γ u W hcur hd
        obtain ⟨⟨h5, -, -⟩, ⟨h6, -, -⟩, ⟨h9, -, -⟩, ⟨h10, -, -⟩, -⟩ := hd
        dsimp only at h5 h6 h9 h10
        (try simp only [h5, h6, h9, h10])
        refine ⟨?_, fun K hK => ?_⟩
        · (simp [Region.wanted, yielded, undef, *]; done)
        go_simp
        (go_at_call 73; (with_reducible refine (hcw.out _ (bl_tr hbw (bl_tr hb0 (by (exact zE))))).mono ?_); rintro e w3 ⟨rfl, hb3⟩; replace hb3 := bl_tt hb3)
        (try dsimp only)
        exact hK.out _ _ rfl (by (exact zE))
      · exact zC
      · rfl
      dsimp only [nA, cA]
      apply RGW.on (i := 12) rfl
      · exact zG
      · intro γ u W hcur hd
        obtain ⟨⟨h5, -, -⟩, -⟩ := hd
        dsimp only at h5
        (try simp only [h5])
        refine ⟨?_, ?_⟩
        · (simp [Region.wanted, yielded, undef, *]; done)
        exact zS
      · exact zC
      · rfl
      dsimp only [nA, cA]
      apply RGW.on (i := 13) rfl
      · exact zG
      · intro γ u W hcur hd
        obtain ⟨⟨h5, -, -⟩, ⟨h12, -, -⟩, -⟩ := hd
        dsimp only at h5 h12
        (try simp only [h5, h12])
        refine ⟨?_, ?_⟩
        · (simp [Region.wanted, yielded, undef, *]; done)
        exact zS
      · exact zC
      · rfl
      dsimp only [nA, cA]
      apply RGW.on (i := 14) rfl
      · exact zG
      · intro γ u W hcur hd
        obtain ⟨⟨h5, -, -⟩, ⟨h13, -, -⟩, -⟩ := hd
        dsimp only at h5 h13
        (try simp only [h5, h13])
        refine ⟨?_, ?_⟩
        · (simp [Region.wanted, yielded, undef, *]; done)
        exact zS
      · exact zC
      · rfl
      dsimp only [nA, cA]
      apply RGW.on (i := 15) rfl
      · exact zG
      · intro γ u W hcur hd
        obtain ⟨⟨h5, -, -⟩, ⟨h14, -, -⟩, -⟩ := hd
        dsimp only at h5 h14
        (try simp only [h5, h14])
        refine ⟨?_, ?_⟩
        · (simp [Region.wanted, yielded, undef, *]; done)
        exact zS
      · exact zC
      · rfl
      dsimp only [nA, cA]
      apply RGW.gh (⟨fun γ => .slice (γ 16).A IL.length (γ 16).c, fun γ W => True, fun _ => []⟩) (i := 16) rfl
      · exact zG
      · intro γ u W hcur hd
        obtain ⟨⟨h5, -, -⟩, ⟨h11, -, -⟩, ⟨h15, -, -⟩, -⟩ := hd
        dsimp only at h5 h11 h15
        (try simp only [h5, h11, h15])
        refine ⟨?_, fun K hK => ?_⟩
        · (simp [Region.wanted, yielded, undef, *]; done)
        go_simp
        (go_at_call 72; (with_reducible refine (hix.out _).mono ?_); rintro e w3 ⟨Ax, cx, rfl, hb3, -⟩; dsimp only; exact hK.out ⟨0, undef, Ax, cx⟩ _ _ (by simp [up]) hb3 trivial (by simp))
      · intro γ γ' hg
        try dsimp only
        have e16 := hg 16 (by decide)
        simp only [e16]
        try exact ⟨trivial, fun _ h => h⟩
      · intro γ W W' hbl hR
        first | exact hR.below hbl | exact own_below hR hbl | exact trivial | exact ⟨hR.1.below hbl, hR.2⟩
      · rfl
      dsimp only [nA, cA]
      apply RGW.on (i := 17) rfl
      · exact zG
      · intro γ u W hcur hd
        obtain ⟨⟨h5, -, -⟩, ⟨h16, r16, -⟩, -⟩ := hd
        dsimp only at h5 h16 r16
        (try simp only [h5, h16])
        refine ⟨?_, ?_⟩
        · (simp [Region.wanted, yielded, undef, *]; done)
        exact zS
      · exact zC
      · rfl
      dsimp only [nA, cA]
      apply RGW.on (i := 18) rfl
      · exact zG
      · intro γ u W hcur hd
        obtain ⟨⟨h5, -, -⟩, -⟩ := hd
        dsimp only at h5
        (try simp only [h5])
        refine ⟨?_, ?_⟩
        · (simp [Region.wanted, yielded, undef, *]; done)
        exact zS
      · exact zC
      · rfl
      dsimp only [nA, cA]
      apply RGW.on (i := 19) rfl
      · exact zG
      · intro γ u W hcur hd
        obtain ⟨⟨h5, -, -⟩, ⟨h18, -, -⟩, -⟩ := hd
        dsimp only at h5 h18
        (try simp only [h5, h18])
        refine ⟨?_, ?_⟩
        · (simp [Region.wanted, yielded, undef, *]; done)
        exact zS
      · exact zC
      · rfl
      dsimp only [nA, cA]
      apply RGW.on (i := 20) rfl
      · exact zG
      · intro γ u W hcur hd
        obtain ⟨⟨h5, -, -⟩, ⟨h19, -, -⟩, -⟩ := hd
        dsimp only at h5 h19
        (try simp only [h5, h19])
        refine ⟨?_, ?_⟩
        · (simp [Region.wanted, yielded, undef, *]; done)
        exact zS
      · exact zC
      · rfl
      dsimp only [nA, cA]
      apply RGW.on (i := 21) rfl
      · exact zG
      · intro γ u W hcur hd
        obtain ⟨⟨h5, -, -⟩, ⟨h16, r16, -⟩, ⟨h17, -, -⟩, ⟨h20, -, -⟩, -⟩ := hd
        dsimp only at h5 h16 h17 h20 r16
        (try simp only [h5, h16, h17, h20])
        refine ⟨?_, ?_⟩
        · (simp [Region.wanted, yielded, undef, *]; done)
        exact zS
      · exact zC
      · rfl
      dsimp only [nA, cA]
      apply RGW.on (i := 22) rfl
      · exact zG
      · intro γ u W hcur hd
        obtain ⟨⟨h5, -, -⟩, ⟨h16, r16, -⟩, ⟨h21, -, -⟩, -⟩ := hd
        dsimp only at h5 h16 h21 r16
        (try simp only [h5, h16, h21])
        exact ⟨rfl, zS⟩
      · exact zC
      · rfl
      dsimp only [nA, cA]
      refine RGW.fin (fun γ u wh hwh hd hdis => ?_)
      obtain ⟨⟨h0, -, -⟩, ⟨h1, -, -⟩, ⟨h2, -, -⟩, ⟨h3, -, -⟩, ⟨h4, -, -⟩, ⟨h5, -, -⟩, ⟨h6, -, -⟩, ⟨h7, -, -⟩, ⟨h8, -, -⟩, ⟨h9, -, -⟩, ⟨h10, -, -⟩, ⟨h11, -, -⟩, ⟨h12, -, -⟩, ⟨h13, -, -⟩, ⟨h14, -, -⟩, ⟨h15, -, -⟩, ⟨h16, r16, b16⟩, ⟨h17, -, -⟩, ⟨h18, -, -⟩, ⟨h19, -, -⟩, ⟨h20, -, -⟩, ⟨h21, -, -⟩, ⟨h22, -, -⟩, -⟩ := hd
      dsimp only at h0 h1 h2 h3 h4 h5 h6 h7 h8 h9 h10 h11 h12 h13 h14 h15 h16 h17 h18 h19 h20 h21 h22 r16 b16
      clear hdis
      simp only [h0, h1, h2, h3, h4, h5, h6, h7, h8, h9, h10, h11, h12, h13, h14, h15, h16, h17, h18, h19, h20, h21, h22]
      clear h22 h21 h20 h19 h18 h17 h16 h15 h14 h13 h12 h11 h10 h9 h8 h7 h6 h5 h4 h3 h2 h1 h0
      clear u
      simp only [List.map_nil]
      refine PlanW.done ?_
      have hb3 := bl_tt hwh
      clear r16
      apply absTB4 (w0 := wr) (g0 := wb.heap.size) (g1 := wr.heap.size) (g2 := g11) (g3 := g12)
      iterate 5 (focus exact zL)
      try clear hb3
      try clear hb0
      try clear k2
      try clear k4
      try clear k5
      try clear k6
      intro wi hb0 k2 k4 k5 k6
      (try simp only [List.setIfInBounds_toArray, List.set_cons_zero, List.set_cons_succ] at k2 k4 k5 k6)
      have Lk2 := k2.later
      have Fk2 := k2.laterF
      have Qk2 := k2.lt
      have Lk4 := k4.later
      have Fk4 := k4.laterF
      have Qk4 := k4.lt
      have Lk5 := k5.later
      have Fk5 := k5.laterF
      have Qk5 := k5.lt
      have Lk6 := k6.later
      have Fk6 := k6.laterF
      have Qk6 := k6.lt
      cases GT
      case true =>
        go_wp2
        go_ret2
        exact ⟨by rw [hIB.out, hstp.out, hsb.out, hHW.out, hok.out] <;> rfl, bl_tr hbw hb0⟩
      go_wp2_with ((go_at_call 74; (with_reducible refine (c_of x.s.mv.speed _).mono ?_); rintro e w3 ⟨rfl, hb3⟩; replace hb3 := bl_tt hb3))
      apply absB4 (w0 := wr) (g0 := wb.heap.size) (g1 := wr.heap.size) (g2 := g11) (g3 := g12)
      iterate 5 (focus exact zL)
      try clear hb3
      try clear Lk2
      try clear Fk2
      try clear Qk2
      try clear Lk4
      try clear Fk4
      try clear Qk4
      try clear Lk5
      try clear Fk5
      try clear Qk5
      try clear Lk6
      try clear Fk6
      try clear Qk6
      try clear hb0
      try clear k2
      try clear k4
      try clear k5
      try clear k6
      intro x0 hb0 k2 k4 k5 k6
      (try simp only [List.setIfInBounds_toArray, List.set_cons_zero, List.set_cons_succ] at k2 k4 k5 k6)
      have Lk2 := k2.later
      have Fk2 := k2.laterF
      have Qk2 := k2.lt
      have Lk4 := k4.later
      have Fk4 := k4.laterF
      have Qk4 := k4.lt
      have Lk5 := k5.later
      have Fk5 := k5.laterF
      have Qk5 := k5.lt
      have Lk6 := k6.later
      have Fk6 := k6.laterF
      have Qk6 := k6.lt
      refine wp_loop_rounds 4 ?_
      rw [rounds_succ]
      go_wp2
      apply absB5 (w0 := wr) (g0 := wb.heap.size) (g1 := wr.heap.size) (g2 := g11) (g3 := g12) (g4 := x0.heap.size)
      iterate 6 (focus exact zL)
      try clear hb3
      try clear Lk2
      try clear Fk2
      try clear Qk2
      try clear Lk4
      try clear Fk4
      try clear Qk4
      try clear Lk5
      try clear Fk5
      try clear Qk5
      try clear Lk6
      try clear Fk6
      try clear Qk6
      try clear hb0
      try clear k2
      try clear k4
      try clear k5
      try clear k6
      try clear k7
      intro y1 hb0 k2 k4 k5 k6 k7
      (try simp only [List.setIfInBounds_toArray, List.set_cons_zero, List.set_cons_succ] at k2 k4 k5 k6 k7)
      have Lk2 := k2.later
      have Fk2 := k2.laterF
      have Qk2 := k2.lt
      have Lk4 := k4.later
      have Fk4 := k4.laterF
      have Qk4 := k4.lt
      have Lk5 := k5.later
      have Fk5 := k5.laterF
      have Qk5 := k5.lt
      have Lk6 := k6.later
      have Fk6 := k6.laterF
      have Qk6 := k6.lt
      have Lk7 := k7.later
      have Fk7 := k7.laterF
      have Qk7 := k7.lt
      refine wp_any (w0 := y1) ⟨[], [], [some 96, some 97, some 98, some 99, some 100, some 101, some 102, some 103, some 104, some 105, some 106, some 107, some 108, some 109, some 110, some 111, some 112, some 113, some 114, some 115, some 116], [[], [0], [0, 1], [], [3], [3, 4], [0, 1, 2, 3, 4, 5], [], [7], [7, 8], [], [10], [7, 8, 9, 10, 11], [], [13], [13, 14], [], [16], [13, 14, 15, 16, 17], [0, 1, 2, 3, 4, 5, 6, 7, 8, 9, 10, 11, 12, 13, 14, 15, 16, 17, 18], [0, 1, 2, 3, 4, 5, 6, 7, 8, 9, 10, 11, 12, 13, 14, 15, 16, 17, 18, 19]], [[], [0], [1], [], [3], [4], [2, 5], [], [7], [8], [], [10], [9, 11], [], [13], [14], [], [16], [15, 17], [6, 12, 18], [19]]⟩ (fun _ => []) (by kernel_rfl) (by kernel_rfl) (by (exact zE)) (fun u => by simp only [putD, Act.put, List.setIfInBounds_toArray, List.set_cons_zero, List.set_cons_succ, Nat.zero_add, Nat.reduceAdd]; rfl) ?_
      apply RGW.on (i := 0) rfl
      · exact zG
      · intro γ u W hcur hd
        clear hd
        (try dsimp only)
        exact ⟨rfl, zS⟩
      · exact zC
      · rfl
      dsimp only [nA, cA]
      apply RGW.on (i := 1) rfl
      · exact zG
      · intro γ u W hcur hd
        obtain ⟨⟨h0, -, -⟩, -⟩ := hd
        dsimp only at h0
        (try simp only [h0])
        exact ⟨rfl, zS⟩
      · exact zC
      · rfl
      dsimp only [nA, cA]
      apply RGW.on (i := 2) rfl
      · exact zG
      · intro γ u W hcur hd
        obtain ⟨⟨h1, -, -⟩, -⟩ := hd
        dsimp only at h1
        (try simp only [h1])
        exact ⟨rfl, zS⟩
      · exact zC
      · rfl
      dsimp only [nA, cA]
      apply RGW.on (i := 3) rfl
      · exact zG
      · intro γ u W hcur hd
        clear hd
        (try dsimp only)
        exact ⟨rfl, zS⟩
      · exact zC
      · rfl
      dsimp only [nA, cA]
      apply RGW.on (i := 4) rfl
      · exact zG
      · intro γ u W hcur hd
        obtain ⟨⟨h3, -, -⟩, -⟩ := hd
        dsimp only at h3
        (try simp only [h3])
        exact ⟨rfl, zS⟩
      · exact zC
      · rfl
      dsimp only [nA, cA]
      apply RGW.on (i := 5) rfl
      · exact zG
      · intro γ u W hcur hd
        obtain ⟨⟨h4, -, -⟩, -⟩ := hd
        dsimp only at h4
        (try simp only [h4])
        exact ⟨rfl, zS⟩
      · exact zC
      · rfl
      dsimp only [nA, cA]
      apply RGW.on (i := 6) rfl
      · exact zG
      · intro γ u W hcur hd
        obtain ⟨⟨h2, -, -⟩, ⟨h5, -, -⟩, -⟩ := hd
        dsimp only at h2 h5
        (try simp only [h2, h5])
        exact ⟨rfl, zS⟩
      · exact zC
      · rfl
      dsimp only [nA, cA]
      apply RGW.on (i := 7) rfl
      · exact zG
      · intro γ u W hcur hd
        clear hd
        (try dsimp only)
        exact ⟨rfl, zS⟩
      · exact zC
      · rfl
      dsimp only [nA, cA]
      apply RGW.on (i := 8) rfl
      · exact zG
      · intro γ u W hcur hd
        obtain ⟨⟨h7, -, -⟩, -⟩ := hd
        dsimp only at h7
        (try simp only [h7])
        exact ⟨rfl, zS⟩
      · exact zC
      · rfl
      dsimp only [nA, cA]
      apply RGW.on (i := 9) rfl
      · exact zG
      · intro γ u W hcur hd
        obtain ⟨⟨h8, -, -⟩, -⟩ := hd
        dsimp only at h8
        (try simp only [h8])
        exact ⟨rfl, zS⟩
      · exact zC
      · rfl
      dsimp only [nA, cA]
      apply RGW.on (i := 10) rfl
      · exact zG
      · intro γ u W hcur hd
        clear hd
        (try dsimp only)
        exact ⟨rfl, zS⟩
      · exact zC
      · rfl
      dsimp only [nA, cA]
      apply RGW.on (i := 11) rfl
      · exact zG
      · intro γ u W hcur hd
        obtain ⟨⟨h10, -, -⟩, -⟩ := hd
        dsimp only at h10
        (try simp only [h10])
        exact ⟨rfl, zS⟩
      · exact zC
      · rfl
      dsimp only [nA, cA]
      apply RGW.on (i := 12) rfl
      · exact zG
      · intro γ u W hcur hd
        obtain ⟨⟨h9, -, -⟩, ⟨h11, -, -⟩, -⟩ := hd
        dsimp only at h9 h11
        (try simp only [h9, h11])
        exact ⟨rfl, zS⟩
      · exact zC
      · rfl
      dsimp only [nA, cA]
      apply RGW.on (i := 13) rfl
      · exact zG
      · intro γ u W hcur hd
        clear hd
        (try dsimp only)
        exact ⟨rfl, zS⟩
      · exact zC
      · rfl
      dsimp only [nA, cA]
      apply RGW.on (i := 14) rfl
      · exact zG
      · intro γ u W hcur hd
        obtain ⟨⟨h13, -, -⟩, -⟩ := hd
        dsimp only at h13
        (try simp only [h13])
        exact ⟨rfl, zS⟩
      · exact zC
      · rfl
      dsimp only [nA, cA]
      apply RGW.on (i := 15) rfl
      · exact zG
      · intro γ u W hcur hd
        obtain ⟨⟨h14, -, -⟩, -⟩ := hd
        dsimp only at h14
        (try simp only [h14])
        exact ⟨rfl, zS⟩
      · exact zC
      · rfl
      dsimp only [nA, cA]
      apply RGW.on (i := 16) rfl
      · exact zG
      · intro γ u W hcur hd
        clear hd
        (try dsimp only)
        exact ⟨rfl, zS⟩
      · exact zC
      · rfl
      dsimp only [nA, cA]
      apply RGW.on (i := 17) rfl
      · exact zG
      · intro γ u W hcur hd
        obtain ⟨⟨h16, -, -⟩, -⟩ := hd
        dsimp only at h16
        (try simp only [h16])
        exact ⟨rfl, zS⟩
      · exact zC
      · rfl
      dsimp only [nA, cA]
      apply RGW.on (i := 18) rfl
      · exact zG
      · intro γ u W hcur hd
        obtain ⟨⟨h15, -, -⟩, ⟨h17, -, -⟩, -⟩ := hd
        dsimp only at h15 h17
        (try simp only [h15, h17])
        exact ⟨rfl, zS⟩
      · exact zC
      · rfl
      dsimp only [nA, cA]
      apply RGW.call (i := 19) rfl
      · exact zG
      · intro γ u W hcur hd
        obtain ⟨⟨h6, -, -⟩, ⟨h12, -, -⟩, ⟨h18, -, -⟩, -⟩ := hd
        dsimp only at h6 h12 h18
        (try simp only [h6, h12, h18])
        refine ⟨rfl, fun K hK => ?_⟩
        go_simp
        (go_at_call 75; (with_reducible refine (hcx1.out _).mono ?_); rintro e w3 ⟨rfl, rfl⟩)
        (try dsimp only)
        exact hK.out _ _ rfl (by (exact zE))
      · exact zC
      · rfl
      dsimp only [nA, cA]
      apply RGW.on (i := 20) rfl
      · exact zG
      · intro γ u W hcur hd
        obtain ⟨⟨h19, -, -⟩, -⟩ := hd
        dsimp only at h19
        (try simp only [h19])
        exact ⟨rfl, zS⟩
      · exact zC
      · rfl
      dsimp only [nA, cA]
      refine RGW.fin (fun γ u z1 hz1 hd hdis => ?_)
      obtain ⟨⟨h0, -, -⟩, ⟨h1, -, -⟩, ⟨h2, -, -⟩, ⟨h3, -, -⟩, ⟨h4, -, -⟩, ⟨h5, -, -⟩, ⟨h6, -, -⟩, ⟨h7, -, -⟩, ⟨h8, -, -⟩, ⟨h9, -, -⟩, ⟨h10, -, -⟩, ⟨h11, -, -⟩, ⟨h12, -, -⟩, ⟨h13, -, -⟩, ⟨h14, -, -⟩, ⟨h15, -, -⟩, ⟨h16, -, -⟩, ⟨h17, -, -⟩, ⟨h18, -, -⟩, ⟨h19, -, -⟩, ⟨h20, -, -⟩, -⟩ := hd
      dsimp only at h0 h1 h2 h3 h4 h5 h6 h7 h8 h9 h10 h11 h12 h13 h14 h15 h16 h17 h18 h19 h20
      clear hdis
      simp only [h0, h1, h2, h3, h4, h5, h6, h7, h8, h9, h10, h11, h12, h13, h14, h15, h16, h17, h18, h19, h20]
      clear h20 h19 h18 h17 h16 h15 h14 h13 h12 h11 h10 h9 h8 h7 h6 h5 h4 h3 h2 h1 h0
      clear u
      simp only [List.map_nil]
      refine PlanW.done ?_
      have hb3 := bl_tt hz1
      apply absTB5 (w0 := wr) (g0 := wb.heap.size) (g1 := wr.heap.size) (g2 := g11) (g3 := g12) (g4 := x0.heap.size)
      iterate 6 (focus exact zL)
      try clear hb3
      try clear Lk2
      try clear Fk2
      try clear Qk2
      try clear Lk4
      try clear Fk4
      try clear Qk4
      try clear Lk5
      try clear Fk5
      try clear Qk5
      try clear Lk6
      try clear Fk6
      try clear Qk6
      try clear Lk7
      try clear Fk7
      try clear Qk7
      try clear hb0
      try clear k2
      try clear k4
      try clear k5
      try clear k6
      try clear k7
      intro t1 hb0 k2 k4 k5 k6 k7
      (try simp only [List.setIfInBounds_toArray, List.set_cons_zero, List.set_cons_succ] at k2 k4 k5 k6 k7)
      have Lk2 := k2.later
      have Fk2 := k2.laterF
      have Qk2 := k2.lt
      have Lk4 := k4.later
      have Fk4 := k4.laterF
      have Qk4 := k4.lt
      have Lk5 := k5.later
      have Fk5 := k5.laterF
      have Qk5 := k5.lt
      have Lk6 := k6.later
      have Fk6 := k6.laterF
      have Qk6 := k6.lt
      have Lk7 := k7.later
      have Fk7 := k7.laterF
      have Qk7 := k7.lt
      cases B1
      case false =>
        go_wp2
        go_ret2
        exact ⟨by rw [hIB.out, hstp.out, hsb.out, hHW.out, hok.out, hw3.out] <;> rfl, bl_tr hbw hb0⟩
      go_wp2
      apply absRB4 (w0 := wr) (g0 := wb.heap.size) (g1 := wr.heap.size) (g2 := g11) (g3 := g12)
      iterate 5 (focus exact zL)
      try clear hb3
      try clear Lk2
      try clear Fk2
      try clear Qk2
      try clear Lk4
      try clear Fk4
      try clear Qk4
      try clear Lk5
      try clear Fk5
      try clear Qk5
      try clear Lk6
      try clear Fk6
      try clear Qk6
      try clear Lk7
      try clear Fk7
      try clear Qk7
      try clear hb0
      try clear k2
      try clear k4
      try clear k5
      try clear k6
      intro x1 hb0 k2 k4 k5 k6
      (try simp only [List.setIfInBounds_toArray, List.set_cons_zero, List.set_cons_succ] at k2 k4 k5 k6)
      have Lk2 := k2.later
      have Fk2 := k2.laterF
      have Qk2 := k2.lt
      have Lk4 := k4.later
      have Fk4 := k4.laterF
      have Qk4 := k4.lt
      have Lk5 := k5.later
      have Fk5 := k5.laterF
      have Qk5 := k5.lt
      have Lk6 := k6.later
      have Fk6 := k6.laterF
      have Qk6 := k6.lt
      rw [rounds_succ]
      go_wp2
      apply absB5 (w0 := wr) (g0 := wb.heap.size) (g1 := wr.heap.size) (g2 := g11) (g3 := g12) (g4 := x1.heap.size)
      iterate 6 (focus exact zL)
      try clear hb3
      try clear Lk2
      try clear Fk2
      try clear Qk2
      try clear Lk4
      try clear Fk4
      try clear Qk4
      try clear Lk5
      try clear Fk5
      try clear Qk5
      try clear Lk6
      try clear Fk6
      try clear Qk6
      try clear hb0
      try clear k2
      try clear k4
      try clear k5
      try clear k6
      try clear k7
      intro y2 hb0 k2 k4 k5 k6 k7
      (try simp only [List.setIfInBounds_toArray, List.set_cons_zero, List.set_cons_succ] at k2 k4 k5 k6 k7)
      have Lk2 := k2.later
      have Fk2 := k2.laterF
      have Qk2 := k2.lt
      have Lk4 := k4.later
      have Fk4 := k4.laterF
      have Qk4 := k4.lt
      have Lk5 := k5.later
      have Fk5 := k5.laterF
      have Qk5 := k5.lt
      have Lk6 := k6.later
      have Fk6 := k6.laterF
      have Qk6 := k6.lt
      have Lk7 := k7.later
      have Fk7 := k7.laterF
      have Qk7 := k7.lt
      refine wp_any (w0 := y2) ⟨[], [], [some 96, some 97, some 98, some 99, some 100, some 101, some 102, some 103, some 104, some 105, some 106, some 107, some 108, some 109, some 110, some 111, some 112, some 113, some 114, some 115, some 116], [[], [0], [0, 1], [], [3], [3, 4], [0, 1, 2, 3, 4, 5], [], [7], [7, 8], [], [10], [7, 8, 9, 10, 11], [], [13], [13, 14], [], [16], [13, 14, 15, 16, 17], [0, 1, 2, 3, 4, 5, 6, 7, 8, 9, 10, 11, 12, 13, 14, 15, 16, 17, 18], [0, 1, 2, 3, 4, 5, 6, 7, 8, 9, 10, 11, 12, 13, 14, 15, 16, 17, 18, 19]], [[], [0], [1], [], [3], [4], [2, 5], [], [7], [8], [], [10], [9, 11], [], [13], [14], [], [16], [15, 17], [6, 12, 18], [19]]⟩ (fun _ => []) (by kernel_rfl) (by kernel_rfl) (by (exact zE)) (fun u => by simp only [putD, Act.put, List.setIfInBounds_toArray, List.set_cons_zero, List.set_cons_succ, Nat.zero_add, Nat.reduceAdd]; rfl) ?_
      apply RGW.on (i := 0) rfl
      · exact zG
      · intro γ u W hcur hd
        clear hd
        (try dsimp only)
        exact ⟨rfl, zS⟩
      · exact zC
      · rfl
      dsimp only [nA, cA]
      apply RGW.on (i := 1) rfl
      · exact zG
      · intro γ u W hcur hd
        obtain ⟨⟨h0, -, -⟩, -⟩ := hd
        dsimp only at h0
        (try simp only [h0])
        exact ⟨rfl, zS⟩
      · exact zC
      · rfl
      dsimp only [nA, cA]
      apply RGW.on (i := 2) rfl
      · exact zG
      · intro γ u W hcur hd
        obtain ⟨⟨h1, -, -⟩, -⟩ := hd
        dsimp only at h1
        (try simp only [h1])
        exact ⟨rfl, zS⟩
      · exact zC
      · rfl
      dsimp only [nA, cA]
      apply RGW.on (i := 3) rfl
      · exact zG
      · intro γ u W hcur hd
        clear hd
        (try dsimp only)
        exact ⟨rfl, zS⟩
      · exact zC
      · rfl
      dsimp only [nA, cA]
      apply RGW.on (i := 4) rfl
      · exact zG
      · intro γ u W hcur hd
        obtain ⟨⟨h3, -, -⟩, -⟩ := hd
        dsimp only at h3
        (try simp only [h3])
        exact ⟨rfl, zS⟩
      · exact zC
      · rfl
      dsimp only [nA, cA]
      apply RGW.on (i := 5) rfl
      · exact zG
      · intro γ u W hcur hd
        obtain ⟨⟨h4, -, -⟩, -⟩ := hd
        dsimp only at h4
        (try simp only [h4])
        exact ⟨rfl, zS⟩
      · exact zC
      · rfl
      dsimp only [nA, cA]
      apply RGW.on (i := 6) rfl
      · exact zG
      · intro γ u W hcur hd
        obtain ⟨⟨h2, -, -⟩, ⟨h5, -, -⟩, -⟩ := hd
        dsimp only at h2 h5
        (try simp only [h2, h5])
        exact ⟨rfl, zS⟩
      · exact zC
      · rfl
      dsimp only [nA, cA]
      apply RGW.on (i := 7) rfl
      · exact zG
      · intro γ u W hcur hd
        clear hd
        (try dsimp only)
        exact ⟨rfl, zS⟩
      · exact zC
      · rfl
      dsimp only [nA, cA]
      apply RGW.on (i := 8) rfl
      · exact zG
      · intro γ u W hcur hd
        obtain ⟨⟨h7, -, -⟩, -⟩ := hd
        dsimp only at h7
        (try simp only [h7])
        exact ⟨rfl, zS⟩
      · exact zC
      · rfl
      dsimp only [nA, cA]
      apply RGW.on (i := 9) rfl
      · exact zG
      · intro γ u W hcur hd
        obtain ⟨⟨h8, -, -⟩, -⟩ := hd
        dsimp only at h8
        (try simp only [h8])
        exact ⟨rfl, zS⟩
      · exact zC
      · rfl
      dsimp only [nA, cA]
      apply RGW.on (i := 10) rfl
      · exact zG
      · intro γ u W hcur hd
        clear hd
        (try dsimp only)
        exact ⟨rfl, zS⟩
      · exact zC
      · rfl
      dsimp only [nA, cA]
      apply RGW.on (i := 11) rfl
      · exact zG
      · intro γ u W hcur hd
        obtain ⟨⟨h10, -, -⟩, -⟩ := hd
        dsimp only at h10
        (try simp only [h10])
        exact ⟨rfl, zS⟩
      · exact zC
      · rfl
      dsimp only [nA, cA]
      apply RGW.on (i := 12) rfl
      · exact zG
      · intro γ u W hcur hd
        obtain ⟨⟨h9, -, -⟩, ⟨h11, -, -⟩, -⟩ := hd
        dsimp only at h9 h11
        (try simp only [h9, h11])
        exact ⟨rfl, zS⟩
      · exact zC
      · rfl
      dsimp only [nA, cA]
      apply RGW.on (i := 13) rfl
      · exact zG
      · intro γ u W hcur hd
        clear hd
        (try dsimp only)
        exact ⟨rfl, zS⟩
      · exact zC
      · rfl
      dsimp only [nA, cA]
      apply RGW.on (i := 14) rfl
      · exact zG
      · intro γ u W hcur hd
        obtain ⟨⟨h13, -, -⟩, -⟩ := hd
        dsimp only at h13
        (try simp only [h13])
        exact ⟨rfl, zS⟩
      · exact zC
      · rfl
      dsimp only [nA, cA]
      apply RGW.on (i := 15) rfl
      · exact zG
      · intro γ u W hcur hd
        obtain ⟨⟨h14, -, -⟩, -⟩ := hd
        dsimp only at h14
        (try simp only [h14])
        exact ⟨rfl, zS⟩
      · exact zC
      · rfl
      dsimp only [nA, cA]
      apply RGW.on (i := 16) rfl
      · exact zG
      · intro γ u W hcur hd
        clear hd
        (try dsimp only)
        exact ⟨rfl, zS⟩
      · exact zC
      · rfl
      dsimp only [nA, cA]
      apply RGW.on (i := 17) rfl
      · exact zG
      · intro γ u W hcur hd
        obtain ⟨⟨h16, -, -⟩, -⟩ := hd
        dsimp only at h16
        (try simp only [h16])
        exact ⟨rfl, zS⟩
      · exact zC
      · rfl
      dsimp only [nA, cA]
      apply RGW.on (i := 18) rfl
      · exact zG
      · intro γ u W hcur hd
        obtain ⟨⟨h15, -, -⟩, ⟨h17, -, -⟩, -⟩ := hd
        dsimp only at h15 h17
        (try simp only [h15, h17])
        exact ⟨rfl, zS⟩
      · exact zC
      · rfl
      dsimp only [nA, cA]
      apply RGW.call (i := 19) rfl
      · exact zG
      · intro γ u W hcur hd
        obtain ⟨⟨h6, -, -⟩, ⟨h12, -, -⟩, ⟨h18, -, -⟩, -⟩ := hd
        dsimp only at h6 h12 h18
        (try simp only [h6, h12, h18])
        refine ⟨rfl, fun K hK => ?_⟩
        go_simp
        (go_at_call 75; (with_reducible refine (hcx2.out _).mono ?_); rintro e w3 ⟨rfl, rfl⟩)
        (try dsimp only)
        exact hK.out _ _ rfl (by (exact zE))
      · exact zC
      · rfl
      dsimp only [nA, cA]
      apply RGW.on (i := 20) rfl
      · exact zG
      · intro γ u W hcur hd
        obtain ⟨⟨h19, -, -⟩, -⟩ := hd
        dsimp only at h19
        (try simp only [h19])
        exact ⟨rfl, zS⟩
      · exact zC
      · rfl
      dsimp only [nA, cA]
      refine RGW.fin (fun γ u z2 hz2 hd hdis => ?_)
      obtain ⟨⟨h0, -, -⟩, ⟨h1, -, -⟩, ⟨h2, -, -⟩, ⟨h3, -, -⟩, ⟨h4, -, -⟩, ⟨h5, -, -⟩, ⟨h6, -, -⟩, ⟨h7, -, -⟩, ⟨h8, -, -⟩, ⟨h9, -, -⟩, ⟨h10, -, -⟩, ⟨h11, -, -⟩, ⟨h12, -, -⟩, ⟨h13, -, -⟩, ⟨h14, -, -⟩, ⟨h15, -, -⟩, ⟨h16, -, -⟩, ⟨h17, -, -⟩, ⟨h18, -, -⟩, ⟨h19, -, -⟩, ⟨h20, -, -⟩, -⟩ := hd
      dsimp only at h0 h1 h2 h3 h4 h5 h6 h7 h8 h9 h10 h11 h12 h13 h14 h15 h16 h17 h18 h19 h20
      clear hdis
      simp only [h0, h1, h2, h3, h4, h5, h6, h7, h8, h9, h10, h11, h12, h13, h14, h15, h16, h17, h18, h19, h20]
      clear h20 h19 h18 h17 h16 h15 h14 h13 h12 h11 h10 h9 h8 h7 h6 h5 h4 h3 h2 h1 h0
      clear u
      simp only [List.map_nil]
      refine PlanW.done ?_
      have hb3 := bl_tt hz2
      apply absTB5 (w0 := wr) (g0 := wb.heap.size) (g1 := wr.heap.size) (g2 := g11) (g3 := g12) (g4 := x1.heap.size)
      iterate 6 (focus exact zL)
      try clear hb3
      try clear Lk2
      try clear Fk2
      try clear Qk2
      try clear Lk4
      try clear Fk4
      try clear Qk4
      try clear Lk5
      try clear Fk5
      try clear Qk5
      try clear Lk6
      try clear Fk6
      try clear Qk6
      try clear Lk7
      try clear Fk7
      try clear Qk7
      try clear hb0
      try clear k2
      try clear k4
      try clear k5
      try clear k6
      try clear k7
      intro t2 hb0 k2 k4 k5 k6 k7
      (try simp only [List.setIfInBounds_toArray, List.set_cons_zero, List.set_cons_succ] at k2 k4 k5 k6 k7)
      have Lk2 := k2.later
      have Fk2 := k2.laterF
      have Qk2 := k2.lt
      have Lk4 := k4.later
      have Fk4 := k4.laterF
      have Qk4 := k4.lt
      have Lk5 := k5.later
      have Fk5 := k5.laterF
      have Qk5 := k5.lt
      have Lk6 := k6.later
      have Fk6 := k6.laterF
      have Qk6 := k6.lt
      have Lk7 := k7.later
      have Fk7 := k7.laterF
      have Qk7 := k7.lt
      cases B2
      case false =>
        go_wp2
        go_ret2
        exact ⟨by rw [hIB.out, hstp.out, hsb.out, hHW.out, hok.out, hw3.out] <;> rfl, bl_tr hbw hb0⟩
      go_wp2
      apply absRB4 (w0 := wr) (g0 := wb.heap.size) (g1 := wr.heap.size) (g2 := g11) (g3 := g12)
      iterate 5 (focus exact zL)
      try clear hb3
      try clear Lk2
      try clear Fk2
      try clear Qk2
      try clear Lk4
      try clear Fk4
      try clear Qk4
      try clear Lk5
      try clear Fk5
      try clear Qk5
      try clear Lk6
      try clear Fk6
      try clear Qk6
      try clear Lk7
      try clear Fk7
      try clear Qk7
      try clear hb0
      try clear k2
      try clear k4
      try clear k5
      try clear k6
      intro x2 hb0 k2 k4 k5 k6
      (try simp only [List.setIfInBounds_toArray, List.set_cons_zero, List.set_cons_succ] at k2 k4 k5 k6)
      have Lk2 := k2.later
      have Fk2 := k2.laterF
      have Qk2 := k2.lt
      have Lk4 := k4.later
      have Fk4 := k4.laterF
      have Qk4 := k4.lt
      have Lk5 := k5.later
      have Fk5 := k5.laterF
      have Qk5 := k5.lt
      have Lk6 := k6.later
      have Fk6 := k6.laterF
      have Qk6 := k6.lt
      rw [rounds_succ]
      go_wp2
      apply absB5 (w0 := wr) (g0 := wb.heap.size) (g1 := wr.heap.size) (g2 := g11) (g3 := g12) (g4 := x2.heap.size)
      iterate 6 (focus exact zL)
      try clear hb3
      try clear Lk2
      try clear Fk2
      try clear Qk2
      try clear Lk4
      try clear Fk4
      try clear Qk4
      try clear Lk5
      try clear Fk5
      try clear Qk5
      try clear Lk6
      try clear Fk6
      try clear Qk6
      try clear hb0
      try clear k2
      try clear k4
      try clear k5
      try clear k6
      try clear k7
      intro y3 hb0 k2 k4 k5 k6 k7
      (try simp only [List.setIfInBounds_toArray, List.set_cons_zero, List.set_cons_succ] at k2 k4 k5 k6 k7)
      have Lk2 := k2.later
      have Fk2 := k2.laterF
      have Qk2 := k2.lt
      have Lk4 := k4.later
      have Fk4 := k4.laterF
      have Qk4 := k4.lt
      have Lk5 := k5.later
      have Fk5 := k5.laterF
      have Qk5 := k5.lt
      have Lk6 := k6.later
      have Fk6 := k6.laterF
      have Qk6 := k6.lt
      have Lk7 := k7.later
      have Fk7 := k7.laterF
      have Qk7 := k7.lt
      refine wp_any (w0 := y3) ⟨[], [], [some 96, some 97, some 98, some 99, some 100, some 101, some 102, some 103, some 104, some 105, some 106, some 107, some 108, some 109, some 110, some 111, some 112, some 113, some 114, some 115, some 116], [[], [0], [0, 1], [], [3], [3, 4], [0, 1, 2, 3, 4, 5], [], [7], [7, 8], [], [10], [7, 8, 9, 10, 11], [], [13], [13, 14], [], [16], [13, 14, 15, 16, 17], [0, 1, 2, 3, 4, 5, 6, 7, 8, 9, 10, 11, 12, 13, 14, 15, 16, 17, 18], [0, 1, 2, 3, 4, 5, 6, 7, 8, 9, 10, 11, 12, 13, 14, 15, 16, 17, 18, 19]], [[], [0], [1], [], [3], [4], [2, 5], [], [7], [8], [], [10], [9, 11], [], [13], [14], [], [16], [15, 17], [6, 12, 18], [19]]⟩ (fun _ => []) (by kernel_rfl) (by kernel_rfl) (by (exact zE)) (fun u => by simp only [putD, Act.put, List.setIfInBounds_toArray, List.set_cons_zero, List.set_cons_succ, Nat.zero_add, Nat.reduceAdd]; rfl) ?_
      apply RGW.on (i := 0) rfl
      · exact zG
      · intro γ u W hcur hd
        clear hd
        (try dsimp only)
        exact ⟨rfl, zS⟩
      · exact zC
      · rfl
      dsimp only [nA, cA]
      apply RGW.on (i := 1) rfl
      · exact zG
      · intro γ u W hcur hd
        obtain ⟨⟨h0, -, -⟩, -⟩ := hd
        dsimp only at h0
        (try simp only [h0])
        exact ⟨rfl, zS⟩
      · exact zC
      · rfl
      dsimp only [nA, cA]
      apply RGW.on (i := 2) rfl
      · exact zG
      · intro γ u W hcur hd
        obtain ⟨⟨h1, -, -⟩, -⟩ := hd
        dsimp only at h1
        (try simp only [h1])
        exact ⟨rfl, zS⟩
      · exact zC
      · rfl
      dsimp only [nA, cA]
      apply RGW.on (i := 3) rfl
      · exact zG
      · intro γ u W hcur hd
        clear hd
        (try dsimp only)
        exact ⟨rfl, zS⟩
      · exact zC
      · rfl
      dsimp only [nA, cA]
      apply RGW.on (i := 4) rfl
      · exact zG
      · intro γ u W hcur hd
        obtain ⟨⟨h3, -, -⟩, -⟩ := hd
        dsimp only at h3
        (try simp only [h3])
        exact ⟨rfl, zS⟩
      · exact zC
      · rfl
      dsimp only [nA, cA]
      apply RGW.on (i := 5) rfl
      · exact zG
      · intro γ u W hcur hd
        obtain ⟨⟨h4, -, -⟩, -⟩ := hd
        dsimp only at h4
        (try simp only [h4])
        exact ⟨rfl, zS⟩
      · exact zC
      · rfl
      dsimp only [nA, cA]
      apply RGW.on (i := 6) rfl
      · exact zG
      · intro γ u W hcur hd
        obtain ⟨⟨h2, -, -⟩, ⟨h5, -, -⟩, -⟩ := hd
        dsimp only at h2 h5
        (try simp only [h2, h5])
        exact ⟨rfl, zS⟩
      · exact zC
      · rfl
      dsimp only [nA, cA]
      apply RGW.on (i := 7) rfl
      · exact zG
      · intro γ u W hcur hd
        clear hd
        (try dsimp only)
        exact ⟨rfl, zS⟩
      · exact zC
      · rfl
      dsimp only [nA, cA]
      apply RGW.on (i := 8) rfl
      · exact zG
      · intro γ u W hcur hd
        obtain ⟨⟨h7, -, -⟩, -⟩ := hd
        dsimp only at h7
        (try simp only [h7])
        exact ⟨rfl, zS⟩
      · exact zC
      · rfl
      dsimp only [nA, cA]
      apply RGW.on (i := 9) rfl
      · exact zG
      · intro γ u W hcur hd
        obtain ⟨⟨h8, -, -⟩, -⟩ := hd
        dsimp only at h8
        (try simp only [h8])
        exact ⟨rfl, zS⟩
      · exact zC
      · rfl
      dsimp only [nA, cA]
      apply RGW.on (i := 10) rfl
      · exact zG
      · intro γ u W hcur hd
        clear hd
        (try dsimp only)
        exact ⟨rfl, zS⟩
      · exact zC
      · rfl
      dsimp only [nA, cA]
      apply RGW.on (i := 11) rfl
      · exact zG
      · intro γ u W hcur hd
        obtain ⟨⟨h10, -, -⟩, -⟩ := hd
        dsimp only at h10
        (try simp only [h10])
        exact ⟨rfl, zS⟩
      · exact zC
      · rfl
      dsimp only [nA, cA]
      apply RGW.on (i := 12) rfl
      · exact zG
      · intro γ u W hcur hd
        obtain ⟨⟨h9, -, -⟩, ⟨h11, -, -⟩, -⟩ := hd
        dsimp only at h9 h11
        (try simp only [h9, h11])
        exact ⟨rfl, zS⟩
      · exact zC
      · rfl
      dsimp only [nA, cA]
      apply RGW.on (i := 13) rfl
      · exact zG
      · intro γ u W hcur hd
        clear hd
        (try dsimp only)
        exact ⟨rfl, zS⟩
      · exact zC
      · rfl
      dsimp only [nA, cA]
      apply RGW.on (i := 14) rfl
      · exact zG
      · intro γ u W hcur hd
        obtain ⟨⟨h13, -, -⟩, -⟩ := hd
        dsimp only at h13
        (try simp only [h13])
        exact ⟨rfl, zS⟩
      · exact zC
      · rfl
      dsimp only [nA, cA]
      apply RGW.on (i := 15) rfl
      · exact zG
      · intro γ u W hcur hd
        obtain ⟨⟨h14, -, -⟩, -⟩ := hd
        dsimp only at h14
        (try simp only [h14])
        exact ⟨rfl, zS⟩
      · exact zC
      · rfl
      dsimp only [nA, cA]
      apply RGW.on (i := 16) rfl
      · exact zG
      · intro γ u W hcur hd
        clear hd
        (try dsimp only)
        exact ⟨rfl, zS⟩
      · exact zC
      · rfl
      dsimp only [nA, cA]
      apply RGW.on (i := 17) rfl
      · exact zG
      · intro γ u W hcur hd
        obtain ⟨⟨h16, -, -⟩, -⟩ := hd
        dsimp only at h16
        (try simp only [h16])
        exact ⟨rfl, zS⟩
      · exact zC
      · rfl
      dsimp only [nA, cA]
      apply RGW.on (i := 18) rfl
      · exact zG
      · intro γ u W hcur hd
        obtain ⟨⟨h15, -, -⟩, ⟨h17, -, -⟩, -⟩ := hd
        dsimp only at h15 h17
        (try simp only [h15, h17])
        exact ⟨rfl, zS⟩
      · exact zC
      · rfl
      dsimp only [nA, cA]
      apply RGW.call (i := 19) rfl
      · exact zG
      · intro γ u W hcur hd
        obtain ⟨⟨h6, -, -⟩, ⟨h12, -, -⟩, ⟨h18, -, -⟩, -⟩ := hd
        dsimp only at h6 h12 h18
        (try simp only [h6, h12, h18])
        refine ⟨rfl, fun K hK => ?_⟩
        go_simp
        (go_at_call 75; (with_reducible refine (hcx3.out _).mono ?_); rintro e w3 ⟨rfl, rfl⟩)
        (try dsimp only)
        exact hK.out _ _ rfl (by (exact zE))
      · exact zC
      · rfl
      dsimp only [nA, cA]
      apply RGW.on (i := 20) rfl
      · exact zG
      · intro γ u W hcur hd
        obtain ⟨⟨h19, -, -⟩, -⟩ := hd
        dsimp only at h19
        (try simp only [h19])
        exact ⟨rfl, zS⟩
      · exact zC
      · rfl
      dsimp only [nA, cA]
      refine RGW.fin (fun γ u z3 hz3 hd hdis => ?_)
      obtain ⟨⟨h0, -, -⟩, ⟨h1, -, -⟩, ⟨h2, -, -⟩, ⟨h3, -, -⟩, ⟨h4, -, -⟩, ⟨h5, -, -⟩, ⟨h6, -, -⟩, ⟨h7, -, -⟩, ⟨h8, -, -⟩, ⟨h9, -, -⟩, ⟨h10, -, -⟩, ⟨h11, -, -⟩, ⟨h12, -, -⟩, ⟨h13, -, -⟩, ⟨h14, -, -⟩, ⟨h15, -, -⟩, ⟨h16, -, -⟩, ⟨h17, -, -⟩, ⟨h18, -, -⟩, ⟨h19, -, -⟩, ⟨h20, -, -⟩, -⟩ := hd
      dsimp only at h0 h1 h2 h3 h4 h5 h6 h7 h8 h9 h10 h11 h12 h13 h14 h15 h16 h17 h18 h19 h20
      clear hdis
      simp only [h0, h1, h2, h3, h4, h5, h6, h7, h8, h9, h10, h11, h12, h13, h14, h15, h16, h17, h18, h19, h20]
      clear h20 h19 h18 h17 h16 h15 h14 h13 h12 h11 h10 h9 h8 h7 h6 h5 h4 h3 h2 h1 h0
      clear u
      simp only [List.map_nil]
      refine PlanW.done ?_
      have hb3 := bl_tt hz3
      apply absTB5 (w0 := wr) (g0 := wb.heap.size) (g1 := wr.heap.size) (g2 := g11) (g3 := g12) (g4 := x2.heap.size)
      iterate 6 (focus exact zL)
      try clear hb3
      try clear Lk2
      try clear Fk2
      try clear Qk2
      try clear Lk4
      try clear Fk4
      try clear Qk4
      try clear Lk5
      try clear Fk5
      try clear Qk5
      try clear Lk6
      try clear Fk6
      try clear Qk6
      try clear Lk7
      try clear Fk7
      try clear Qk7
      try clear hb0
      try clear k2
      try clear k4
      try clear k5
      try clear k6
      try clear k7
      intro t3 hb0 k2 k4 k5 k6 k7
      (try simp only [List.setIfInBounds_toArray, List.set_cons_zero, List.set_cons_succ] at k2 k4 k5 k6 k7)
      have Lk2 := k2.later
      have Fk2 := k2.laterF
      have Qk2 := k2.lt
      have Lk4 := k4.later
      have Fk4 := k4.laterF
      have Qk4 := k4.lt
      have Lk5 := k5.later
      have Fk5 := k5.laterF
      have Qk5 := k5.lt
      have Lk6 := k6.later
      have Fk6 := k6.laterF
      have Qk6 := k6.lt
      have Lk7 := k7.later
      have Fk7 := k7.laterF
      have Qk7 := k7.lt
      cases B3
      case false =>
        go_wp2
        go_ret2
        exact ⟨by rw [hIB.out, hstp.out, hsb.out, hHW.out, hok.out, hw3.out] <;> rfl, bl_tr hbw hb0⟩
      go_wp2
      apply absRB4 (w0 := wr) (g0 := wb.heap.size) (g1 := wr.heap.size) (g2 := g11) (g3 := g12)
      iterate 5 (focus exact zL)
      try clear hb3
      try clear Lk2
      try clear Fk2
      try clear Qk2
      try clear Lk4
      try clear Fk4
      try clear Qk4
      try clear Lk5
      try clear Fk5
      try clear Qk5
      try clear Lk6
      try clear Fk6
      try clear Qk6
      try clear Lk7
      try clear Fk7
      try clear Qk7
      try clear hb0
      try clear k2
      try clear k4
      try clear k5
      try clear k6
      intro x3 hb0 k2 k4 k5 k6
      (try simp only [List.setIfInBounds_toArray, List.set_cons_zero, List.set_cons_succ] at k2 k4 k5 k6)
      have Lk2 := k2.later
      have Fk2 := k2.laterF
      have Qk2 := k2.lt
      have Lk4 := k4.later
      have Fk4 := k4.laterF
      have Qk4 := k4.lt
      have Lk5 := k5.later
      have Fk5 := k5.laterF
      have Qk5 := k5.lt
      have Lk6 := k6.later
      have Fk6 := k6.laterF
      have Qk6 := k6.lt
      rw [rounds_succ]
      go_wp2
      have hbe := bl_tr hbw hb0
      go_roundw
      case rel => exact ⟨j + 1, q, by omega, by go_num, hq.out, hHW.out, by rw [hIB.out, hstp.out, hsb.out, hHW.out, hok.out, hw3.out]; simp, by (exact zE), by (exact zK)⟩
      case measure => simp [intOf]; omega
    · obtain rfl : j = ll := by omega
      go_wp2
      go_ret2
      exact ⟨by rw [hIB.out, hend.out] <;> rfl, hb0⟩
end Go.Proofs.YtephimmamkafoaaGreat
