/-
  Walks: whether positions are a path, by the reference.
-/
import Derived.Test.YtephimmamkafoaaGreatUH5
set_option linter.unusedSimpArgs false
set_option linter.unusedVariables false
namespace Go.Proofs.YtephimmamkafoaaGreat
open Go.RowKit Go.Shelf
attribute [local go_sem] bl_al bl_drew bl_drewN bl_refl bx_al bx_drew bx_drewN bx_refl
set_option maxRecDepth 20000
theorem vote_wrong {n : Nt} {v : Vt} (h : voteE n v = 0) : 0 ≤ v.wrong ∧ v.wrong ≤ v.rs.length := by
  unfold voteE at h
  simp only [fst_cons, unl_zero (show (2 : Int) ≠ 0 by decide), inR_iff] at h
  exact h.2.1
set_option maxHeartbeats 16000000 in
theorem r_IsPath (n : Nt) (b : Bx) (l : List StA) (t : List Pl) (A A' AP : Option Addr) (c c' cp : Nat) (w : World) (hn : NtIn n A c w) (hl : StsIn l A' w) (hll : few1 l) (hlb : n.bs.length ≤ 1000) (ht : Sl cPl 3 w AP t) (htl : t.length ≤ 1000) (h0 : isPE n b (l.map (·.s)) t = 0) :
    Calls Tryz.prog 27 #[vNt n.world (.slice A n.bs.length c), vBx b, .slice A' l.length c', .slice AP t.length cp] w (Ret (.bool (isPB n b (l.map (·.s)) t)) w) := by
  have hag := Lib.hid fun (x : StA) (hx : x ∈ l) (q : Pl) (hq : q.in 10000) (h8 : x.s.vt.rs.length ≤ 8) (hr : ∀ r ∈ x.s.vt.rs, r.ok n.bs) (W : World) (hb : Below w.heap.size w W) => r_Agreeing n.world n.bs A x.A c x.c x.s.vt.rs q W (hn.sl.below hb) hlb ((hl.rd x hx).below hb) (by omega) hq hr
  obtain ⟨hz1, hz2⟩ := isPE_zero h0
  obtain ⟨hbe, hz4⟩ := steps_zero hz1
  have hst : Hid (∀ (j : Nat) (x : StA), l[j]? = some x → x.s.mv.ok ∧ x.s.vt.rs.length ≤ 8 ∧ (∀ r ∈ x.s.vt.rs, r.ok n.bs) ∧ 0 ≤ x.s.vt.wrong ∧ x.s.vt.wrong ≤ x.s.vt.rs.length) := fun j x hx => by
    have h5 := after_ok (afterE_zero hbe (hz4 j x hx).1 (hz4 j x hx).2)
    exact ⟨mv_ok (hz4 j x hx).1, h5.2.2.1, h5.2.2.2, vote_wrong (hz4 j x hx).2⟩
  have hne := (box_zero hbe).1
  rw [List.length_map] at hz2
  have htl1 := Lib.hid hz2
  clear hz1 hz2 hz4 h0
  have Hl := Lib.hid hl
  have Ht := Lib.hid ht
  have hl1 := hll.1
  have hat : Hid (∀ (j : Nat) (x : StA) (p q : Pl), l[j]? = some x → t[j]? = some p → t[j + 1]? = some q → pathB n p ((l.map (·.s)).drop j) (t.drop (j + 1)) = (stepB n p q x.s && pathB n q ((l.map (·.s)).drop (j + 1)) (t.drop (j + 2)))) := fun j x p q h1 h2 h3 => pathB_at (by simp [h1]) h2 h3
  have hend : Hid (∀ p, pathB n p ((l.map (·.s)).drop l.length) (t.drop (l.length + 1)) = true) := fun p => by rw [← show (l.map (fun x : StA => x.s)).length = l.length from List.length_map _, List.drop_length]; cases t.drop ((l.map (fun x : StA => x.s)).length + 1) <;> rfl
  have hP0 : Hid (∀ p, t[0]? = some p → isPB n b (l.map (·.s)) t = (b.has p && pathB n p ((l.map (·.s)).drop 0) (t.drop 1))) := fun p h => by
    cases t with
    | nil => cases h
    | cons q t' => rw [List.getElem?_cons_zero] at h; injection h with h; subst h; rfl
  clear hn hl hll ht
  generalize isPB n b (l.map (·.s)) t = IB at *
  generalize l.map (·.s) = L at *
  generalize hnl : n.bs.length = nl at *
  clear hnl
  obtain ⟨ll, Hn⟩ : ∃ k, Hid (l.length = k) := ⟨_, rfl⟩
  obtain ⟨tl, Htn⟩ : ∃ k, Hid (t.length = k) := ⟨_, rfl⟩
  rw [Hn.out] at hl1 hend htl1 ⊢
  rw [Htn.out] at htl htl1 ⊢
  obtain ⟨p0, hp0⟩ : ∃ p, t[0]? = some p := ⟨t[0]'(by rw [Htn.out, htl1.out]; exact Nat.succ_pos _), List.getElem?_eq_getElem _⟩
  obtain ⟨pb, po, hPA, hpc⟩ := Ht.out 0 p0 hp0
  have hIB := Lib.hid (hP0.out p0 hp0)
  have hw0 := Lib.hid fun h : b.has p0 = true => has_world hbe h
  have hwi := Lib.hid fun (p : Pl) (h : n.world.has p = true) => world_in hne h
  subst hPA
  replace hpc := Lib.hid hpc
  replace hp0 := Lib.hid hp0
  clear hP0 hbe hne
  have htl2 : 0 < tl := by rw [htl1.out]; exact Nat.succ_pos _
  have hch := Lib.hid fun W => r_IsIn b p0 W
  generalize hHB : b.has p0 = HB at *
  replace hHB := Lib.hid hHB
  have hpz : Hid (∀ (j : Nat) (v : Value), (cPl p0)[j]? = some v → w.cell? ⟨pb, po + j, none⟩ = some v) := fun j v h => by have := hpc.out j v h; simpa using this
  go_enter Tryz.func27, Tryz.ntmps27
  go_upto_region 1 with fail
  apply absB2 (w0 := w) (g0 := w.heap.size) (g1 := w.heap.size + 1)
  iterate 3 (focus exact zL)
  try clear hb3
  try clear hb0
  try clear k0
  try clear k1
  intro wa hb0 k0 k1
  (try simp only [List.setIfInBounds_toArray, List.set_cons_zero, List.set_cons_succ] at k0 k1)
  have Lk0 := k0.later
  have Fk0 := k0.laterF
  have Qk0 := k0.lt
  have Lk1 := k1.later
  have Fk1 := k1.laterF
  have Qk1 := k1.lt
  have q0 : ∀ W, Below _ _ W → W.cell? ⟨pb, po, none⟩ = some (.int .i64 p0.x) := later (kcell hb0 (hpz.out 0 _ rfl))
  have q1 : ∀ W, Below _ _ W → W.cell? ⟨pb, po + 1, none⟩ = some (.int .i64 p0.y) := later (kcell hb0 (hpz.out 1 _ rfl))
  have q2 : ∀ W, Below _ _ W → W.cell? ⟨pb, po + 2, none⟩ = some (.int .i64 p0.z) := later (kcell hb0 (hpz.out 2 _ rfl))
  refine wp_any (w0 := wa) ⟨[], [], [some 14, some 15, some 16, some 17, some 18, some 19], [[], [], [1], [1, 2], [0, 1, 2, 3], [0, 1, 2, 3, 4]], [[], [], [1], [2], [0, 3], [4]]⟩ (fun _ => []) (by kernel_rfl) (by kernel_rfl) (by (exact zE)) (fun u => by simp only [putD, Act.put, List.setIfInBounds_toArray, List.set_cons_zero, List.set_cons_succ, Nat.zero_add, Nat.reduceAdd]; rfl) ?_
  apply RGW.on (i := 0) rfl
  · exact zG
  · intro γ u W hcur hd
    clear hd
    (try dsimp only)
    exact ⟨rfl, zS⟩
  · exact zC
  · rfl
  dsimp only [nA, cA]
  apply RGW.on (i := 1) rfl
  · exact zG
  · intro γ u W hcur hd
    clear hd
    (try dsimp only)
    exact ⟨rfl, zS⟩
  · exact zC
  · rfl
  dsimp only [nA, cA]
  apply RGW.on (i := 2) rfl
  · exact zG
  · intro γ u W hcur hd
    obtain ⟨⟨h1, -, -⟩, -⟩ := hd
    dsimp only at h1
    (try simp only [h1])
    exact ⟨rfl, zS⟩
  · exact zC
  · rfl
  dsimp only [nA, cA]
  apply RGW.on (i := 3) rfl
  · exact zG
  · intro γ u W hcur hd
    obtain ⟨⟨h2, -, -⟩, -⟩ := hd
    dsimp only at h2
    (try simp only [h2])
    exact ⟨rfl, zS⟩
  · exact zC
  · rfl
  dsimp only [nA, cA]
  apply RGW.call (i := 4) rfl
  · exact zG
  · intro γ u W hcur hd
    obtain ⟨⟨h0, -, -⟩, ⟨h3, -, -⟩, -⟩ := hd
    dsimp only at h0 h3
    (try simp only [h0, h3])
    refine ⟨rfl, fun K hK => ?_⟩
    go_simp
    (go_at_call 31; (with_reducible refine (hch.out _).mono ?_); rintro e w3 ⟨rfl, hb3⟩; replace hb3 := bl_tt hb3)
    (try dsimp only)
    exact hK.out _ _ rfl (by (exact zE))
  · exact zC
  · rfl
  dsimp only [nA, cA]
  apply RGW.on (i := 5) rfl
  · exact zG
  · intro γ u W hcur hd
    obtain ⟨⟨h4, -, -⟩, -⟩ := hd
    dsimp only at h4
    (try simp only [h4])
    exact ⟨rfl, zS⟩
  · exact zC
  · rfl
  dsimp only [nA, cA]
  refine RGW.fin (fun γ u we hwe hd hdis => ?_)
  obtain ⟨⟨h0, -, -⟩, ⟨h1, -, -⟩, ⟨h2, -, -⟩, ⟨h3, -, -⟩, ⟨h4, -, -⟩, ⟨h5, -, -⟩, -⟩ := hd
  dsimp only at h0 h1 h2 h3 h4 h5
  clear hdis
  simp only [h0, h1, h2, h3, h4, h5]
  clear h5 h4 h3 h2 h1 h0
  clear u
  simp only [List.map_nil]
  refine PlanW.done ?_
  have hb3 := bl_tt hwe
  clear q0 q1 q2
  apply absTB1 (w0 := w) (g0 := w.heap.size)
  iterate 2 (focus exact zL)
  try clear hb3
  try clear Lk0
  try clear Fk0
  try clear Qk0
  try clear Lk1
  try clear Fk1
  try clear Qk1
  try clear hb0
  try clear k0
  intro wf hb0 k0
  (try simp only [List.setIfInBounds_toArray, List.set_cons_zero, List.set_cons_succ] at k0)
  have Lk0 := k0.later
  have Fk0 := k0.laterF
  have Qk0 := k0.lt
  cases HB
  · go_wp2
    go_ret
    exact ⟨by rw [hIB.out] <;> rfl, hb0⟩
  have hwp0 := hw0.out rfl
  replace hIB : Hid (IB = pathB n p0 (L.drop 0) (t.drop 1)) := by rw [hIB.out]; exact Lib.hid rfl
  clear hpc hw0 hHB hch hpz
  replace hwp0 := Lib.hid hwp0
  clear Lk0 Fk0
  go_wp2
  simp only [Bool.not_true]
  go_loopw [9] (fun i wr => ∃ (j : Nat) (p : Pl), j ≤ ll ∧ i = .int .i64 j ∧ t[j]? = some p ∧ n.world.has p = true ∧ IB = pathB n p (L.drop j) (t.drop (j + 1)) ∧ Below w.heap.size w wr ∧ Blk wr w.heap.size 28 (aNt n.world (.slice A nl c))) (fun i _ => ll - (intOf i).toNat)
  case atStart => exact ⟨0, p0, Nat.zero_le _, rfl, hp0.out, hwp0.out, hIB.out, hb0, k0⟩
  case round =>
    clear k0 hb0 hIB hwp0 hp0
    obtain ⟨j, p, hj, rfl, hp, hwp, hIB, hb0, k0⟩ := hrel
    replace hIB := Lib.hid hIB
    by_cases hjt : j < ll
    · have hx : l[j]? = some (l[j]'(by rw [Hn.out]; exact hjt)) := List.getElem?_eq_getElem _
      generalize l[j]'(by rw [Hn.out]; exact hjt) = x at hx
      have hq : t[j + 1]? = some (t[j + 1]'(by rw [Htn.out, htl1.out]; omega)) := List.getElem?_eq_getElem _
      generalize t[j + 1]'(by rw [Htn.out, htl1.out]; omega) = q at hq
      have hm : x ∈ l := List.mem_of_getElem? hx
      obtain ⟨bb, off, hA, hc⟩ := Hl.out.sl j x hx
      obtain ⟨hmo, h8, hro, hwr1, hwr2⟩ := hst.out j x hx
      obtain ⟨pb', po', e1, hpc⟩ := Ht.out j p hp
      obtain ⟨pb'', po'', e2, hqc⟩ := Ht.out (j + 1) q hq
      injection e1 with e1
      injection e1 with e1 e3 _
      subst e1 e3
      injection e2 with e2
      injection e2 with e2 e3 _
      subst e2 e3
      have hpi := hwi.out p hwp
      have hag := Lib.hid fun (h : n.world.has q = true) (W : World) (hb : Below w.heap.size w W) => hag.out x hm q (hwi.out q h) h8 hro W hb
      have hqi := Lib.hid fun (h : n.world.has q = true) => hwi.out q h
      have hok := Lib.hid (okB_ref n.bs x.s.vt.rs x.s.vt.wrong q h8)
      have hal := agrL_le n.bs x.s.vt.rs q
      have eal : pickL (agrAt n.bs q x.s.vt.rs) x.s.vt.rs.length = agrL n.bs x.s.vt.rs q := rfl
      rw [eal] at hag
      clear eal
      have hstp := Lib.hid (hat.out j x p q hx hp hq)
      have hsb : Hid (stepB n p q x.s = (n.world.has q && (okB n.bs x.s.vt.rs x.s.vt.wrong q && within3 p q x.s.mv))) := rfl
      have hcx := Lib.hid fun (W : World) => r_IsIn n.world q W
      have hw3 : Hid (within3 p q x.s.mv = (inR (q.x - p.x) (x.s.mv.ticks * x.s.mv.speed.x.lo) (x.s.mv.ticks * x.s.mv.speed.x.hi) && (inR (q.y - p.y) (x.s.mv.ticks * x.s.mv.speed.y.lo) (x.s.mv.ticks * x.s.mv.speed.y.hi) && inR (q.z - p.z) (x.s.mv.ticks * x.s.mv.speed.z.lo) (x.s.mv.ticks * x.s.mv.speed.z.hi)))) := rfl
      obtain ⟨m1, m2, ⟨u1, u2, u3, u4⟩, ⟨v1, v2, v3, v4⟩, ⟨w1, w2, w3, w4⟩⟩ := hmo
      have bxl := tv_bd m1 m2 u1 u2
      have bxh := tv_bd m1 m2 u3 u4
      have byl := tv_bd m1 m2 v1 v2
      have byh := tv_bd m1 m2 v3 v4
      have bzl := tv_bd m1 m2 w1 w2
      have bzh := tv_bd m1 m2 w3 w4
      obtain ⟨⟨p1, p2⟩, ⟨p3, p4⟩, p5, p6⟩ := hpi
      have hcx1 := Lib.hid fun W => r_Within (q.x - p.x) (x.s.mv.ticks * x.s.mv.speed.x.lo) (x.s.mv.ticks * x.s.mv.speed.x.hi) W
      have hcx2 := Lib.hid fun W => r_Within (q.y - p.y) (x.s.mv.ticks * x.s.mv.speed.y.lo) (x.s.mv.ticks * x.s.mv.speed.y.hi) W
      have hcx3 := Lib.hid fun W => r_Within (q.z - p.z) (x.s.mv.ticks * x.s.mv.speed.z.lo) (x.s.mv.ticks * x.s.mv.speed.z.hi) W
      have hjt1 : j + 1 < tl := by rw [htl1.out]; omega
      have hjt2 : j < tl := by omega
      have hjt3 : (0 : Int) ≤ (j : Int) + 1 ∧ (j : Int) + 1 < (tl : Int) := by omega
      clear hm hro u1 u2 u3 u4 v1 v2 v3 v4 w1 w2 w3 w4 hwp
      replace hx := Lib.hid hx
      replace hp := Lib.hid hp
      replace hq := Lib.hid hq
      replace hc := Lib.hid hc
      replace hpc := Lib.hid hpc
      replace hqc := Lib.hid hqc
      generalize inR (q.x - p.x) (x.s.mv.ticks * x.s.mv.speed.x.lo) (x.s.mv.ticks * x.s.mv.speed.x.hi) = B1 at *
      generalize inR (q.y - p.y) (x.s.mv.ticks * x.s.mv.speed.y.lo) (x.s.mv.ticks * x.s.mv.speed.y.hi) = B2 at *
      generalize inR (q.z - p.z) (x.s.mv.ticks * x.s.mv.speed.z.lo) (x.s.mv.ticks * x.s.mv.speed.z.hi) = B3 at *
      generalize within3 p q x.s.mv = W3 at *
      generalize okB n.bs x.s.vt.rs x.s.vt.wrong q = OK at *
      generalize agrL n.bs x.s.vt.rs q = AL at *
      obtain ⟨HW, hHW⟩ : ∃ HW, n.world.has q = HW := ⟨_, rfl⟩
      rw [hHW] at hcx
      replace hHW := Lib.hid hHW
      subst hA
      have hbw := hb0
      clear hb0
      have hb0 := bl_refl wr
      have hzr : w.heap.size < wr.heap.size := k0.lt
      have Lk0 := k0.later
      have Fk0 := k0.laterF
      have Qk0 := k0.lt
      go_upto_region 6 with fail
      have c0 : ∀ W, Below _ _ W → W.cell? ⟨bb, off + j * 9, none⟩ = some (.int .i64 x.s.mv.ticks) := later (kcell (bl_tr hbw hb0) (hc.out 0 _ rfl))
      have c1 : ∀ W, Below _ _ W → W.cell? ⟨bb, off + j * 9 + 1, none⟩ = some (.int .i64 x.s.mv.speed.x.lo) := later (kcell (bl_tr hbw hb0) (hc.out 1 _ rfl))
      have c2 : ∀ W, Below _ _ W → W.cell? ⟨bb, off + j * 9 + 2, none⟩ = some (.int .i64 x.s.mv.speed.x.hi) := later (kcell (bl_tr hbw hb0) (hc.out 2 _ rfl))
      have c3 : ∀ W, Below _ _ W → W.cell? ⟨bb, off + j * 9 + 3, none⟩ = some (.int .i64 x.s.mv.speed.y.lo) := later (kcell (bl_tr hbw hb0) (hc.out 3 _ rfl))
      have c4 : ∀ W, Below _ _ W → W.cell? ⟨bb, off + j * 9 + 4, none⟩ = some (.int .i64 x.s.mv.speed.y.hi) := later (kcell (bl_tr hbw hb0) (hc.out 4 _ rfl))
      have c5 : ∀ W, Below _ _ W → W.cell? ⟨bb, off + j * 9 + 5, none⟩ = some (.int .i64 x.s.mv.speed.z.lo) := later (kcell (bl_tr hbw hb0) (hc.out 5 _ rfl))
      have c6 : ∀ W, Below _ _ W → W.cell? ⟨bb, off + j * 9 + 6, none⟩ = some (.int .i64 x.s.mv.speed.z.hi) := later (kcell (bl_tr hbw hb0) (hc.out 6 _ rfl))
      have c7 : ∀ W, Below _ _ W → W.cell? ⟨bb, off + j * 9 + 7, none⟩ = some (.slice x.A x.s.vt.rs.length x.c) := later (kcell (bl_tr hbw hb0) (hc.out 7 _ rfl))
      have c8 : ∀ W, Below _ _ W → W.cell? ⟨bb, off + j * 9 + 8, none⟩ = some (.int .i64 x.s.vt.wrong) := later (kcell (bl_tr hbw hb0) (hc.out 8 _ rfl))
      have cp0 : ∀ W, Below _ _ W → W.cell? ⟨pb, po + j * 3, none⟩ = some (.int .i64 p.x) := later (kcell (bl_tr hbw hb0) (hpc.out 0 _ rfl))
      have cp1 : ∀ W, Below _ _ W → W.cell? ⟨pb, po + j * 3 + 1, none⟩ = some (.int .i64 p.y) := later (kcell (bl_tr hbw hb0) (hpc.out 1 _ rfl))
      have cp2 : ∀ W, Below _ _ W → W.cell? ⟨pb, po + j * 3 + 2, none⟩ = some (.int .i64 p.z) := later (kcell (bl_tr hbw hb0) (hpc.out 2 _ rfl))
      have cq0 : ∀ W, Below _ _ W → W.cell? ⟨pb, po + (j + 1) * 3, none⟩ = some (.int .i64 q.x) := later (kcell (bl_tr hbw hb0) (hqc.out 0 _ rfl))
      have cq1 : ∀ W, Below _ _ W → W.cell? ⟨pb, po + (j + 1) * 3 + 1, none⟩ = some (.int .i64 q.y) := later (kcell (bl_tr hbw hb0) (hqc.out 1 _ rfl))
      have cq2 : ∀ W, Below _ _ W → W.cell? ⟨pb, po + (j + 1) * 3 + 2, none⟩ = some (.int .i64 q.z) := later (kcell (bl_tr hbw hb0) (hqc.out 2 _ rfl))
      refine wp_any (w0 := wr) ⟨[21, 22, 23], [], [some 26, some 27, some 28, some 29, some 30, some 31, some 32, some 33, some 34, some 35, some 36, some 37, some 38, some 39, some 40, some 41, some 42, some 43, some 10, some 11, some 12, none, none, none], [[], [], [0, 1], [0, 1, 2], [0, 1, 2, 3], [], [], [6], [5, 6, 7], [5, 6, 7, 8], [0, 1, 2, 3, 4, 5, 6, 7, 8, 9], [], [], [11, 12], [11, 12, 13], [11, 12, 13, 14], [11, 12, 13, 14, 15], [0, 1, 2, 3, 4, 5, 6, 7, 8, 9, 10, 11, 12, 13, 14, 15, 16], [], [], [], [0, 1, 2, 3, 4, 5, 6, 7, 8, 9, 10, 11, 12, 13, 14, 15, 16, 17, 18, 19, 20], [0, 1, 2, 3, 4, 5, 6, 7, 8, 9, 10, 18, 19, 20, 21], [0, 1, 2, 3, 4, 5, 6, 7, 8, 9, 10, 11, 12, 13, 14, 15, 16, 17, 18, 19, 20, 21, 22]], [[], [], [0, 1], [2], [3], [], [], [6], [5, 7], [8], [9], [], [], [11, 12], [13], [14], [15], [16], [], [], [], [], [], []]⟩ (fun γ => [(γ 18).n, (γ 19).n, (γ 20).n]) (by kernel_rfl) (by kernel_rfl) (by (exact zE)) (fun u => by simp only [putD, Act.put, List.setIfInBounds_toArray, List.set_cons_zero, List.set_cons_succ, Nat.zero_add, Nat.reduceAdd]; rfl) ?_
      apply RGW.on (i := 0) rfl
      · exact zG
      · intro γ u W hcur hd
        clear hd
        (try dsimp only)
        exact ⟨rfl, zS⟩
      · exact zC
      · rfl
      dsimp only [nA, cA]
      apply RGW.on (i := 1) rfl
      · exact zG
      · intro γ u W hcur hd
        clear hd
        (try dsimp only)
        exact ⟨rfl, zS⟩
      · exact zC
      · rfl
      dsimp only [nA, cA]
      apply RGW.on (i := 2) rfl
      · exact zG
      · intro γ u W hcur hd
        obtain ⟨⟨h0, -, -⟩, ⟨h1, -, -⟩, -⟩ := hd
        dsimp only at h0 h1
        (try simp only [h0, h1])
        exact ⟨rfl, zS⟩
      · exact zC
      · rfl
      dsimp only [nA, cA]
      apply RGW.on (i := 3) rfl
      · exact zG
      · intro γ u W hcur hd
        obtain ⟨⟨h2, -, -⟩, -⟩ := hd
        dsimp only at h2
        (try simp only [h2])
        exact ⟨rfl, zS⟩
      · exact zC
      · rfl
      dsimp only [nA, cA]
      apply RGW.call (i := 4) rfl
      · exact zG
      · intro γ u W hcur hd
        obtain ⟨⟨h3, -, -⟩, -⟩ := hd
        dsimp only at h3
        (try simp only [h3])
        refine ⟨rfl, fun K hK => ?_⟩
        go_simp
        (go_at_call 76; (with_reducible refine (r_Coord p _).mono ?_); rintro e w3 ⟨rfl, hb3⟩; replace hb3 := bl_tt hb3)
        (try dsimp only)
        exact hK.out _ _ rfl (by (exact zE))
      · exact zC
      · rfl
      dsimp only [nA, cA]
      apply RGW.on (i := 5) rfl
      · exact zG
      · intro γ u W hcur hd
        clear hd
        (try dsimp only)
        exact ⟨rfl, zS⟩
      · exact zC
      · rfl
      dsimp only [nA, cA]
      apply RGW.on (i := 6) rfl
      · exact zG
      · intro γ u W hcur hd
        clear hd
        (try dsimp only)
        exact ⟨rfl, zS⟩
      · exact zC
      · rfl
      dsimp only [nA, cA]
      apply RGW.on (i := 7) rfl
      · exact zG
      · intro γ u W hcur hd
        obtain ⟨⟨h6, -, -⟩, -⟩ := hd
        dsimp only at h6
        (try simp only [h6])
        exact ⟨rfl, zS⟩
      · exact zC
      · rfl
      dsimp only [nA, cA]
      apply RGW.on (i := 8) rfl
      · exact zG
      · intro γ u W hcur hd
        obtain ⟨⟨h5, -, -⟩, ⟨h7, -, -⟩, -⟩ := hd
        dsimp only at h5 h7
        (try simp only [h5, h7])
        exact ⟨rfl, zS⟩
      · exact zC
      · rfl
      dsimp only [nA, cA]
      apply RGW.on (i := 9) rfl
      · exact zG
      · intro γ u W hcur hd
        obtain ⟨⟨h8, -, -⟩, -⟩ := hd
        dsimp only at h8
        (try simp only [h8])
        exact ⟨rfl, zS⟩
      · exact zC
      · rfl
      dsimp only [nA, cA]
      apply RGW.call (i := 10) rfl
      · exact zG
      · intro γ u W hcur hd
        obtain ⟨⟨h9, -, -⟩, -⟩ := hd
        dsimp only at h9
        (try simp only [h9])
        refine ⟨rfl, fun K hK => ?_⟩
        go_simp
        (go_at_call 76; (with_reducible refine (r_Coord q _).mono ?_); rintro e w3 ⟨rfl, hb3⟩; replace hb3 := bl_tt hb3)
        (try dsimp only)
        exact hK.out _ _ rfl (by (exact zE))
      · exact zC
      · rfl
      dsimp only [nA, cA]
      apply RGW.on (i := 11) rfl
      · exact zG
      · intro γ u W hcur hd
        clear hd
        (try dsimp only)
        exact ⟨rfl, zS⟩
      · exact zC
      · rfl
      dsimp only [nA, cA]
      apply RGW.on (i := 12) rfl
      · exact zG
      · intro γ u W hcur hd
        clear hd
        (try dsimp only)
        exact ⟨rfl, zS⟩
      · exact zC
      · rfl
      dsimp only [nA, cA]
      apply RGW.on (i := 13) rfl
      · exact zG
      · intro γ u W hcur hd
        obtain ⟨⟨h11, -, -⟩, ⟨h12, -, -⟩, -⟩ := hd
        dsimp only at h11 h12
        (try simp only [h11, h12])
        exact ⟨rfl, zS⟩
      · exact zC
      · rfl
      dsimp only [nA, cA]
      apply RGW.on (i := 14) rfl
      · exact zG
      · intro γ u W hcur hd
        obtain ⟨⟨h13, -, -⟩, -⟩ := hd
        dsimp only at h13
        (try simp only [h13])
        exact ⟨rfl, zS⟩
      · exact zC
      · rfl
      dsimp only [nA, cA]
      apply RGW.on (i := 15) rfl
      · exact zG
      · intro γ u W hcur hd
        obtain ⟨⟨h14, -, -⟩, -⟩ := hd
        dsimp only at h14
        (try simp only [h14])
        exact ⟨rfl, zS⟩
      · exact zC
      · rfl
      dsimp only [nA, cA]
      apply RGW.on (i := 16) rfl
      · exact zG
      · intro γ u W hcur hd
        obtain ⟨⟨h15, -, -⟩, -⟩ := hd
        dsimp only at h15
        (try simp only [h15])
        exact ⟨rfl, zS⟩
      · exact zC
      · rfl
      dsimp only [nA, cA]
      apply RGW.call (i := 17) rfl
      · exact zG
      · intro γ u W hcur hd
        obtain ⟨⟨h16, -, -⟩, -⟩ := hd
        dsimp only at h16
        (try simp only [h16])
        refine ⟨rfl, fun K hK => ?_⟩
        go_simp
        (go_at_call 77; (with_reducible refine (r_Sides x.s.mv.speed _).mono ?_); rintro e w3 ⟨rfl, hb3⟩; replace hb3 := bl_tt hb3)
        (try dsimp only)
        exact hK.out _ _ rfl (by (exact zE))
      · exact zC
      · rfl
      dsimp only [nA, cA]
      apply RGW.alloc (i := 18) rfl
      · exact zG
      · intro γ u W hcur hd
        clear hd
        (try dsimp only)
        refine ⟨rfl, fun K hK => ?_⟩
        go_simp
        exact hK.out _ _ rfl rfl
      · exact zC
      · rfl
      · rfl
      dsimp only [nA, cA]
      apply RGW.alloc (i := 19) rfl
      · exact zG
      · intro γ u W hcur hd
        clear hd
        (try dsimp only)
        refine ⟨rfl, fun K hK => ?_⟩
        go_simp
        exact hK.out _ _ rfl rfl
      · exact zC
      · rfl
      · rfl
      dsimp only [nA, cA]
      apply RGW.alloc (i := 20) rfl
      · exact zG
      · intro γ u W hcur hd
        clear hd
        (try dsimp only)
        refine ⟨rfl, fun K hK => ?_⟩
        go_simp
        exact hK.out _ _ rfl rfl
      · exact zC
      · rfl
      · rfl
      dsimp only [nA, cA]
      refine RGW.skip (i := 21) rfl rfl ?_
      dsimp only [nA, cA]
      refine RGW.skip (i := 22) rfl rfl ?_
      dsimp only [nA, cA]
      refine RGW.skip (i := 23) rfl rfl ?_
      dsimp only [nA, cA]
      refine RGW.fin (fun γ u wf hwf hd hdis => ?_)
      obtain ⟨⟨h0, -, -⟩, ⟨h1, -, -⟩, ⟨h2, -, -⟩, ⟨h3, -, -⟩, ⟨h4, -, -⟩, ⟨h5, -, -⟩, ⟨h6, -, -⟩, ⟨h7, -, -⟩, ⟨h8, -, -⟩, ⟨h9, -, -⟩, ⟨h10, -, -⟩, ⟨h11, -, -⟩, ⟨h12, -, -⟩, ⟨h13, -, -⟩, ⟨h14, -, -⟩, ⟨h15, -, -⟩, ⟨h16, -, -⟩, ⟨h17, -, -⟩, ⟨h18, r18, b18⟩, ⟨h19, r19, b19⟩, ⟨h20, r20, b20⟩, -⟩ := hd
      dsimp only at h0 h1 h2 h3 h4 h5 h6 h7 h8 h9 h10 h11 h12 h13 h14 h15 h16 h17 h18 h19 h20 r18 r19 r20 b18 b19 b20
      have n18_19 := hdis 18 19 rfl rfl (Nat.lt_of_lt_of_eq (by decide : 18 < 24) (by kernel_rfl)) (Nat.lt_of_lt_of_eq (by decide : 19 < 24) (by kernel_rfl)) (by decide) _ (List.mem_singleton.2 rfl) _ (List.mem_singleton.2 rfl)
      have n18_20 := hdis 18 20 rfl rfl (Nat.lt_of_lt_of_eq (by decide : 18 < 24) (by kernel_rfl)) (Nat.lt_of_lt_of_eq (by decide : 20 < 24) (by kernel_rfl)) (by decide) _ (List.mem_singleton.2 rfl) _ (List.mem_singleton.2 rfl)
      have n19_20 := hdis 19 20 rfl rfl (Nat.lt_of_lt_of_eq (by decide : 19 < 24) (by kernel_rfl)) (Nat.lt_of_lt_of_eq (by decide : 20 < 24) (by kernel_rfl)) (by decide) _ (List.mem_singleton.2 rfl) _ (List.mem_singleton.2 rfl)
      clear hdis
      simp only [h0, h1, h2, h3, h4, h5, h6, h7, h8, h9, h10, h11, h12, h13, h14, h15, h16, h17, h18, h19, h20]
      clear h20 h19 h18 h17 h16 h15 h14 h13 h12 h11 h10 h9 h8 h7 h6 h5 h4 h3 h2 h1 h0
      replace b18 := b18 _ (List.mem_singleton.2 rfl)
      generalize hγ18 : (γ 18).n = g18 at *
      clear hγ18
      replace b19 := b19 _ (List.mem_singleton.2 rfl)
      generalize hγ19 : (γ 19).n = g19 at *
      clear hγ19
      replace b20 := b20 _ (List.mem_singleton.2 rfl)
      generalize hγ20 : (γ 20).n = g20 at *
      clear hγ20
      clear u
      simp only [List.map_cons, List.map_nil]
      apply PlanW.step
      · exact zG
      · rfl
      intro K hK
      refine wp_store_keep (X := [g18, g19, g20]) (w0 := wf) rfl rfl rfl (by with_reducible first | exact bx_refl _ _ | assumption) (by with_reducible first | assumption | (apply Blk.below (hb := hwf); assumption)) (by simp) (by kernel_rfl) (by rfl) (by simp [Value.oneCell']) (fun hres1 hcur => ?_)
      refine hK.out _ _ hcur (fun _ => ?_)
      clear hK K
      try simp only [Act.put, List.setIfInBounds_toArray, List.set_cons_zero, List.set_cons_succ]
      apply PlanW.step
      · exact zG
      · rfl
      intro K hK
      refine wp_store_keep (X := [g18, g19, g20]) (w0 := wf) rfl rfl rfl (by with_reducible first | exact bx_refl _ _ | assumption) (by with_reducible first | assumption | (apply Blk.below (hb := hwf); assumption)) (by simp) (by kernel_rfl) (by rfl) (by simp [Value.oneCell']) (fun hres2 hcur => ?_)
      refine hK.out _ _ hcur (fun _ => ?_)
      clear hK K
      try simp only [Act.put, List.setIfInBounds_toArray, List.set_cons_zero, List.set_cons_succ]
      apply PlanW.step
      · exact zG
      · rfl
      intro K hK
      refine wp_store_keep (X := [g18, g19, g20]) (w0 := wf) rfl rfl rfl (by with_reducible first | exact bx_refl _ _ | assumption) (by with_reducible first | assumption | (apply Blk.below (hb := hwf); assumption)) (by simp) (by kernel_rfl) (by rfl) (by simp [Value.oneCell']) (fun hres3 hcur => ?_)
      refine hK.out _ _ hcur (fun _ => ?_)
      clear hK K
      try simp only [Act.put, List.setIfInBounds_toArray, List.set_cons_zero, List.set_cons_succ]
      refine PlanW.done ?_
      have hb3 := bl_tt hwf
      clear c0 c1 c2 c3 c4 c5 c6 c7 c8
      clear cp0 cp1 cp2
      clear cq0 cq1 cq2
      apply absTB4 (w0 := wr) (g0 := w.heap.size) (g1 := g18) (g2 := g19) (g3 := g20)
      iterate 5 (focus exact zL)
      try clear hb3
      try clear Lk0
      try clear Fk0
      try clear Qk0
      try clear hb0
      try clear k0
      try clear k5
      try clear k6
      try clear k7
      intro wg hb0 k0 k5 k6 k7
      (try simp only [List.setIfInBounds_toArray, List.set_cons_zero, List.set_cons_succ] at k0 k5 k6 k7)
      have Lk0 := k0.later
      have Fk0 := k0.laterF
      have Qk0 := k0.lt
      have Lk5 := k5.later
      have Fk5 := k5.laterF
      have Qk5 := k5.lt
      have Lk6 := k6.later
      have Fk6 := k6.laterF
      have Qk6 := k6.lt
      have Lk7 := k7.later
      have Fk7 := k7.laterF
      have Qk7 := k7.lt
      go_upto_region 7 with fail
      have cq0 : ∀ W, Below _ _ W → W.cell? ⟨pb, po + (j + 1) * 3, none⟩ = some (.int .i64 q.x) := later (kcell (bl_tr hbw hb0) (hqc.out 0 _ rfl))
      have cq1 : ∀ W, Below _ _ W → W.cell? ⟨pb, po + (j + 1) * 3 + 1, none⟩ = some (.int .i64 q.y) := later (kcell (bl_tr hbw hb0) (hqc.out 1 _ rfl))
      have cq2 : ∀ W, Below _ _ W → W.cell? ⟨pb, po + (j + 1) * 3 + 2, none⟩ = some (.int .i64 q.z) := later (kcell (bl_tr hbw hb0) (hqc.out 2 _ rfl))
      refine wp_any (w0 := wg) ⟨[], [], [some 44, some 45, some 46, some 47, some 48, some 49, some 50, some 51, some 52], [[], [0], [], [], [3], [2, 3, 4], [2, 3, 4, 5], [0, 1, 2, 3, 4, 5, 6], [0, 1, 2, 3, 4, 5, 6, 7]], [[], [0], [], [], [3], [2, 4], [5], [1, 6], [7]]⟩ (fun _ => []) (by kernel_rfl) (by kernel_rfl) (by (exact zE)) (fun u => by simp only [putD, Act.put, List.setIfInBounds_toArray, List.set_cons_zero, List.set_cons_succ, Nat.zero_add, Nat.reduceAdd]; rfl) ?_
      apply RGW.on (i := 0) rfl
      · exact zG
      · intro γ u W hcur hd
        clear hd
        (try dsimp only)
        exact ⟨rfl, zS⟩
      · exact zC
      · rfl
      dsimp only [nA, cA]
      apply RGW.on (i := 1) rfl
      · exact zG
      · intro γ u W hcur hd
        obtain ⟨⟨h0, -, -⟩, -⟩ := hd
        dsimp only at h0
        (try simp only [h0])
        exact ⟨rfl, zS⟩
      · exact zC
      · rfl
      dsimp only [nA, cA]
      apply RGW.on (i := 2) rfl
      · exact zG
      · intro γ u W hcur hd
        clear hd
        (try dsimp only)
        exact ⟨rfl, zS⟩
      · exact zC
      · rfl
      dsimp only [nA, cA]
      apply RGW.on (i := 3) rfl
      · exact zG
      · intro γ u W hcur hd
        clear hd
        (try dsimp only)
        exact ⟨rfl, zS⟩
      · exact zC
      · rfl
      dsimp only [nA, cA]
      apply RGW.on (i := 4) rfl
      · exact zG
      · intro γ u W hcur hd
        obtain ⟨⟨h3, -, -⟩, -⟩ := hd
        dsimp only at h3
        (try simp only [h3])
        exact ⟨rfl, zS⟩
      · exact zC
      · rfl
      dsimp only [nA, cA]
      apply RGW.on (i := 5) rfl
      · exact zG
      · intro γ u W hcur hd
        obtain ⟨⟨h2, -, -⟩, ⟨h4, -, -⟩, -⟩ := hd
        dsimp only at h2 h4
        (try simp only [h2, h4])
        exact ⟨rfl, zS⟩
      · exact zC
      · rfl
      dsimp only [nA, cA]
      apply RGW.on (i := 6) rfl
      · exact zG
      · intro γ u W hcur hd
        obtain ⟨⟨h5, -, -⟩, -⟩ := hd
        dsimp only at h5
        (try simp only [h5])
        exact ⟨rfl, zS⟩
      · exact zC
      · rfl
      dsimp only [nA, cA]
      apply RGW.call (i := 7) rfl
      · exact zG
      · intro γ u W hcur hd
        obtain ⟨⟨h1, -, -⟩, ⟨h6, -, -⟩, -⟩ := hd
        dsimp only at h1 h6
        (try simp only [h1, h6])
        refine ⟨rfl, fun K hK => ?_⟩
        go_simp
        (go_at_call 31; (with_reducible refine (hcx.out _).mono ?_); rintro e w3 ⟨rfl, hb3⟩; replace hb3 := bl_tt hb3)
        (try dsimp only)
        exact hK.out _ _ rfl (by (exact zE))
      · exact zC
      · rfl
      dsimp only [nA, cA]
      apply RGW.on (i := 8) rfl
      · exact zG
      · intro γ u W hcur hd
        obtain ⟨⟨h7, -, -⟩, -⟩ := hd
        dsimp only at h7
        (try simp only [h7])
        exact ⟨rfl, zS⟩
      · exact zC
      · rfl
      dsimp only [nA, cA]
      refine RGW.fin (fun γ u wh hwh hd hdis => ?_)
      obtain ⟨⟨h0, -, -⟩, ⟨h1, -, -⟩, ⟨h2, -, -⟩, ⟨h3, -, -⟩, ⟨h4, -, -⟩, ⟨h5, -, -⟩, ⟨h6, -, -⟩, ⟨h7, -, -⟩, ⟨h8, -, -⟩, -⟩ := hd
      dsimp only at h0 h1 h2 h3 h4 h5 h6 h7 h8
      clear hdis
      simp only [h0, h1, h2, h3, h4, h5, h6, h7, h8]
      clear h8 h7 h6 h5 h4 h3 h2 h1 h0
      clear u
      simp only [List.map_nil]
      refine PlanW.done ?_
      have hb3 := bl_tt hwh
      clear cq0 cq1 cq2
      apply absTB4 (w0 := wr) (g0 := w.heap.size) (g1 := g18) (g2 := g19) (g3 := g20)
      iterate 5 (focus exact zL)
      try clear hb3
      try clear Lk0
      try clear Fk0
      try clear Qk0
      try clear Lk5
      try clear Fk5
      try clear Qk5
      try clear Lk6
      try clear Fk6
      try clear Qk6
      try clear Lk7
      try clear Fk7
      try clear Qk7
      try clear hb0
      try clear k0
      try clear k5
      try clear k6
      try clear k7
      intro wi hb0 k0 k5 k6 k7
      (try simp only [List.setIfInBounds_toArray, List.set_cons_zero, List.set_cons_succ] at k0 k5 k6 k7)
      have Lk0 := k0.later
      have Fk0 := k0.laterF
      have Qk0 := k0.lt
      have Lk5 := k5.later
      have Fk5 := k5.laterF
      have Qk5 := k5.lt
      have Lk6 := k6.later
      have Fk6 := k6.laterF
      have Qk6 := k6.lt
      have Lk7 := k7.later
      have Fk7 := k7.laterF
      have Qk7 := k7.lt
      cases HW
      · go_wp2
        go_ret
        exact ⟨by rw [hIB.out, hstp.out, hsb.out, hHW.out] <;> rfl, bl_tr hbw hb0⟩
      obtain ⟨⟨q1, q2⟩, ⟨q3, q4⟩, q5, q6⟩ := hqi.out hHW.out
      replace hag := Lib.hid (hag.out hHW.out)
      go_wp2
      apply absB4 (w0 := wr) (g0 := w.heap.size) (g1 := g18) (g2 := g19) (g3 := g20)
      iterate 5 (focus exact zL)
      try clear hb3
      try clear Lk0
      try clear Fk0
      try clear Qk0
      try clear Lk5
      try clear Fk5
      try clear Qk5
      try clear Lk6
      try clear Fk6
      try clear Qk6
      try clear Lk7
      try clear Fk7
      try clear Qk7
      try clear hb0
      try clear k0
      try clear k5
      try clear k6
      try clear k7
      intro x0 hb0 k0 k5 k6 k7
      (try simp only [List.setIfInBounds_toArray, List.set_cons_zero, List.set_cons_succ] at k0 k5 k6 k7)
      have Lk0 := k0.later
      have Fk0 := k0.laterF
      have Qk0 := k0.lt
      have Lk5 := k5.later
      have Fk5 := k5.laterF
      have Qk5 := k5.lt
      have Lk6 := k6.later
      have Fk6 := k6.laterF
      have Qk6 := k6.lt
      have Lk7 := k7.later
      have Fk7 := k7.laterF
      have Qk7 := k7.lt
      refine wp_loop_rounds 4 ?_
      rw [rounds_succ]
      go_wp2
      have c0 : ∀ W, Below _ _ W → W.cell? ⟨bb, off + j * 9, none⟩ = some (.int .i64 x.s.mv.ticks) := later (kcell (bl_tr hbw hb0) (hc.out 0 _ rfl))
      have c1 : ∀ W, Below _ _ W → W.cell? ⟨bb, off + j * 9 + 1, none⟩ = some (.int .i64 x.s.mv.speed.x.lo) := later (kcell (bl_tr hbw hb0) (hc.out 1 _ rfl))
      have c2 : ∀ W, Below _ _ W → W.cell? ⟨bb, off + j * 9 + 2, none⟩ = some (.int .i64 x.s.mv.speed.x.hi) := later (kcell (bl_tr hbw hb0) (hc.out 2 _ rfl))
      have c3 : ∀ W, Below _ _ W → W.cell? ⟨bb, off + j * 9 + 3, none⟩ = some (.int .i64 x.s.mv.speed.y.lo) := later (kcell (bl_tr hbw hb0) (hc.out 3 _ rfl))
      have c4 : ∀ W, Below _ _ W → W.cell? ⟨bb, off + j * 9 + 4, none⟩ = some (.int .i64 x.s.mv.speed.y.hi) := later (kcell (bl_tr hbw hb0) (hc.out 4 _ rfl))
      have c5 : ∀ W, Below _ _ W → W.cell? ⟨bb, off + j * 9 + 5, none⟩ = some (.int .i64 x.s.mv.speed.z.lo) := later (kcell (bl_tr hbw hb0) (hc.out 5 _ rfl))
      have c6 : ∀ W, Below _ _ W → W.cell? ⟨bb, off + j * 9 + 6, none⟩ = some (.int .i64 x.s.mv.speed.z.hi) := later (kcell (bl_tr hbw hb0) (hc.out 6 _ rfl))
      have c7 : ∀ W, Below _ _ W → W.cell? ⟨bb, off + j * 9 + 7, none⟩ = some (.slice x.A x.s.vt.rs.length x.c) := later (kcell (bl_tr hbw hb0) (hc.out 7 _ rfl))
      have c8 : ∀ W, Below _ _ W → W.cell? ⟨bb, off + j * 9 + 8, none⟩ = some (.int .i64 x.s.vt.wrong) := later (kcell (bl_tr hbw hb0) (hc.out 8 _ rfl))
      refine wp_any (w0 := x0) ⟨[], [], [some 57, some 58, some 59, some 60, some 61, some 62, some 63, some 64, some 65, some 66, some 67, some 68, some 69, some 70, some 71, some 72, some 73, some 74, some 75, some 76, some 77, some 78, some 79, some 80, some 81, some 82, some 83, some 84, some 85, some 86, some 87], [[], [0], [0, 1], [], [3], [3, 4], [0, 1, 2, 3, 4, 5], [], [], [7, 8], [7, 8, 9], [7, 8, 9, 10], [7, 8, 9, 10, 11], [], [13], [13, 14], [13, 14, 15], [7, 8, 9, 10, 11, 12, 13, 14, 15, 16], [], [], [18, 19], [18, 19, 20], [18, 19, 20, 21], [18, 19, 20, 21, 22], [], [24], [24, 25], [24, 25, 26], [18, 19, 20, 21, 22, 23, 24, 25, 26, 27], [0, 1, 2, 3, 4, 5, 6, 7, 8, 9, 10, 11, 12, 13, 14, 15, 16, 17, 18, 19, 20, 21, 22, 23, 24, 25, 26, 27, 28], [0, 1, 2, 3, 4, 5, 6, 7, 8, 9, 10, 11, 12, 13, 14, 15, 16, 17, 18, 19, 20, 21, 22, 23, 24, 25, 26, 27, 28, 29]], [[], [0], [1], [], [3], [4], [2, 5], [], [], [7, 8], [9], [10], [11], [], [13], [14], [15], [12, 16], [], [], [18, 19], [20], [21], [22], [], [24], [25], [26], [23, 27], [6, 17, 28], [29]]⟩ (fun _ => []) (by kernel_rfl) (by kernel_rfl) (by (exact zE)) (fun u => by simp only [putD, Act.put, List.setIfInBounds_toArray, List.set_cons_zero, List.set_cons_succ, Nat.zero_add, Nat.reduceAdd]; rfl) ?_
      apply RGW.on (i := 0) rfl
      · exact zG
      · intro γ u W hcur hd
        clear hd
        (try dsimp only)
        exact ⟨rfl, zS⟩
      · exact zC
      · rfl
      dsimp only [nA, cA]
      apply RGW.on (i := 1) rfl
      · exact zG
      · intro γ u W hcur hd
        obtain ⟨⟨h0, -, -⟩, -⟩ := hd
        dsimp only at h0
        (try simp only [h0])
        exact ⟨rfl, zS⟩
      · exact zC
      · rfl
      dsimp only [nA, cA]
      apply RGW.on (i := 2) rfl
      · exact zG
      · intro γ u W hcur hd
        obtain ⟨⟨h1, -, -⟩, -⟩ := hd
        dsimp only at h1
        (try simp only [h1])
        exact ⟨rfl, zS⟩
      · exact zC
      · rfl
      dsimp only [nA, cA]
      apply RGW.on (i := 3) rfl
      · exact zG
      · intro γ u W hcur hd
        clear hd
        (try dsimp only)
        exact ⟨rfl, zS⟩
      · exact zC
      · rfl
      dsimp only [nA, cA]
      apply RGW.on (i := 4) rfl
      · exact zG
      · intro γ u W hcur hd
        obtain ⟨⟨h3, -, -⟩, -⟩ := hd
        dsimp only at h3
        (try simp only [h3])
        exact ⟨rfl, zS⟩
      · exact zC
      · rfl
      dsimp only [nA, cA]
      apply RGW.on (i := 5) rfl
      · exact zG
      · intro γ u W hcur hd
        obtain ⟨⟨h4, -, -⟩, -⟩ := hd
        dsimp only at h4
        (try simp only [h4])
        exact ⟨rfl, zS⟩
      · exact zC
      · rfl
      dsimp only [nA, cA]
      apply RGW.on (i := 6) rfl
      · exact zG
      · intro γ u W hcur hd
        obtain ⟨⟨h2, -, -⟩, ⟨h5, -, -⟩, -⟩ := hd
        dsimp only at h2 h5
        (try simp only [h2, h5])
        exact ⟨rfl, zS⟩
      · exact zC
      · rfl
      dsimp only [nA, cA]
      apply RGW.on (i := 7) rfl
      · exact zG
      · intro γ u W hcur hd
        clear hd
        (try dsimp only)
        exact ⟨rfl, zS⟩
      · exact zC
      · rfl
      dsimp only [nA, cA]
      apply RGW.on (i := 8) rfl
      · exact zG
      · intro γ u W hcur hd
        clear hd
        (try dsimp only)
        exact ⟨rfl, zS⟩
      · exact zC
      · rfl
      dsimp only [nA, cA]
      apply RGW.on (i := 9) rfl
      · exact zG
      · intro γ u W hcur hd
        obtain ⟨⟨h7, -, -⟩, ⟨h8, -, -⟩, -⟩ := hd
        dsimp only at h7 h8
        (try simp only [h7, h8])
        exact ⟨rfl, zS⟩
      · exact zC
      · rfl
      dsimp only [nA, cA]
      apply RGW.on (i := 10) rfl
      · exact zG
      · intro γ u W hcur hd
        obtain ⟨⟨h9, -, -⟩, -⟩ := hd
        dsimp only at h9
        (try simp only [h9])
        exact ⟨rfl, zS⟩
      · exact zC
      · rfl
      dsimp only [nA, cA]
      apply RGW.on (i := 11) rfl
      · exact zG
      · intro γ u W hcur hd
        obtain ⟨⟨h10, -, -⟩, -⟩ := hd
        dsimp only at h10
        (try simp only [h10])
        exact ⟨rfl, zS⟩
      · exact zC
      · rfl
      dsimp only [nA, cA]
      apply RGW.on (i := 12) rfl
      · exact zG
      · intro γ u W hcur hd
        obtain ⟨⟨h11, -, -⟩, -⟩ := hd
        dsimp only at h11
        (try simp only [h11])
        exact ⟨rfl, zS⟩
      · exact zC
      · rfl
      dsimp only [nA, cA]
      apply RGW.on (i := 13) rfl
      · exact zG
      · intro γ u W hcur hd
        clear hd
        (try dsimp only)
        exact ⟨rfl, zS⟩
      · exact zC
      · rfl
      dsimp only [nA, cA]
      apply RGW.on (i := 14) rfl
      · exact zG
      · intro γ u W hcur hd
        obtain ⟨⟨h13, -, -⟩, -⟩ := hd
        dsimp only at h13
        (try simp only [h13])
        exact ⟨rfl, zS⟩
      · exact zC
      · rfl
      dsimp only [nA, cA]
      apply RGW.on (i := 15) rfl
      · exact zG
      · intro γ u W hcur hd
        obtain ⟨⟨h14, -, -⟩, -⟩ := hd
        dsimp only at h14
        (try simp only [h14])
        exact ⟨rfl, zS⟩
      · exact zC
      · rfl
      dsimp only [nA, cA]
      apply RGW.on (i := 16) rfl
      · exact zG
      · intro γ u W hcur hd
        obtain ⟨⟨h15, -, -⟩, -⟩ := hd
        dsimp only at h15
        (try simp only [h15])
        exact ⟨rfl, zS⟩
      · exact zC
      · rfl
      dsimp only [nA, cA]
      apply RGW.on (i := 17) rfl
      · exact zG
      · intro γ u W hcur hd
        obtain ⟨⟨h12, -, -⟩, ⟨h16, -, -⟩, -⟩ := hd
        dsimp only at h12 h16
        (try simp only [h12, h16])
        exact ⟨rfl, zS⟩
      · exact zC
      · rfl
      dsimp only [nA, cA]
      apply RGW.on (i := 18) rfl
      · exact zG
      · intro γ u W hcur hd
        clear hd
        (try dsimp only)
        exact ⟨rfl, zS⟩
      · exact zC
      · rfl
      dsimp only [nA, cA]
      apply RGW.on (i := 19) rfl
      · exact zG
      · intro γ u W hcur hd
        clear hd
        (try dsimp only)
        exact ⟨rfl, zS⟩
      · exact zC
      · rfl
      dsimp only [nA, cA]
      apply RGW.on (i := 20) rfl
      · exact zG
      · intro γ u W hcur hd
        obtain ⟨⟨h18, -, -⟩, ⟨h19, -, -⟩, -⟩ := hd
        dsimp only at h18 h19
        (try simp only [h18, h19])
        exact ⟨rfl, zS⟩
      · exact zC
      · rfl
      dsimp only [nA, cA]
      apply RGW.on (i := 21) rfl
      · exact zG
      · intro γ u W hcur hd
        obtain ⟨⟨h20, -, -⟩, -⟩ := hd
        dsimp only at h20
        (try simp only [h20])
        exact ⟨rfl, zS⟩
      · exact zC
      · rfl
      dsimp only [nA, cA]
      apply RGW.on (i := 22) rfl
      · exact zG
      · intro γ u W hcur hd
        obtain ⟨⟨h21, -, -⟩, -⟩ := hd
        dsimp only at h21
        (try simp only [h21])
        exact ⟨rfl, zS⟩
      · exact zC
      · rfl
      dsimp only [nA, cA]
      apply RGW.on (i := 23) rfl
      · exact zG
      · intro γ u W hcur hd
        obtain ⟨⟨h22, -, -⟩, -⟩ := hd
        dsimp only at h22
        (try simp only [h22])
        exact ⟨rfl, zS⟩
      · exact zC
      · rfl
      dsimp only [nA, cA]
      apply RGW.on (i := 24) rfl
      · exact zG
      · intro γ u W hcur hd
        clear hd
        (try dsimp only)
        exact ⟨rfl, zS⟩
      · exact zC
      · rfl
      dsimp only [nA, cA]
      apply RGW.on (i := 25) rfl
      · exact zG
      · intro γ u W hcur hd
        obtain ⟨⟨h24, -, -⟩, -⟩ := hd
        dsimp only at h24
        (try simp only [h24])
        exact ⟨rfl, zS⟩
      · exact zC
      · rfl
      dsimp only [nA, cA]
      apply RGW.on (i := 26) rfl
      · exact zG
      · intro γ u W hcur hd
        obtain ⟨⟨h25, -, -⟩, -⟩ := hd
        dsimp only at h25
        (try simp only [h25])
        exact ⟨rfl, zS⟩
      · exact zC
      · rfl
      dsimp only [nA, cA]
      apply RGW.on (i := 27) rfl
      · exact zG
      · intro γ u W hcur hd
        obtain ⟨⟨h26, -, -⟩, -⟩ := hd
        dsimp only at h26
        (try simp only [h26])
        exact ⟨rfl, zS⟩
      · exact zC
      · rfl
      dsimp only [nA, cA]
      apply RGW.on (i := 28) rfl
      · exact zG
      · intro γ u W hcur hd
        obtain ⟨⟨h23, -, -⟩, ⟨h27, -, -⟩, -⟩ := hd
        dsimp only at h23 h27
        (try simp only [h23, h27])
        exact ⟨rfl, zS⟩
      · exact zC
      · rfl
      dsimp only [nA, cA]
      apply RGW.call (i := 29) rfl
      · exact zG
      · intro γ u W hcur hd
        obtain ⟨⟨h6, -, -⟩, ⟨h17, -, -⟩, ⟨h28, -, -⟩, -⟩ := hd
        dsimp only at h6 h17 h28
        (try simp only [h6, h17, h28])
        refine ⟨rfl, fun K hK => ?_⟩
        go_simp
        (go_at_call 78; (with_reducible refine (hcx1.out _).mono ?_); rintro e w3 ⟨rfl, rfl⟩)
        (try dsimp only)
        exact hK.out _ _ rfl (by (exact zE))
      · exact zC
      · rfl
      dsimp only [nA, cA]
      apply RGW.on (i := 30) rfl
      · exact zG
      · intro γ u W hcur hd
        obtain ⟨⟨h29, -, -⟩, -⟩ := hd
        dsimp only at h29
        (try simp only [h29])
        exact ⟨rfl, zS⟩
      · exact zC
      · rfl
      dsimp only [nA, cA]
      refine RGW.fin (fun γ u z1 hz1 hd hdis => ?_)
      obtain ⟨⟨h0, -, -⟩, ⟨h1, -, -⟩, ⟨h2, -, -⟩, ⟨h3, -, -⟩, ⟨h4, -, -⟩, ⟨h5, -, -⟩, ⟨h6, -, -⟩, ⟨h7, -, -⟩, ⟨h8, -, -⟩, ⟨h9, -, -⟩, ⟨h10, -, -⟩, ⟨h11, -, -⟩, ⟨h12, -, -⟩, ⟨h13, -, -⟩, ⟨h14, -, -⟩, ⟨h15, -, -⟩, ⟨h16, -, -⟩, ⟨h17, -, -⟩, ⟨h18, -, -⟩, ⟨h19, -, -⟩, ⟨h20, -, -⟩, ⟨h21, -, -⟩, ⟨h22, -, -⟩, ⟨h23, -, -⟩, ⟨h24, -, -⟩, ⟨h25, -, -⟩, ⟨h26, -, -⟩, ⟨h27, -, -⟩, ⟨h28, -, -⟩, ⟨h29, -, -⟩, ⟨h30, -, -⟩, -⟩ := hd
      dsimp only at h0 h1 h2 h3 h4 h5 h6 h7 h8 h9 h10 h11 h12 h13 h14 h15 h16 h17 h18 h19 h20 h21 h22 h23 h24 h25 h26 h27 h28 h29 h30
      clear hdis
      simp only [h0, h1, h2, h3, h4, h5, h6, h7, h8, h9, h10, h11, h12, h13, h14, h15, h16, h17, h18, h19, h20, h21, h22, h23, h24, h25, h26, h27, h28, h29, h30]
      clear h30 h29 h28 h27 h26 h25 h24 h23 h22 h21 h20 h19 h18 h17 h16 h15 h14 h13 h12 h11 h10 h9 h8 h7 h6 h5 h4 h3 h2 h1 h0
      clear u
      simp only [List.map_nil]
      refine PlanW.done ?_
      have hb3 := bl_tt hz1
      clear c0 c1 c2 c3 c4 c5 c6 c7 c8
      apply absTB4 (w0 := wr) (g0 := w.heap.size) (g1 := g18) (g2 := g19) (g3 := g20)
      iterate 5 (focus exact zL)
      try clear hb3
      try clear Lk0
      try clear Fk0
      try clear Qk0
      try clear Lk5
      try clear Fk5
      try clear Qk5
      try clear Lk6
      try clear Fk6
      try clear Qk6
      try clear Lk7
      try clear Fk7
      try clear Qk7
      try clear hb0
      try clear k0
      try clear k5
      try clear k6
      try clear k7
      intro t1 hb0 k0 k5 k6 k7
      (try simp only [List.setIfInBounds_toArray, List.set_cons_zero, List.set_cons_succ] at k0 k5 k6 k7)
      have Lk0 := k0.later
      have Fk0 := k0.laterF
      have Qk0 := k0.lt
      have Lk5 := k5.later
      have Fk5 := k5.laterF
      have Qk5 := k5.lt
      have Lk6 := k6.later
      have Fk6 := k6.laterF
      have Qk6 := k6.lt
      have Lk7 := k7.later
      have Fk7 := k7.laterF
      have Qk7 := k7.lt
      cases B1
      case false =>
        go_wp2
        go_ret
        exact ⟨by rw [hIB.out, hstp.out, hsb.out, hHW.out, hw3.out]; simp, bl_tr hbw hb0⟩
      go_wp2
      apply absRB4 (w0 := wr) (g0 := w.heap.size) (g1 := g18) (g2 := g19) (g3 := g20)
      iterate 5 (focus exact zL)
      try clear hb3
      try clear Lk0
      try clear Fk0
      try clear Qk0
      try clear Lk5
      try clear Fk5
      try clear Qk5
      try clear Lk6
      try clear Fk6
      try clear Qk6
      try clear Lk7
      try clear Fk7
      try clear Qk7
      try clear hb0
      try clear k0
      try clear k5
      try clear k6
      try clear k7
      intro x1 hb0 k0 k5 k6 k7
      (try simp only [List.setIfInBounds_toArray, List.set_cons_zero, List.set_cons_succ] at k0 k5 k6 k7)
      have Lk0 := k0.later
      have Fk0 := k0.laterF
      have Qk0 := k0.lt
      have Lk5 := k5.later
      have Fk5 := k5.laterF
      have Qk5 := k5.lt
      have Lk6 := k6.later
      have Fk6 := k6.laterF
      have Qk6 := k6.lt
      have Lk7 := k7.later
      have Fk7 := k7.laterF
      have Qk7 := k7.lt
      rw [rounds_succ]
      go_wp2
      have c0 : ∀ W, Below _ _ W → W.cell? ⟨bb, off + j * 9, none⟩ = some (.int .i64 x.s.mv.ticks) := later (kcell (bl_tr hbw hb0) (hc.out 0 _ rfl))
      have c1 : ∀ W, Below _ _ W → W.cell? ⟨bb, off + j * 9 + 1, none⟩ = some (.int .i64 x.s.mv.speed.x.lo) := later (kcell (bl_tr hbw hb0) (hc.out 1 _ rfl))
      have c2 : ∀ W, Below _ _ W → W.cell? ⟨bb, off + j * 9 + 2, none⟩ = some (.int .i64 x.s.mv.speed.x.hi) := later (kcell (bl_tr hbw hb0) (hc.out 2 _ rfl))
      have c3 : ∀ W, Below _ _ W → W.cell? ⟨bb, off + j * 9 + 3, none⟩ = some (.int .i64 x.s.mv.speed.y.lo) := later (kcell (bl_tr hbw hb0) (hc.out 3 _ rfl))
      have c4 : ∀ W, Below _ _ W → W.cell? ⟨bb, off + j * 9 + 4, none⟩ = some (.int .i64 x.s.mv.speed.y.hi) := later (kcell (bl_tr hbw hb0) (hc.out 4 _ rfl))
      have c5 : ∀ W, Below _ _ W → W.cell? ⟨bb, off + j * 9 + 5, none⟩ = some (.int .i64 x.s.mv.speed.z.lo) := later (kcell (bl_tr hbw hb0) (hc.out 5 _ rfl))
      have c6 : ∀ W, Below _ _ W → W.cell? ⟨bb, off + j * 9 + 6, none⟩ = some (.int .i64 x.s.mv.speed.z.hi) := later (kcell (bl_tr hbw hb0) (hc.out 6 _ rfl))
      have c7 : ∀ W, Below _ _ W → W.cell? ⟨bb, off + j * 9 + 7, none⟩ = some (.slice x.A x.s.vt.rs.length x.c) := later (kcell (bl_tr hbw hb0) (hc.out 7 _ rfl))
      have c8 : ∀ W, Below _ _ W → W.cell? ⟨bb, off + j * 9 + 8, none⟩ = some (.int .i64 x.s.vt.wrong) := later (kcell (bl_tr hbw hb0) (hc.out 8 _ rfl))
      refine wp_any (w0 := x1) ⟨[], [], [some 57, some 58, some 59, some 60, some 61, some 62, some 63, some 64, some 65, some 66, some 67, some 68, some 69, some 70, some 71, some 72, some 73, some 74, some 75, some 76, some 77, some 78, some 79, some 80, some 81, some 82, some 83, some 84, some 85, some 86, some 87], [[], [0], [0, 1], [], [3], [3, 4], [0, 1, 2, 3, 4, 5], [], [], [7, 8], [7, 8, 9], [7, 8, 9, 10], [7, 8, 9, 10, 11], [], [13], [13, 14], [13, 14, 15], [7, 8, 9, 10, 11, 12, 13, 14, 15, 16], [], [], [18, 19], [18, 19, 20], [18, 19, 20, 21], [18, 19, 20, 21, 22], [], [24], [24, 25], [24, 25, 26], [18, 19, 20, 21, 22, 23, 24, 25, 26, 27], [0, 1, 2, 3, 4, 5, 6, 7, 8, 9, 10, 11, 12, 13, 14, 15, 16, 17, 18, 19, 20, 21, 22, 23, 24, 25, 26, 27, 28], [0, 1, 2, 3, 4, 5, 6, 7, 8, 9, 10, 11, 12, 13, 14, 15, 16, 17, 18, 19, 20, 21, 22, 23, 24, 25, 26, 27, 28, 29]], [[], [0], [1], [], [3], [4], [2, 5], [], [], [7, 8], [9], [10], [11], [], [13], [14], [15], [12, 16], [], [], [18, 19], [20], [21], [22], [], [24], [25], [26], [23, 27], [6, 17, 28], [29]]⟩ (fun _ => []) (by kernel_rfl) (by kernel_rfl) (by (exact zE)) (fun u => by simp only [putD, Act.put, List.setIfInBounds_toArray, List.set_cons_zero, List.set_cons_succ, Nat.zero_add, Nat.reduceAdd]; rfl) ?_
      apply RGW.on (i := 0) rfl
      · exact zG
      · intro γ u W hcur hd
        clear hd
        (try dsimp only)
        exact ⟨rfl, zS⟩
      · exact zC
      · rfl
      dsimp only [nA, cA]
      apply RGW.on (i := 1) rfl
      · exact zG
      · intro γ u W hcur hd
        obtain ⟨⟨h0, -, -⟩, -⟩ := hd
        dsimp only at h0
        (try simp only [h0])
        exact ⟨rfl, zS⟩
      · exact zC
      · rfl
      dsimp only [nA, cA]
      apply RGW.on (i := 2) rfl
      · exact zG
      · intro γ u W hcur hd
        obtain ⟨⟨h1, -, -⟩, -⟩ := hd
        dsimp only at h1
        (try simp only [h1])
        exact ⟨rfl, zS⟩
      · exact zC
      · rfl
      dsimp only [nA, cA]
      apply RGW.on (i := 3) rfl
      · exact zG
      · intro γ u W hcur hd
        clear hd
        (try dsimp only)
        exact ⟨rfl, zS⟩
      · exact zC
      · rfl
      dsimp only [nA, cA]
      apply RGW.on (i := 4) rfl
      · exact zG
      · intro γ u W hcur hd
        obtain ⟨⟨h3, -, -⟩, -⟩ := hd
        dsimp only at h3
        (try simp only [h3])
        exact ⟨rfl, zS⟩
      · exact zC
      · rfl
      dsimp only [nA, cA]
      apply RGW.on (i := 5) rfl
      · exact zG
      · intro γ u W hcur hd
        obtain ⟨⟨h4, -, -⟩, -⟩ := hd
        dsimp only at h4
        (try simp only [h4])
        exact ⟨rfl, zS⟩
      · exact zC
      · rfl
      dsimp only [nA, cA]
      apply RGW.on (i := 6) rfl
      · exact zG
      · intro γ u W hcur hd
        obtain ⟨⟨h2, -, -⟩, ⟨h5, -, -⟩, -⟩ := hd
        dsimp only at h2 h5
        (try simp only [h2, h5])
        exact ⟨rfl, zS⟩
      · exact zC
      · rfl
      dsimp only [nA, cA]
      apply RGW.on (i := 7) rfl
      · exact zG
      · intro γ u W hcur hd
        clear hd
        (try dsimp only)
        exact ⟨rfl, zS⟩
      · exact zC
      · rfl
      dsimp only [nA, cA]
      apply RGW.on (i := 8) rfl
      · exact zG
      · intro γ u W hcur hd
        clear hd
        (try dsimp only)
        exact ⟨rfl, zS⟩
      · exact zC
      · rfl
      dsimp only [nA, cA]
      apply RGW.on (i := 9) rfl
      · exact zG
      · intro γ u W hcur hd
        obtain ⟨⟨h7, -, -⟩, ⟨h8, -, -⟩, -⟩ := hd
        dsimp only at h7 h8
        (try simp only [h7, h8])
        exact ⟨rfl, zS⟩
      · exact zC
      · rfl
      dsimp only [nA, cA]
      apply RGW.on (i := 10) rfl
      · exact zG
      · intro γ u W hcur hd
        obtain ⟨⟨h9, -, -⟩, -⟩ := hd
        dsimp only at h9
        (try simp only [h9])
        exact ⟨rfl, zS⟩
      · exact zC
      · rfl
      dsimp only [nA, cA]
      apply RGW.on (i := 11) rfl
      · exact zG
      · intro γ u W hcur hd
        obtain ⟨⟨h10, -, -⟩, -⟩ := hd
        dsimp only at h10
        (try simp only [h10])
        exact ⟨rfl, zS⟩
      · exact zC
      · rfl
      dsimp only [nA, cA]
      apply RGW.on (i := 12) rfl
      · exact zG
      · intro γ u W hcur hd
        obtain ⟨⟨h11, -, -⟩, -⟩ := hd
        dsimp only at h11
        (try simp only [h11])
        exact ⟨rfl, zS⟩
      · exact zC
      · rfl
      dsimp only [nA, cA]
      apply RGW.on (i := 13) rfl
      · exact zG
      · intro γ u W hcur hd
        clear hd
        (try dsimp only)
        exact ⟨rfl, zS⟩
      · exact zC
      · rfl
      dsimp only [nA, cA]
      apply RGW.on (i := 14) rfl
      · exact zG
      · intro γ u W hcur hd
        obtain ⟨⟨h13, -, -⟩, -⟩ := hd
        dsimp only at h13
        (try simp only [h13])
        exact ⟨rfl, zS⟩
      · exact zC
      · rfl
      dsimp only [nA, cA]
      apply RGW.on (i := 15) rfl
      · exact zG
      · intro γ u W hcur hd
        obtain ⟨⟨h14, -, -⟩, -⟩ := hd
        dsimp only at h14
        (try simp only [h14])
        exact ⟨rfl, zS⟩
      · exact zC
      · rfl
      dsimp only [nA, cA]
      apply RGW.on (i := 16) rfl
      · exact zG
      · intro γ u W hcur hd
        obtain ⟨⟨h15, -, -⟩, -⟩ := hd
        dsimp only at h15
        (try simp only [h15])
        exact ⟨rfl, zS⟩
      · exact zC
      · rfl
      dsimp only [nA, cA]
      apply RGW.on (i := 17) rfl
      · exact zG
      · intro γ u W hcur hd
        obtain ⟨⟨h12, -, -⟩, ⟨h16, -, -⟩, -⟩ := hd
        dsimp only at h12 h16
        (try simp only [h12, h16])
        exact ⟨rfl, zS⟩
      · exact zC
      · rfl
      dsimp only [nA, cA]
      apply RGW.on (i := 18) rfl
      · exact zG
      · intro γ u W hcur hd
        clear hd
        (try dsimp only)
        exact ⟨rfl, zS⟩
      · exact zC
      · rfl
      dsimp only [nA, cA]
      apply RGW.on (i := 19) rfl
      · exact zG
      · intro γ u W hcur hd
        clear hd
        (try dsimp only)
        exact ⟨rfl, zS⟩
      · exact zC
      · rfl
      dsimp only [nA, cA]
      apply RGW.on (i := 20) rfl
      · exact zG
      · intro γ u W hcur hd
        obtain ⟨⟨h18, -, -⟩, ⟨h19, -, -⟩, -⟩ := hd
        dsimp only at h18 h19
        (try simp only [h18, h19])
        exact ⟨rfl, zS⟩
      · exact zC
      · rfl
      dsimp only [nA, cA]
      apply RGW.on (i := 21) rfl
      · exact zG
      · intro γ u W hcur hd
        obtain ⟨⟨h20, -, -⟩, -⟩ := hd
        dsimp only at h20
        (try simp only [h20])
        exact ⟨rfl, zS⟩
      · exact zC
      · rfl
      dsimp only [nA, cA]
      apply RGW.on (i := 22) rfl
      · exact zG
      · intro γ u W hcur hd
        obtain ⟨⟨h21, -, -⟩, -⟩ := hd
        dsimp only at h21
        (try simp only [h21])
        exact ⟨rfl, zS⟩
      · exact zC
      · rfl
      dsimp only [nA, cA]
      apply RGW.on (i := 23) rfl
      · exact zG
      · intro γ u W hcur hd
        obtain ⟨⟨h22, -, -⟩, -⟩ := hd
        dsimp only at h22
        (try simp only [h22])
        exact ⟨rfl, zS⟩
      · exact zC
      · rfl
      dsimp only [nA, cA]
      apply RGW.on (i := 24) rfl
      · exact zG
      · intro γ u W hcur hd
        clear hd
        (try dsimp only)
        exact ⟨rfl, zS⟩
      · exact zC
      · rfl
      dsimp only [nA, cA]
      apply RGW.on (i := 25) rfl
      · exact zG
      · intro γ u W hcur hd
        obtain ⟨⟨h24, -, -⟩, -⟩ := hd
        dsimp only at h24
        (try simp only [h24])
        exact ⟨rfl, zS⟩
      · exact zC
      · rfl
      dsimp only [nA, cA]
      apply RGW.on (i := 26) rfl
      · exact zG
      · intro γ u W hcur hd
        obtain ⟨⟨h25, -, -⟩, -⟩ := hd
        dsimp only at h25
        (try simp only [h25])
        exact ⟨rfl, zS⟩
      · exact zC
      · rfl
      dsimp only [nA, cA]
      apply RGW.on (i := 27) rfl
      · exact zG
      · intro γ u W hcur hd
        obtain ⟨⟨h26, -, -⟩, -⟩ := hd
        dsimp only at h26
        (try simp only [h26])
        exact ⟨rfl, zS⟩
      · exact zC
      · rfl
      dsimp only [nA, cA]
      apply RGW.on (i := 28) rfl
      · exact zG
      · intro γ u W hcur hd
        obtain ⟨⟨h23, -, -⟩, ⟨h27, -, -⟩, -⟩ := hd
        dsimp only at h23 h27
        (try simp only [h23, h27])
        exact ⟨rfl, zS⟩
      · exact zC
      · rfl
      dsimp only [nA, cA]
      apply RGW.call (i := 29) rfl
      · exact zG
      · intro γ u W hcur hd
        obtain ⟨⟨h6, -, -⟩, ⟨h17, -, -⟩, ⟨h28, -, -⟩, -⟩ := hd
        dsimp only at h6 h17 h28
        (try simp only [h6, h17, h28])
        refine ⟨rfl, fun K hK => ?_⟩
        go_simp
        (go_at_call 78; (with_reducible refine (hcx2.out _).mono ?_); rintro e w3 ⟨rfl, rfl⟩)
        (try dsimp only)
        exact hK.out _ _ rfl (by (exact zE))
      · exact zC
      · rfl
      dsimp only [nA, cA]
      apply RGW.on (i := 30) rfl
      · exact zG
      · intro γ u W hcur hd
        obtain ⟨⟨h29, -, -⟩, -⟩ := hd
        dsimp only at h29
        (try simp only [h29])
        exact ⟨rfl, zS⟩
      · exact zC
      · rfl
      dsimp only [nA, cA]
      refine RGW.fin (fun γ u z2 hz2 hd hdis => ?_)
      obtain ⟨⟨h0, -, -⟩, ⟨h1, -, -⟩, ⟨h2, -, -⟩, ⟨h3, -, -⟩, ⟨h4, -, -⟩, ⟨h5, -, -⟩, ⟨h6, -, -⟩, ⟨h7, -, -⟩, ⟨h8, -, -⟩, ⟨h9, -, -⟩, ⟨h10, -, -⟩, ⟨h11, -, -⟩, ⟨h12, -, -⟩, ⟨h13, -, -⟩, ⟨h14, -, -⟩, ⟨h15, -, -⟩, ⟨h16, -, -⟩, ⟨h17, -, -⟩, ⟨h18, -, -⟩, ⟨h19, -, -⟩, ⟨h20, -, -⟩, ⟨h21, -, -⟩, ⟨h22, -, -⟩, ⟨h23, -, -⟩, ⟨h24, -, -⟩, ⟨h25, -, -⟩, ⟨h26, -, -⟩, ⟨h27, -, -⟩, ⟨h28, -, -⟩, ⟨h29, -, -⟩, ⟨h30, -, -⟩, -⟩ := hd
      dsimp only at h0 h1 h2 h3 h4 h5 h6 h7 h8 h9 h10 h11 h12 h13 h14 h15 h16 h17 h18 h19 h20 h21 h22 h23 h24 h25 h26 h27 h28 h29 h30
      clear hdis
      simp only [h0, h1, h2, h3, h4, h5, h6, h7, h8, h9, h10, h11, h12, h13, h14, h15, h16, h17, h18, h19, h20, h21, h22, h23, h24, h25, h26, h27, h28, h29, h30]
      clear h30 h29 h28 h27 h26 h25 h24 h23 h22 h21 h20 h19 h18 h17 h16 h15 h14 h13 h12 h11 h10 h9 h8 h7 h6 h5 h4 h3 h2 h1 h0
      clear u
      simp only [List.map_nil]
      refine PlanW.done ?_
      have hb3 := bl_tt hz2
      clear c0 c1 c2 c3 c4 c5 c6 c7 c8
      apply absTB4 (w0 := wr) (g0 := w.heap.size) (g1 := g18) (g2 := g19) (g3 := g20)
      iterate 5 (focus exact zL)
      try clear hb3
      try clear Lk0
      try clear Fk0
      try clear Qk0
      try clear Lk5
      try clear Fk5
      try clear Qk5
      try clear Lk6
      try clear Fk6
      try clear Qk6
      try clear Lk7
      try clear Fk7
      try clear Qk7
      try clear hb0
      try clear k0
      try clear k5
      try clear k6
      try clear k7
      intro t2 hb0 k0 k5 k6 k7
      (try simp only [List.setIfInBounds_toArray, List.set_cons_zero, List.set_cons_succ] at k0 k5 k6 k7)
      have Lk0 := k0.later
      have Fk0 := k0.laterF
      have Qk0 := k0.lt
      have Lk5 := k5.later
      have Fk5 := k5.laterF
      have Qk5 := k5.lt
      have Lk6 := k6.later
      have Fk6 := k6.laterF
      have Qk6 := k6.lt
      have Lk7 := k7.later
      have Fk7 := k7.laterF
      have Qk7 := k7.lt
      cases B2
      case false =>
        go_wp2
        go_ret
        exact ⟨by rw [hIB.out, hstp.out, hsb.out, hHW.out, hw3.out]; simp, bl_tr hbw hb0⟩
      go_wp2
      apply absRB4 (w0 := wr) (g0 := w.heap.size) (g1 := g18) (g2 := g19) (g3 := g20)
      iterate 5 (focus exact zL)
      try clear hb3
      try clear Lk0
      try clear Fk0
      try clear Qk0
      try clear Lk5
      try clear Fk5
      try clear Qk5
      try clear Lk6
      try clear Fk6
      try clear Qk6
      try clear Lk7
      try clear Fk7
      try clear Qk7
      try clear hb0
      try clear k0
      try clear k5
      try clear k6
      try clear k7
      intro x2 hb0 k0 k5 k6 k7
      (try simp only [List.setIfInBounds_toArray, List.set_cons_zero, List.set_cons_succ] at k0 k5 k6 k7)
      have Lk0 := k0.later
      have Fk0 := k0.laterF
      have Qk0 := k0.lt
      have Lk5 := k5.later
      have Fk5 := k5.laterF
      have Qk5 := k5.lt
      have Lk6 := k6.later
      have Fk6 := k6.laterF
      have Qk6 := k6.lt
      have Lk7 := k7.later
      have Fk7 := k7.laterF
      have Qk7 := k7.lt
      rw [rounds_succ]
      go_wp2
      have c0 : ∀ W, Below _ _ W → W.cell? ⟨bb, off + j * 9, none⟩ = some (.int .i64 x.s.mv.ticks) := later (kcell (bl_tr hbw hb0) (hc.out 0 _ rfl))
      have c1 : ∀ W, Below _ _ W → W.cell? ⟨bb, off + j * 9 + 1, none⟩ = some (.int .i64 x.s.mv.speed.x.lo) := later (kcell (bl_tr hbw hb0) (hc.out 1 _ rfl))
      have c2 : ∀ W, Below _ _ W → W.cell? ⟨bb, off + j * 9 + 2, none⟩ = some (.int .i64 x.s.mv.speed.x.hi) := later (kcell (bl_tr hbw hb0) (hc.out 2 _ rfl))
      have c3 : ∀ W, Below _ _ W → W.cell? ⟨bb, off + j * 9 + 3, none⟩ = some (.int .i64 x.s.mv.speed.y.lo) := later (kcell (bl_tr hbw hb0) (hc.out 3 _ rfl))
      have c4 : ∀ W, Below _ _ W → W.cell? ⟨bb, off + j * 9 + 4, none⟩ = some (.int .i64 x.s.mv.speed.y.hi) := later (kcell (bl_tr hbw hb0) (hc.out 4 _ rfl))
      have c5 : ∀ W, Below _ _ W → W.cell? ⟨bb, off + j * 9 + 5, none⟩ = some (.int .i64 x.s.mv.speed.z.lo) := later (kcell (bl_tr hbw hb0) (hc.out 5 _ rfl))
      have c6 : ∀ W, Below _ _ W → W.cell? ⟨bb, off + j * 9 + 6, none⟩ = some (.int .i64 x.s.mv.speed.z.hi) := later (kcell (bl_tr hbw hb0) (hc.out 6 _ rfl))
      have c7 : ∀ W, Below _ _ W → W.cell? ⟨bb, off + j * 9 + 7, none⟩ = some (.slice x.A x.s.vt.rs.length x.c) := later (kcell (bl_tr hbw hb0) (hc.out 7 _ rfl))
      have c8 : ∀ W, Below _ _ W → W.cell? ⟨bb, off + j * 9 + 8, none⟩ = some (.int .i64 x.s.vt.wrong) := later (kcell (bl_tr hbw hb0) (hc.out 8 _ rfl))
      refine wp_any (w0 := x2) ⟨[], [], [some 57, some 58, some 59, some 60, some 61, some 62, some 63, some 64, some 65, some 66, some 67, some 68, some 69, some 70, some 71, some 72, some 73, some 74, some 75, some 76, some 77, some 78, some 79, some 80, some 81, some 82, some 83, some 84, some 85, some 86, some 87], [[], [0], [0, 1], [], [3], [3, 4], [0, 1, 2, 3, 4, 5], [], [], [7, 8], [7, 8, 9], [7, 8, 9, 10], [7, 8, 9, 10, 11], [], [13], [13, 14], [13, 14, 15], [7, 8, 9, 10, 11, 12, 13, 14, 15, 16], [], [], [18, 19], [18, 19, 20], [18, 19, 20, 21], [18, 19, 20, 21, 22], [], [24], [24, 25], [24, 25, 26], [18, 19, 20, 21, 22, 23, 24, 25, 26, 27], [0, 1, 2, 3, 4, 5, 6, 7, 8, 9, 10, 11, 12, 13, 14, 15, 16, 17, 18, 19, 20, 21, 22, 23, 24, 25, 26, 27, 28], [0, 1, 2, 3, 4, 5, 6, 7, 8, 9, 10, 11, 12, 13, 14, 15, 16, 17, 18, 19, 20, 21, 22, 23, 24, 25, 26, 27, 28, 29]], [[], [0], [1], [], [3], [4], [2, 5], [], [], [7, 8], [9], [10], [11], [], [13], [14], [15], [12, 16], [], [], [18, 19], [20], [21], [22], [], [24], [25], [26], [23, 27], [6, 17, 28], [29]]⟩ (fun _ => []) (by kernel_rfl) (by kernel_rfl) (by (exact zE)) (fun u => by simp only [putD, Act.put, List.setIfInBounds_toArray, List.set_cons_zero, List.set_cons_succ, Nat.zero_add, Nat.reduceAdd]; rfl) ?_
      apply RGW.on (i := 0) rfl
      · exact zG
      · intro γ u W hcur hd
        clear hd
        (try dsimp only)
        exact ⟨rfl, zS⟩
      · exact zC
      · rfl
      dsimp only [nA, cA]
      apply RGW.on (i := 1) rfl
      · exact zG
      · intro γ u W hcur hd
        obtain ⟨⟨h0, -, -⟩, -⟩ := hd
        dsimp only at h0
        (try simp only [h0])
        exact ⟨rfl, zS⟩
      · exact zC
      · rfl
      dsimp only [nA, cA]
      apply RGW.on (i := 2) rfl
      · exact zG
      · intro γ u W hcur hd
        obtain ⟨⟨h1, -, -⟩, -⟩ := hd
        dsimp only at h1
        (try simp only [h1])
        exact ⟨rfl, zS⟩
      · exact zC
      · rfl
      dsimp only [nA, cA]
      apply RGW.on (i := 3) rfl
      · exact zG
      · intro γ u W hcur hd
        clear hd
        (try dsimp only)
        exact ⟨rfl, zS⟩
      · exact zC
      · rfl
      dsimp only [nA, cA]
      apply RGW.on (i := 4) rfl
      · exact zG
      · intro γ u W hcur hd
        obtain ⟨⟨h3, -, -⟩, -⟩ := hd
        dsimp only at h3
        (try simp only [h3])
        exact ⟨rfl, zS⟩
      · exact zC
      · rfl
      dsimp only [nA, cA]
      apply RGW.on (i := 5) rfl
      · exact zG
      · intro γ u W hcur hd
        obtain ⟨⟨h4, -, -⟩, -⟩ := hd
        dsimp only at h4
        (try simp only [h4])
        exact ⟨rfl, zS⟩
      · exact zC
      · rfl
      dsimp only [nA, cA]
      apply RGW.on (i := 6) rfl
      · exact zG
      · intro γ u W hcur hd
        obtain ⟨⟨h2, -, -⟩, ⟨h5, -, -⟩, -⟩ := hd
        dsimp only at h2 h5
        (try simp only [h2, h5])
        exact ⟨rfl, zS⟩
      · exact zC
      · rfl
      dsimp only [nA, cA]
      apply RGW.on (i := 7) rfl
      · exact zG
      · intro γ u W hcur hd
        clear hd
        (try dsimp only)
        exact ⟨rfl, zS⟩
      · exact zC
      · rfl
      dsimp only [nA, cA]
      apply RGW.on (i := 8) rfl
      · exact zG
      · intro γ u W hcur hd
        clear hd
        (try dsimp only)
        exact ⟨rfl, zS⟩
      · exact zC
      · rfl
      dsimp only [nA, cA]
      apply RGW.on (i := 9) rfl
      · exact zG
      · intro γ u W hcur hd
        obtain ⟨⟨h7, -, -⟩, ⟨h8, -, -⟩, -⟩ := hd
        dsimp only at h7 h8
        (try simp only [h7, h8])
        exact ⟨rfl, zS⟩
      · exact zC
      · rfl
      dsimp only [nA, cA]
      apply RGW.on (i := 10) rfl
      · exact zG
      · intro γ u W hcur hd
        obtain ⟨⟨h9, -, -⟩, -⟩ := hd
        dsimp only at h9
        (try simp only [h9])
        exact ⟨rfl, zS⟩
      · exact zC
      · rfl
      dsimp only [nA, cA]
      apply RGW.on (i := 11) rfl
      · exact zG
      · intro γ u W hcur hd
        obtain ⟨⟨h10, -, -⟩, -⟩ := hd
        dsimp only at h10
        (try simp only [h10])
        exact ⟨rfl, zS⟩
      · exact zC
      · rfl
      dsimp only [nA, cA]
      apply RGW.on (i := 12) rfl
      · exact zG
      · intro γ u W hcur hd
        obtain ⟨⟨h11, -, -⟩, -⟩ := hd
        dsimp only at h11
        (try simp only [h11])
        exact ⟨rfl, zS⟩
      · exact zC
      · rfl
      dsimp only [nA, cA]
      apply RGW.on (i := 13) rfl
      · exact zG
      · intro γ u W hcur hd
        clear hd
        (try dsimp only)
        exact ⟨rfl, zS⟩
      · exact zC
      · rfl
      dsimp only [nA, cA]
      apply RGW.on (i := 14) rfl
      · exact zG
      · intro γ u W hcur hd
        obtain ⟨⟨h13, -, -⟩, -⟩ := hd
        dsimp only at h13
        (try simp only [h13])
        exact ⟨rfl, zS⟩
      · exact zC
      · rfl
      dsimp only [nA, cA]
      apply RGW.on (i := 15) rfl
      · exact zG
      · intro γ u W hcur hd
        obtain ⟨⟨h14, -, -⟩, -⟩ := hd
        dsimp only at h14
        (try simp only [h14])
        exact ⟨rfl, zS⟩
      · exact zC
      · rfl
      dsimp only [nA, cA]
      apply RGW.on (i := 16) rfl
      · exact zG
      · intro γ u W hcur hd
        obtain ⟨⟨h15, -, -⟩, -⟩ := hd
        dsimp only at h15
        (try simp only [h15])
        exact ⟨rfl, zS⟩
      · exact zC
      · rfl
      dsimp only [nA, cA]
      apply RGW.on (i := 17) rfl
      · exact zG
      · intro γ u W hcur hd
        obtain ⟨⟨h12, -, -⟩, ⟨h16, -, -⟩, -⟩ := hd
        dsimp only at h12 h16
        (try simp only [h12, h16])
        exact ⟨rfl, zS⟩
      · exact zC
      · rfl
      dsimp only [nA, cA]
      apply RGW.on (i := 18) rfl
      · exact zG
      · intro γ u W hcur hd
        clear hd
        (try dsimp only)
        exact ⟨rfl, zS⟩
      · exact zC
      · rfl
      dsimp only [nA, cA]
      apply RGW.on (i := 19) rfl
      · exact zG
      · intro γ u W hcur hd
        clear hd
        (try dsimp only)
        exact ⟨rfl, zS⟩
      · exact zC
      · rfl
      dsimp only [nA, cA]
      apply RGW.on (i := 20) rfl
      · exact zG
      · intro γ u W hcur hd
        obtain ⟨⟨h18, -, -⟩, ⟨h19, -, -⟩, -⟩ := hd
        dsimp only at h18 h19
        (try simp only [h18, h19])
        exact ⟨rfl, zS⟩
      · exact zC
      · rfl
      dsimp only [nA, cA]
      apply RGW.on (i := 21) rfl
      · exact zG
      · intro γ u W hcur hd
        obtain ⟨⟨h20, -, -⟩, -⟩ := hd
        dsimp only at h20
        (try simp only [h20])
        exact ⟨rfl, zS⟩
      · exact zC
      · rfl
      dsimp only [nA, cA]
      apply RGW.on (i := 22) rfl
      · exact zG
      · intro γ u W hcur hd
        obtain ⟨⟨h21, -, -⟩, -⟩ := hd
        dsimp only at h21
        (try simp only [h21])
        exact ⟨rfl, zS⟩
      · exact zC
      · rfl
      dsimp only [nA, cA]
      apply RGW.on (i := 23) rfl
      · exact zG
      · intro γ u W hcur hd
        obtain ⟨⟨h22, -, -⟩, -⟩ := hd
        dsimp only at h22
        (try simp only [h22])
        exact ⟨rfl, zS⟩
      · exact zC
      · rfl
      dsimp only [nA, cA]
      apply RGW.on (i := 24) rfl
      · exact zG
      · intro γ u W hcur hd
        clear hd
        (try dsimp only)
        exact ⟨rfl, zS⟩
      · exact zC
      · rfl
      dsimp only [nA, cA]
      apply RGW.on (i := 25) rfl
      · exact zG
      · intro γ u W hcur hd
        obtain ⟨⟨h24, -, -⟩, -⟩ := hd
        dsimp only at h24
        (try simp only [h24])
        exact ⟨rfl, zS⟩
      · exact zC
      · rfl
      dsimp only [nA, cA]
      apply RGW.on (i := 26) rfl
      · exact zG
      · intro γ u W hcur hd
        obtain ⟨⟨h25, -, -⟩, -⟩ := hd
        dsimp only at h25
        (try simp only [h25])
        exact ⟨rfl, zS⟩
      · exact zC
      · rfl
      dsimp only [nA, cA]
      apply RGW.on (i := 27) rfl
      · exact zG
      · intro γ u W hcur hd
        obtain ⟨⟨h26, -, -⟩, -⟩ := hd
        dsimp only at h26
        (try simp only [h26])
        exact ⟨rfl, zS⟩
      · exact zC
      · rfl
      dsimp only [nA, cA]
      apply RGW.on (i := 28) rfl
      · exact zG
      · intro γ u W hcur hd
        obtain ⟨⟨h23, -, -⟩, ⟨h27, -, -⟩, -⟩ := hd
        dsimp only at h23 h27
        (try simp only [h23, h27])
        exact ⟨rfl, zS⟩
      · exact zC
      · rfl
      dsimp only [nA, cA]
      apply RGW.call (i := 29) rfl
      · exact zG
      · intro γ u W hcur hd
        obtain ⟨⟨h6, -, -⟩, ⟨h17, -, -⟩, ⟨h28, -, -⟩, -⟩ := hd
        dsimp only at h6 h17 h28
        (try simp only [h6, h17, h28])
        refine ⟨rfl, fun K hK => ?_⟩
        go_simp
        (go_at_call 78; (with_reducible refine (hcx3.out _).mono ?_); rintro e w3 ⟨rfl, rfl⟩)
        (try dsimp only)
        exact hK.out _ _ rfl (by (exact zE))
      · exact zC
      · rfl
      dsimp only [nA, cA]
      apply RGW.on (i := 30) rfl
      · exact zG
      · intro γ u W hcur hd
        obtain ⟨⟨h29, -, -⟩, -⟩ := hd
        dsimp only at h29
        (try simp only [h29])
        exact ⟨rfl, zS⟩
      · exact zC
      · rfl
      dsimp only [nA, cA]
      refine RGW.fin (fun γ u z3 hz3 hd hdis => ?_)
      obtain ⟨⟨h0, -, -⟩, ⟨h1, -, -⟩, ⟨h2, -, -⟩, ⟨h3, -, -⟩, ⟨h4, -, -⟩, ⟨h5, -, -⟩, ⟨h6, -, -⟩, ⟨h7, -, -⟩, ⟨h8, -, -⟩, ⟨h9, -, -⟩, ⟨h10, -, -⟩, ⟨h11, -, -⟩, ⟨h12, -, -⟩, ⟨h13, -, -⟩, ⟨h14, -, -⟩, ⟨h15, -, -⟩, ⟨h16, -, -⟩, ⟨h17, -, -⟩, ⟨h18, -, -⟩, ⟨h19, -, -⟩, ⟨h20, -, -⟩, ⟨h21, -, -⟩, ⟨h22, -, -⟩, ⟨h23, -, -⟩, ⟨h24, -, -⟩, ⟨h25, -, -⟩, ⟨h26, -, -⟩, ⟨h27, -, -⟩, ⟨h28, -, -⟩, ⟨h29, -, -⟩, ⟨h30, -, -⟩, -⟩ := hd
      dsimp only at h0 h1 h2 h3 h4 h5 h6 h7 h8 h9 h10 h11 h12 h13 h14 h15 h16 h17 h18 h19 h20 h21 h22 h23 h24 h25 h26 h27 h28 h29 h30
      clear hdis
      simp only [h0, h1, h2, h3, h4, h5, h6, h7, h8, h9, h10, h11, h12, h13, h14, h15, h16, h17, h18, h19, h20, h21, h22, h23, h24, h25, h26, h27, h28, h29, h30]
      clear h30 h29 h28 h27 h26 h25 h24 h23 h22 h21 h20 h19 h18 h17 h16 h15 h14 h13 h12 h11 h10 h9 h8 h7 h6 h5 h4 h3 h2 h1 h0
      clear u
      simp only [List.map_nil]
      refine PlanW.done ?_
      have hb3 := bl_tt hz3
      clear c0 c1 c2 c3 c4 c5 c6 c7 c8
      apply absTB4 (w0 := wr) (g0 := w.heap.size) (g1 := g18) (g2 := g19) (g3 := g20)
      iterate 5 (focus exact zL)
      try clear hb3
      try clear Lk0
      try clear Fk0
      try clear Qk0
      try clear Lk5
      try clear Fk5
      try clear Qk5
      try clear Lk6
      try clear Fk6
      try clear Qk6
      try clear Lk7
      try clear Fk7
      try clear Qk7
      try clear hb0
      try clear k0
      try clear k5
      try clear k6
      try clear k7
      intro t3 hb0 k0 k5 k6 k7
      (try simp only [List.setIfInBounds_toArray, List.set_cons_zero, List.set_cons_succ] at k0 k5 k6 k7)
      have Lk0 := k0.later
      have Fk0 := k0.laterF
      have Qk0 := k0.lt
      have Lk5 := k5.later
      have Fk5 := k5.laterF
      have Qk5 := k5.lt
      have Lk6 := k6.later
      have Fk6 := k6.laterF
      have Qk6 := k6.lt
      have Lk7 := k7.later
      have Fk7 := k7.laterF
      have Qk7 := k7.lt
      cases B3
      case false =>
        go_wp2
        go_ret
        exact ⟨by rw [hIB.out, hstp.out, hsb.out, hHW.out, hw3.out]; simp, bl_tr hbw hb0⟩
      go_wp2
      apply absRB4 (w0 := wr) (g0 := w.heap.size) (g1 := g18) (g2 := g19) (g3 := g20)
      iterate 5 (focus exact zL)
      try clear hb3
      try clear Lk0
      try clear Fk0
      try clear Qk0
      try clear Lk5
      try clear Fk5
      try clear Qk5
      try clear Lk6
      try clear Fk6
      try clear Qk6
      try clear Lk7
      try clear Fk7
      try clear Qk7
      try clear hb0
      try clear k0
      try clear k5
      try clear k6
      try clear k7
      intro x3 hb0 k0 k5 k6 k7
      (try simp only [List.setIfInBounds_toArray, List.set_cons_zero, List.set_cons_succ] at k0 k5 k6 k7)
      have Lk0 := k0.later
      have Fk0 := k0.laterF
      have Qk0 := k0.lt
      have Lk5 := k5.later
      have Fk5 := k5.laterF
      have Qk5 := k5.lt
      have Lk6 := k6.later
      have Fk6 := k6.laterF
      have Qk6 := k6.lt
      have Lk7 := k7.later
      have Fk7 := k7.laterF
      have Qk7 := k7.lt
      rw [rounds_succ]
      obtain ⟨GT, hGT⟩ : ∃ GT, decide ((AL.length : Int) + x.s.vt.wrong < (x.s.vt.rs.length : Int)) = GT := ⟨_, rfl⟩
      rw [hGT] at hok
      go_wp2
      apply absB1 (w0 := wr) (g0 := w.heap.size)
      iterate 2 (focus exact zL)
      try clear hb3
      try clear hb0
      try clear k0
      intro x4 hb0 k0
      (try simp only [List.setIfInBounds_toArray, List.set_cons_zero, List.set_cons_succ] at k0)
      have Lk0 := k0.later
      have Fk0 := k0.laterF
      have Qk0 := k0.lt
      have c0 : ∀ W, Below _ _ W → W.cell? ⟨bb, off + j * 9, none⟩ = some (.int .i64 x.s.mv.ticks) := later (kcell (bl_tr hbw hb0) (hc.out 0 _ rfl))
      have c1 : ∀ W, Below _ _ W → W.cell? ⟨bb, off + j * 9 + 1, none⟩ = some (.int .i64 x.s.mv.speed.x.lo) := later (kcell (bl_tr hbw hb0) (hc.out 1 _ rfl))
      have c2 : ∀ W, Below _ _ W → W.cell? ⟨bb, off + j * 9 + 2, none⟩ = some (.int .i64 x.s.mv.speed.x.hi) := later (kcell (bl_tr hbw hb0) (hc.out 2 _ rfl))
      have c3 : ∀ W, Below _ _ W → W.cell? ⟨bb, off + j * 9 + 3, none⟩ = some (.int .i64 x.s.mv.speed.y.lo) := later (kcell (bl_tr hbw hb0) (hc.out 3 _ rfl))
      have c4 : ∀ W, Below _ _ W → W.cell? ⟨bb, off + j * 9 + 4, none⟩ = some (.int .i64 x.s.mv.speed.y.hi) := later (kcell (bl_tr hbw hb0) (hc.out 4 _ rfl))
      have c5 : ∀ W, Below _ _ W → W.cell? ⟨bb, off + j * 9 + 5, none⟩ = some (.int .i64 x.s.mv.speed.z.lo) := later (kcell (bl_tr hbw hb0) (hc.out 5 _ rfl))
      have c6 : ∀ W, Below _ _ W → W.cell? ⟨bb, off + j * 9 + 6, none⟩ = some (.int .i64 x.s.mv.speed.z.hi) := later (kcell (bl_tr hbw hb0) (hc.out 6 _ rfl))
      have c7 : ∀ W, Below _ _ W → W.cell? ⟨bb, off + j * 9 + 7, none⟩ = some (.slice x.A x.s.vt.rs.length x.c) := later (kcell (bl_tr hbw hb0) (hc.out 7 _ rfl))
      have c8 : ∀ W, Below _ _ W → W.cell? ⟨bb, off + j * 9 + 8, none⟩ = some (.int .i64 x.s.vt.wrong) := later (kcell (bl_tr hbw hb0) (hc.out 8 _ rfl))
      have cq0 : ∀ W, Below _ _ W → W.cell? ⟨pb, po + (j + 1) * 3, none⟩ = some (.int .i64 q.x) := later (kcell (bl_tr hbw hb0) (hqc.out 0 _ rfl))
      have cq1 : ∀ W, Below _ _ W → W.cell? ⟨pb, po + (j + 1) * 3 + 1, none⟩ = some (.int .i64 q.y) := later (kcell (bl_tr hbw hb0) (hqc.out 1 _ rfl))
      have cq2 : ∀ W, Below _ _ W → W.cell? ⟨pb, po + (j + 1) * 3 + 2, none⟩ = some (.int .i64 q.z) := later (kcell (bl_tr hbw hb0) (hqc.out 2 _ rfl))
      refine wp_any (w0 := x4) ⟨[], [], [some 88, some 89, some 90, some 91, some 92, some 93, some 94, some 95, some 96, some 97, some 98, some 99, some 100, some 101, some 102, some 103, some 104, some 105, some 106, some 107, some 108, some 109, some 110, some 111, some 112, some 113, some 114, some 115, some 116], [[], [], [], [1, 2], [1, 2, 3], [1, 2, 3, 4], [1, 2, 3, 4, 5], [], [], [8], [7, 8, 9], [7, 8, 9, 10], [0, 1, 2, 3, 4, 5, 6, 7, 8, 9, 10, 11], [0, 1, 2, 3, 4, 5, 6, 7, 8, 9, 10, 11, 12], [], [], [14, 15], [14, 15, 16], [14, 15, 16, 17], [14, 15, 16, 17, 18], [0, 1, 2, 3, 4, 5, 6, 7, 8, 9, 10, 11, 12, 13, 14, 15, 16, 17, 18, 19], [], [], [21, 22], [21, 22, 23], [21, 22, 23, 24], [21, 22, 23, 24, 25], [21, 22, 23, 24, 25, 26], [0, 1, 2, 3, 4, 5, 6, 7, 8, 9, 10, 11, 12, 13, 14, 15, 16, 17, 18, 19, 20, 21, 22, 23, 24, 25, 26, 27]], [[], [], [], [1, 2], [3], [4], [5], [], [], [8], [7, 9], [10], [0, 6, 11], [12], [], [], [14, 15], [16], [17], [18], [12, 13, 19], [], [], [21, 22], [23], [24], [25], [26], [12, 20, 27]]⟩ (fun _ => []) (by kernel_rfl) (by kernel_rfl) (by (exact zE)) (fun u => by simp only [putD, Act.put, List.setIfInBounds_toArray, List.set_cons_zero, List.set_cons_succ, Nat.zero_add, Nat.reduceAdd]; rfl) ?_
      apply RGW.on (i := 0) rfl
      · exact zG
      · intro γ u W hcur hd
        clear hd
        (try dsimp only)
        exact ⟨rfl, zS⟩
      · exact zC
      · rfl
      dsimp only [nA, cA]
      apply RGW.on (i := 1) rfl
      · exact zG
      · intro γ u W hcur hd
        clear hd
        (try dsimp only)
        exact ⟨rfl, zS⟩
      · exact zC
      · rfl
      dsimp only [nA, cA]
      apply RGW.on (i := 2) rfl
      · exact zG
      · intro γ u W hcur hd
        clear hd
        (try dsimp only)
        exact ⟨rfl, zS⟩
      · exact zC
      · rfl
      dsimp only [nA, cA]
      apply RGW.on (i := 3) rfl
      · exact zG
      · intro γ u W hcur hd
        obtain ⟨⟨h1, -, -⟩, ⟨h2, -, -⟩, -⟩ := hd
        dsimp only at h1 h2
        (try simp only [h1, h2])
        exact ⟨rfl, zS⟩
      · exact zC
      · rfl
      dsimp only [nA, cA]
      apply RGW.on (i := 4) rfl
      · exact zG
      · intro γ u W hcur hd
        obtain ⟨⟨h3, -, -⟩, -⟩ := hd
        dsimp only at h3
        (try simp only [h3])
        exact ⟨rfl, zS⟩
      · exact zC
      · rfl
      dsimp only [nA, cA]
      apply RGW.on (i := 5) rfl
      · exact zG
      · intro γ u W hcur hd
        obtain ⟨⟨h4, -, -⟩, -⟩ := hd
        dsimp only at h4
        (try simp only [h4])
        exact ⟨rfl, zS⟩
      · exact zC
      · rfl
      dsimp only [nA, cA]
      apply RGW.on (i := 6) rfl
      · exact zG
      · intro γ u W hcur hd
        obtain ⟨⟨h5, -, -⟩, -⟩ := hd
        dsimp only at h5
        (try simp only [h5])
        exact ⟨rfl, zS⟩
      · exact zC
      · rfl
      dsimp only [nA, cA]
      apply RGW.on (i := 7) rfl
      · exact zG
      · intro γ u W hcur hd
        clear hd
        (try dsimp only)
        exact ⟨rfl, zS⟩
      · exact zC
      · rfl
      dsimp only [nA, cA]
      apply RGW.on (i := 8) rfl
      · exact zG
      · intro γ u W hcur hd
        clear hd
        (try dsimp only)
        exact ⟨rfl, zS⟩
      · exact zC
      · rfl
      dsimp only [nA, cA]
      apply RGW.on (i := 9) rfl
      · exact zG
      · intro γ u W hcur hd
        obtain ⟨⟨h8, -, -⟩, -⟩ := hd
        dsimp only at h8
        (try simp only [h8])
        exact ⟨rfl, zS⟩
      · exact zC
      · rfl
      dsimp only [nA, cA]
      apply RGW.on (i := 10) rfl
      · exact zG
      · intro γ u W hcur hd
        obtain ⟨⟨h7, -, -⟩, ⟨h9, -, -⟩, -⟩ := hd
        dsimp only at h7 h9
        (try simp only [h7, h9])
        exact ⟨rfl, zS⟩
      · exact zC
      · rfl
      dsimp only [nA, cA]
      apply RGW.on (i := 11) rfl
      · exact zG
      · intro γ u W hcur hd
        obtain ⟨⟨h10, -, -⟩, -⟩ := hd
        dsimp only at h10
        (try simp only [h10])
        exact ⟨rfl, zS⟩
      · exact zC
      · rfl
      dsimp only [nA, cA]
      apply RGW.gh (⟨fun γ => .slice (γ 12).A AL.length (γ 12).c, fun γ W => True, fun _ => []⟩) (i := 12) rfl
      · exact zG
      · intro γ u W hcur hd
        obtain ⟨⟨h0, -, -⟩, ⟨h6, -, -⟩, ⟨h11, -, -⟩, -⟩ := hd
        dsimp only at h0 h6 h11
        (try simp only [h0, h6, h11])
        refine ⟨rfl, fun K hK => ?_⟩
        go_simp
        (go_at_call 79; (with_reducible refine (hag.out _ (bl_tr hbw (bl_tr hb0 (by (exact zE))))).mono ?_); rintro e w3 ⟨Ax, cx, rfl, hb3, -⟩; dsimp only; exact hK.out ⟨0, undef, Ax, cx⟩ _ _ (by simp [up]) hb3 trivial (by simp))
      · intro γ γ' hg
        try dsimp only
        have e12 := hg 12 (by decide)
        simp only [e12]
        try exact ⟨trivial, fun _ h => h⟩
      · intro γ W W' hbl hR
        first | exact hR.below hbl | exact own_below hR hbl | exact trivial | exact ⟨hR.1.below hbl, hR.2⟩
      · rfl
      dsimp only [nA, cA]
      apply RGW.on (i := 13) rfl
      · exact zG
      · intro γ u W hcur hd
        obtain ⟨⟨h12, r12, -⟩, -⟩ := hd
        dsimp only at h12 r12
        (try simp only [h12])
        exact ⟨rfl, zS⟩
      · exact zC
      · rfl
      dsimp only [nA, cA]
      apply RGW.on (i := 14) rfl
      · exact zG
      · intro γ u W hcur hd
        clear hd
        (try dsimp only)
        exact ⟨rfl, zS⟩
      · exact zC
      · rfl
      dsimp only [nA, cA]
      apply RGW.on (i := 15) rfl
      · exact zG
      · intro γ u W hcur hd
        clear hd
        (try dsimp only)
        exact ⟨rfl, zS⟩
      · exact zC
      · rfl
      dsimp only [nA, cA]
      apply RGW.on (i := 16) rfl
      · exact zG
      · intro γ u W hcur hd
        obtain ⟨⟨h14, -, -⟩, ⟨h15, -, -⟩, -⟩ := hd
        dsimp only at h14 h15
        (try simp only [h14, h15])
        exact ⟨rfl, zS⟩
      · exact zC
      · rfl
      dsimp only [nA, cA]
      apply RGW.on (i := 17) rfl
      · exact zG
      · intro γ u W hcur hd
        obtain ⟨⟨h16, -, -⟩, -⟩ := hd
        dsimp only at h16
        (try simp only [h16])
        exact ⟨rfl, zS⟩
      · exact zC
      · rfl
      dsimp only [nA, cA]
      apply RGW.on (i := 18) rfl
      · exact zG
      · intro γ u W hcur hd
        obtain ⟨⟨h17, -, -⟩, -⟩ := hd
        dsimp only at h17
        (try simp only [h17])
        exact ⟨rfl, zS⟩
      · exact zC
      · rfl
      dsimp only [nA, cA]
      apply RGW.on (i := 19) rfl
      · exact zG
      · intro γ u W hcur hd
        obtain ⟨⟨h18, -, -⟩, -⟩ := hd
        dsimp only at h18
        (try simp only [h18])
        exact ⟨rfl, zS⟩
      · exact zC
      · rfl
      dsimp only [nA, cA]
      apply RGW.on (i := 20) rfl
      · exact zG
      · intro γ u W hcur hd
        obtain ⟨⟨h12, r12, -⟩, ⟨h13, -, -⟩, ⟨h19, -, -⟩, -⟩ := hd
        dsimp only at h12 h13 h19 r12
        (try simp only [h12, h13, h19])
        exact ⟨rfl, zS⟩
      · exact zC
      · rfl
      dsimp only [nA, cA]
      apply RGW.on (i := 21) rfl
      · exact zG
      · intro γ u W hcur hd
        clear hd
        (try dsimp only)
        exact ⟨rfl, zS⟩
      · exact zC
      · rfl
      dsimp only [nA, cA]
      apply RGW.on (i := 22) rfl
      · exact zG
      · intro γ u W hcur hd
        clear hd
        (try dsimp only)
        exact ⟨rfl, zS⟩
      · exact zC
      · rfl
      dsimp only [nA, cA]
      apply RGW.on (i := 23) rfl
      · exact zG
      · intro γ u W hcur hd
        obtain ⟨⟨h21, -, -⟩, ⟨h22, -, -⟩, -⟩ := hd
        dsimp only at h21 h22
        (try simp only [h21, h22])
        exact ⟨rfl, zS⟩
      · exact zC
      · rfl
      dsimp only [nA, cA]
      apply RGW.on (i := 24) rfl
      · exact zG
      · intro γ u W hcur hd
        obtain ⟨⟨h23, -, -⟩, -⟩ := hd
        dsimp only at h23
        (try simp only [h23])
        exact ⟨rfl, zS⟩
      · exact zC
      · rfl
      dsimp only [nA, cA]
      apply RGW.on (i := 25) rfl
      · exact zG
      · intro γ u W hcur hd
        obtain ⟨⟨h24, -, -⟩, -⟩ := hd
        dsimp only at h24
        (try simp only [h24])
        exact ⟨rfl, zS⟩
      · exact zC
      · rfl
      dsimp only [nA, cA]
      apply RGW.on (i := 26) rfl
      · exact zG
      · intro γ u W hcur hd
        obtain ⟨⟨h25, -, -⟩, -⟩ := hd
        dsimp only at h25
        (try simp only [h25])
        exact ⟨rfl, zS⟩
      · exact zC
      · rfl
      dsimp only [nA, cA]
      apply RGW.on (i := 27) rfl
      · exact zG
      · intro γ u W hcur hd
        obtain ⟨⟨h26, -, -⟩, -⟩ := hd
        dsimp only at h26
        (try simp only [h26])
        exact ⟨rfl, zS⟩
      · exact zC
      · rfl
      dsimp only [nA, cA]
      apply RGW.on (i := 28) rfl
      · exact zG
      · intro γ u W hcur hd
        obtain ⟨⟨h12, r12, -⟩, ⟨h20, -, -⟩, ⟨h27, -, -⟩, -⟩ := hd
        dsimp only at h12 h20 h27 r12
        (try simp only [h12, h20, h27])
        exact ⟨rfl, zS⟩
      · exact zC
      · rfl
      dsimp only [nA, cA]
      refine RGW.fin (fun γ u x5 hx5 hd hdis => ?_)
      obtain ⟨⟨h0, -, -⟩, ⟨h1, -, -⟩, ⟨h2, -, -⟩, ⟨h3, -, -⟩, ⟨h4, -, -⟩, ⟨h5, -, -⟩, ⟨h6, -, -⟩, ⟨h7, -, -⟩, ⟨h8, -, -⟩, ⟨h9, -, -⟩, ⟨h10, -, -⟩, ⟨h11, -, -⟩, ⟨h12, r12, b12⟩, ⟨h13, -, -⟩, ⟨h14, -, -⟩, ⟨h15, -, -⟩, ⟨h16, -, -⟩, ⟨h17, -, -⟩, ⟨h18, -, -⟩, ⟨h19, -, -⟩, ⟨h20, -, -⟩, ⟨h21, -, -⟩, ⟨h22, -, -⟩, ⟨h23, -, -⟩, ⟨h24, -, -⟩, ⟨h25, -, -⟩, ⟨h26, -, -⟩, ⟨h27, -, -⟩, ⟨h28, -, -⟩, -⟩ := hd
      dsimp only at h0 h1 h2 h3 h4 h5 h6 h7 h8 h9 h10 h11 h12 h13 h14 h15 h16 h17 h18 h19 h20 h21 h22 h23 h24 h25 h26 h27 h28 r12 b12
      clear hdis
      simp only [h0, h1, h2, h3, h4, h5, h6, h7, h8, h9, h10, h11, h12, h13, h14, h15, h16, h17, h18, h19, h20, h21, h22, h23, h24, h25, h26, h27, h28]
      clear h28 h27 h26 h25 h24 h23 h22 h21 h20 h19 h18 h17 h16 h15 h14 h13 h12 h11 h10 h9 h8 h7 h6 h5 h4 h3 h2 h1 h0
      clear u
      simp only [List.map_nil]
      refine PlanW.done ?_
      have hb3 := bl_tt hx5
      clear c0 c1 c2 c3 c4 c5 c6 c7 c8
      clear cq0 cq1 cq2
      clear r12
      apply absTB1 (w0 := wr) (g0 := w.heap.size)
      iterate 2 (focus exact zL)
      try clear hb3
      try clear Lk0
      try clear Fk0
      try clear Qk0
      try clear hb0
      try clear k0
      intro x6 hb0 k0
      (try simp only [List.setIfInBounds_toArray, List.set_cons_zero, List.set_cons_succ] at k0)
      have Lk0 := k0.later
      have Fk0 := k0.laterF
      have Qk0 := k0.lt
      cases GT
      case true =>
        go_wp2
        go_ret
        exact ⟨by rw [hIB.out, hstp.out, hsb.out, hHW.out, hok.out]; simp, bl_tr hbw hb0⟩
      have hbe := bl_tr hbw hb0
      go_wp2
      go_roundw
      case rel => exact ⟨j + 1, q, by omega, by go_num, hq.out, hHW.out, by rw [hIB.out, hstp.out, hsb.out, hHW.out, hok.out, hw3.out]; simp, by (exact zE), by (exact zK)⟩
      case measure => simp [intOf]; omega
    · obtain rfl : j = ll := by omega
      go_wp2
      go_ret
      exact ⟨by rw [hIB.out, hend.out] <;> rfl, hb0⟩
end Go.Proofs.YtephimmamkafoaaGreat
