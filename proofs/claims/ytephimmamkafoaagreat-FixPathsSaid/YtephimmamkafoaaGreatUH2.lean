/-
  Walks: the reference's steps: which are valid, the box after one; copies of steps.
  Plain laws: votes contain what they count and no more; the best position is one, and none is better.
-/
import Derived.Test.YtephimmamkafoaaGreatUH1
import Derived.Test.YtephimmamkafoaaGreatU16
import Derived.Test.YtephimmamkafoaaGreatU14
import Derived.Test.YtephimmamkafoaaGreatU15
set_option linter.unusedSimpArgs false
set_option linter.unusedVariables false
namespace Go.Proofs.YtephimmamkafoaaGreat
open Go.RowKit Go.Shelf
attribute [local go_sem] bl_al bl_drew bl_drewN bl_refl bx_al bx_drew bx_drewN bx_refl
set_option maxRecDepth 20000
/-- Steps' errors by the reference: nothing of the net. -/
def refStE (nb : Nat) (s : St) : Int := fstE [mvErr s.mv, refVote nb s.vt]
def refSteps (nb : Nat) (l : List St) : Int × Int := if l.length ≤ 6 then eachS (fun _ s => refStE nb s) l 0 else (0, 8)
theorem refSt_ne {nb : Nat} {s : St} (h : mvErr s.mv ≠ 0) : refStE nb s = mvErr s.mv := by simp [refStE, fstE, h]
theorem refSt_eq {nb : Nat} {s : St} (h : mvErr s.mv = 0) : refStE nb s = refVote nb s.vt := by rw [refStE, h, fstE, if_pos rfl, fst_one]
set_option maxHeartbeats 8000000 in
theorem r_CheckSteps (wd : Bx) (nb : Nat) (l : List StA) (s A' : Option Addr) (c c' : Nat) (w : World) (hl : StsIn l A' w) (hll : few1 l) (hnb : nb ≤ 1000) :
    Calls Tryz.prog 13 #[vNt wd (.slice s nb c), .slice A' l.length c'] w (Ret (.tuple #[.int .i64 (refSteps nb (l.map (·.s))).1, .int .i64 (refSteps nb (l.map (·.s))).2]) w) := by
  have hve := Lib.hid fun (W : World) (hb : Below w.heap.size w W) (x : StA) (hx : x ∈ l) => r_VoteErr wd nb x.s.vt s x.A c x.c W ((hl.rd x hx).below hb) (hll.2 x hx) hnb
  have hS1 : Hid (l.length ≤ 6 → refSteps nb (l.map (·.s)) = eachS (fun _ x => refStE nb x.s) l 0) := fun h => by rw [refSteps, List.length_map, if_pos h, eachS_map]
  have hS0 : Hid (¬ l.length ≤ 6 → refSteps nb (l.map (·.s)) = (0, 8)) := fun h => by rw [refSteps, List.length_map, if_neg h]
  have Hl := Lib.hid hl
  have hl1 := hll.1
  clear hl hll
  generalize refSteps nb (l.map (·.s)) = R at *
  obtain ⟨ll, Hn⟩ : ∃ k, Hid (l.length = k) := ⟨_, rfl⟩
  rw [Hn.out] at hl1 hS1 hS0 ⊢
  go_enter Tryz.func13, Tryz.ntmps13
  go_upto_region 1 with fail
  apply absB1 (w0 := w) (g0 := w.heap.size)
  iterate 2 (focus exact zL)
  try clear hb3
  try clear hb0
  try clear k0
  intro wa hb0 k0
  (try simp only [List.setIfInBounds_toArray, List.set_cons_zero, List.set_cons_succ] at k0)
  have Lk0 := k0.later
  have Fk0 := k0.laterF
  have Qk0 := k0.lt
  by_cases h6 : ll ≤ 6
  · have h6' : decide (6 < ll) = false := by simp; omega
    have hi0 := Lib.hid (hS1.out h6)
    clear hS1 hS0
    go_wp2
    go_loopw [6] (fun i wr => ∃ k : Nat, k ≤ ll ∧ i = .int .i64 k ∧ Below wa.heap.size wa wr ∧ eachS (fun _ x => refStE nb x.s) l 0 = eachS (fun _ x => refStE nb x.s) (l.drop k) k) (fun i _ => ll - (intOf i).toNat)
    case atStart => exact ⟨0, Nat.zero_le _, rfl, Below.refl _ _, rfl⟩
    case round =>
      obtain ⟨k, hk, rfl, hb, hi⟩ := hrel
      replace hi := Lib.hid hi
      by_cases hlt : k < ll
      · have hx : l[k]? = some (l[k]'(by rw [Hn.out]; exact hlt)) := List.getElem?_eq_getElem _
        generalize l[k]'(by rw [Hn.out]; exact hlt) = x at hx
        have hm : x ∈ l := List.mem_of_getElem? hx
        obtain ⟨bb, off, hA, hc⟩ := Hl.out.sl k x hx
        have hwr : Below w.heap.size w wr := bl_tr hb0 hb
        have c0 : ∀ W, Below wr.heap.size wr W → W.cell? ⟨bb, off + k * 9, none⟩ = some (.int .i64 x.s.mv.ticks) := later (kcell hwr (hc 0 _ rfl))
        have c1 : ∀ W, Below wr.heap.size wr W → W.cell? ⟨bb, off + k * 9 + 1, none⟩ = some (.int .i64 x.s.mv.speed.x.lo) := later (kcell hwr (hc 1 _ rfl))
        have c2 : ∀ W, Below wr.heap.size wr W → W.cell? ⟨bb, off + k * 9 + 2, none⟩ = some (.int .i64 x.s.mv.speed.x.hi) := later (kcell hwr (hc 2 _ rfl))
        have c3 : ∀ W, Below wr.heap.size wr W → W.cell? ⟨bb, off + k * 9 + 3, none⟩ = some (.int .i64 x.s.mv.speed.y.lo) := later (kcell hwr (hc 3 _ rfl))
        have c4 : ∀ W, Below wr.heap.size wr W → W.cell? ⟨bb, off + k * 9 + 4, none⟩ = some (.int .i64 x.s.mv.speed.y.hi) := later (kcell hwr (hc 4 _ rfl))
        have c5 : ∀ W, Below wr.heap.size wr W → W.cell? ⟨bb, off + k * 9 + 5, none⟩ = some (.int .i64 x.s.mv.speed.z.lo) := later (kcell hwr (hc 5 _ rfl))
        have c6 : ∀ W, Below wr.heap.size wr W → W.cell? ⟨bb, off + k * 9 + 6, none⟩ = some (.int .i64 x.s.mv.speed.z.hi) := later (kcell hwr (hc 6 _ rfl))
        have c7 : ∀ W, Below wr.heap.size wr W → W.cell? ⟨bb, off + k * 9 + 7, none⟩ = some (.slice x.A x.s.vt.rs.length x.c) := later (kcell hwr (hc 7 _ rfl))
        have c8 : ∀ W, Below wr.heap.size wr W → W.cell? ⟨bb, off + k * 9 + 7 + 1, none⟩ = some (.int .i64 x.s.vt.wrong) := later (kcell hwr (hc 8 _ rfl))
        clear hc
        subst hA
        have hd := Lib.hid (eachS_drop (fun _ x => refStE nb x.s) l k x hx)
        have hv := Lib.hid fun (W : World) (h : Below wr.heap.size wr W) => hve.out W (bl_tr hwr h) x hm
        have hE1 := Lib.hid (refSt_ne (nb := nb) (s := x.s))
        have hE2 := Lib.hid (refSt_eq (nb := nb) (s := x.s))
        replace hx := Lib.hid hx
        clear hm
        have k0 := k0.below hb
        clear Lk0 Fk0 Qk0 hve
        have hbw := hwr
        clear hb0 hwr
        have hb0 := bl_refl wr
        have Lk0 := k0.later
        have Fk0 := k0.laterF
        have Qk0 := k0.lt
        go_upto_region 7 with ((go_at_call 55; (with_reducible refine (r_MoveErr x.s.mv _).mono ?_); rintro e w3 ⟨rfl, hb3⟩; replace hb3 := bl_tt hb3))
        apply absB1 (w0 := wr) (g0 := w.heap.size)
        iterate 2 (focus exact zL)
        try clear hb3
        try clear Lk0
        try clear Fk0
        try clear Qk0
        try clear hb0
        try clear k0
        intro wb hb0 k0
        (try simp only [List.setIfInBounds_toArray, List.set_cons_zero, List.set_cons_succ] at k0)
        have Lk0 := k0.later
        have Fk0 := k0.laterF
        have Qk0 := k0.lt
        by_cases h0 : mvErr x.s.mv = 0
        · rw [h0]
          replace hE2 := Lib.hid (hE2.out h0)
          clear hE1
          replace c7 := later (c7 _ hb0)
          replace c8 := later (c8 _ hb0)
          go_upto_region 9 with fail
          refine wp_any (w0 := wb) ⟨[], [], [some 28, some 29, some 30, some 31, some 32, some 33, some 34, some 8], [[], [], [], [1, 2], [1, 2, 3], [1, 2, 3, 4], [0, 1, 2, 3, 4, 5], [0, 1, 2, 3, 4, 5, 6]], [[], [], [], [1, 2], [3], [4], [0, 5], [6]]⟩ (fun _ => []) (by kernel_rfl) (by kernel_rfl) (by (exact zE)) (fun u => by simp only [putD, Act.put, List.setIfInBounds_toArray, List.set_cons_zero, List.set_cons_succ, Nat.zero_add, Nat.reduceAdd]; rfl) ?_
          apply RGW.on (i := 0) rfl
          · exact zG
          · intro γ u W hcur hd
            clear hd
            (try dsimp only)
            exact ⟨rfl, zS⟩
          · exact zC
          · rfl
          dsimp only [nA, cA]
          apply RGW.on (i := 1) rfl
          · exact zG
          · intro γ u W hcur hd
            clear hd
            (try dsimp only)
            exact ⟨rfl, zS⟩
          · exact zC
          · rfl
          dsimp only [nA, cA]
          apply RGW.on (i := 2) rfl
          · exact zG
          · intro γ u W hcur hd
            clear hd
            (try dsimp only)
            exact ⟨rfl, zS⟩
          · exact zC
          · rfl
          dsimp only [nA, cA]
          apply RGW.on (i := 3) rfl
          · exact zG
          · intro γ u W hcur hd
            obtain ⟨⟨h1, -, -⟩, ⟨h2, -, -⟩, -⟩ := hd
            dsimp only at h1 h2
            (try simp only [h1, h2])
            exact ⟨rfl, zS⟩
          · exact zC
          · rfl
          dsimp only [nA, cA]
          apply RGW.on (i := 4) rfl
          · exact zG
          · intro γ u W hcur hd
            obtain ⟨⟨h3, -, -⟩, -⟩ := hd
            dsimp only at h3
            (try simp only [h3])
            exact ⟨rfl, zS⟩
          · exact zC
          · rfl
          dsimp only [nA, cA]
          apply RGW.on (i := 5) rfl
          · exact zG
          · intro γ u W hcur hd
            obtain ⟨⟨h4, -, -⟩, -⟩ := hd
            dsimp only at h4
            (try simp only [h4])
            exact ⟨rfl, zS⟩
          · exact zC
          · rfl
          dsimp only [nA, cA]
          apply RGW.call (i := 6) rfl
          · exact zG
          · intro γ u W hcur hd
            obtain ⟨⟨h0, -, -⟩, ⟨h5, -, -⟩, -⟩ := hd
            dsimp only at h0 h5
            (try simp only [h0, h5])
            refine ⟨rfl, fun K hK => ?_⟩
            go_simp
            (go_at_call 56; (with_reducible refine (hv.out _ (bl_tr hb0 (by (exact zE)))).mono ?_); rintro e w3 ⟨rfl, hb3⟩; replace hb3 := bl_tt hb3)
            (try dsimp only)
            exact hK.out _ _ rfl (by (exact zE))
          · exact zC
          · rfl
          dsimp only [nA, cA]
          apply RGW.on (i := 7) rfl
          · exact zG
          · intro γ u W hcur hd
            obtain ⟨⟨h6, -, -⟩, -⟩ := hd
            dsimp only at h6
            (try simp only [h6])
            exact ⟨rfl, zS⟩
          · exact zC
          · rfl
          dsimp only [nA, cA]
          refine RGW.fin (fun γ u wc hwc hd hdis => ?_)
          obtain ⟨⟨h0, -, -⟩, ⟨h1, -, -⟩, ⟨h2, -, -⟩, ⟨h3, -, -⟩, ⟨h4, -, -⟩, ⟨h5, -, -⟩, ⟨h6, -, -⟩, ⟨h7, -, -⟩, -⟩ := hd
          dsimp only at h0 h1 h2 h3 h4 h5 h6 h7
          clear hdis
          simp only [h0, h1, h2, h3, h4, h5, h6, h7]
          clear h7 h6 h5 h4 h3 h2 h1 h0
          clear u
          simp only [List.map_nil]
          refine PlanW.done ?_
          have hb3 := bl_tt hwc
          apply absTB1 (w0 := wr) (g0 := w.heap.size)
          iterate 2 (focus exact zL)
          try clear hb3
          try clear Lk0
          try clear Fk0
          try clear Qk0
          try clear hb0
          try clear k0
          intro wd hb0 k0
          (try simp only [List.setIfInBounds_toArray, List.set_cons_zero, List.set_cons_succ] at k0)
          have Lk0 := k0.later
          have Fk0 := k0.laterF
          have Qk0 := k0.lt
          have hbz := bl_tr hb hb0
          clear c0 c1 c2 c3 c4 c5 c6 c7 c8
          generalize refVote nb x.s.vt = rv at *
          by_cases h1 : rv = 0
          · subst h1
            go_wp2
            go_roundw
            case rel => exact ⟨k + 1, by omega, by go_num, hbz, by rw [hi.out, hd.out, if_pos hE2.out]⟩
            case measure => simp [intOf]; omega
          · have h1' : (rv != 0) = true := by simp [h1]
            have hq := Lib.hid h1
            clear h1
            go_wp2
            go_ret2
            exact ⟨by rw [hi0.out, hi.out, hd.out, if_neg (by rw [hE2.out]; exact hq.out), hE2.out] <;> rfl, bl_tr hbw hb0⟩
        · have h0' : (mvErr x.s.mv != 0) = true := by simp [h0]
          have hq := Lib.hid h0
          replace hE1 := Lib.hid (hE1.out h0)
          clear h0
          go_wp2
          go_ret2
          exact ⟨by rw [hi0.out, hi.out, hd.out, if_neg (by rw [hE1.out]; exact hq.out), hE1.out] <;> rfl, bl_tr hbw hb0⟩
      · go_wp2
        go_ret2
        have : k = l.length := by have := Hn.out; omega
        exact ⟨by rw [hi0.out, hi.out, this]; simp [eachS], bl_tr hb0 hb⟩
  · have h6' : decide (6 < ll) = true := by simp; omega
    have hi0 := Lib.hid (hS0.out h6)
    go_wp2
    go_ret2
    exact ⟨by rw [hi0.out] <;> rfl, hb0⟩
theorem vote_ref {n : Nt} (h : netErr n = 0) (v : Vt) : refVote n.bs.length v = voteE n v := by
  have e := refReads_eq (n := n) (l := v.rs) h
  unfold refVote voteE
  rw [e]
  show (if readsErr n v.rs = 0 then _ else readsErr n v.rs) = _
  by_cases h0 : readsErr n v.rs = 0
  · rw [if_pos h0, h0]
    simp [fstE]
  · rw [if_neg h0]
    simp [fstE, h0]
/-- Behind a valid net the reference's errors of steps are the library's. -/
theorem steps_ref {n : Nt} (h : netErr n = 0) (l : List St) : refSteps n.bs.length l = stepsChk n l := by
  have e : (fun (_ : Nat) (s : St) => refStE n.bs.length s) = fun _ s => stErr n s := by
    funext _ s
    rw [refStE, stErr, vote_ref h]
  unfold refSteps stepsChk stepsE
  rw [h, e]
  by_cases hl : l.length ≤ 6
  · rw [if_pos hl, if_pos (by simp [fstE, unl]; omega)]
  · rw [if_neg hl, if_neg (by simp [fstE, unl]; omega)]
    have : ¬ (l.length : Int) ≤ 6 := by omega
    simp [fstE, unl, this]
theorem carried_box {n : Nt} {b : Bx} {m : Mv} (h : netErr n = 0) (hg : (carried n.world b m).ordered = true) : boxErr n (carried n.world b m) = 0 := by
  have hw : n.world.holds (carried n.world b m) = true := by
    rw [Bx.holds_iff]
    exact ⟨⟨Int.le_max_right _ _, Int.min_le_right _ _⟩, ⟨Int.le_max_right _ _, Int.min_le_right _ _⟩, Int.le_max_right _ _, Int.min_le_right _ _⟩
  simp [boxErr, h, hg, hw, unl, fstE]
theorem after_vt {n : Nt} {b : Bx} {s : St} (h : afterE n b s = 0) : voteE n s.vt = 0 := by
  unfold afterE at h
  simp only [fst_cons] at h
  exact h.2.2.1
theorem after_voted {n : Nt} {b : Bx} {s : St} (h : afterE n b s = 0) (hg : (carried n.world b s.mv).ordered = true) : votedE n (carried n.world b s.mv) s.vt = 0 := by
  unfold votedE
  rw [carried_box (box_zero (after_ok h).1).1 hg, after_vt h]
  rfl
set_option maxHeartbeats 8000000 in
theorem r_StepErr (n : Nt) (b : Bx) (s : St) (A A' : Option Addr) (c c' : Nat) (w : World) (hn : NtIn n A c w) (hl : Sl cRd 4 w A' s.vt.rs) (h0 : afterE n b s = 0) :
    Calls Tryz.prog 46 #[vNt n.world (.slice A n.bs.length c), vBx b, vSt s A' c'] w (Ret (.int .i64 (afterX n b s)) w) := by
  have hca := Lib.hid fun (W : World) => r_Carried n.world b s.mv (.slice A n.bs.length c) W (box_ok (after_ok h0).1).in (mv_ok (after_ok h0).2.1)
  have hie := Lib.hid fun (W : World) => r_IsEmpty (carried n.world b s.mv) W
  have hil := Lib.hid fun (h : (carried n.world b s.mv).ordered = true) (W : World) => r_IsLarge (carried n.world b s.mv) W (carried_ok (net_world_ok (box_zero (after_ok h0).1).1) s.mv h)
  have hcv := Lib.hid fun (h : (carried n.world b s.mv).ordered = true) (hz : (carried n.world b s.mv).size ≤ 20000) (W : World) (hb : Below w.heap.size w W) => r_Voted n (carried n.world b s.mv) s.vt A A' c c' W (hn.below hb) (hl.below hb) (after_voted h0 h) hz
  change Hid (_ → _ → ∀ W, _ → Calls Tryz.prog 62 _ W (Ret (.tuple #[vBx (afterV n b s).1, .int .i64 (afterV n b s).2]) W)) at hcv
  have hX : Hid (afterX n b s = if (carried n.world b s.mv).ordered then (if (carried n.world b s.mv).size ≤ 20000 then (if (afterV n b s).2 = 0 then 12 else 0) else 8) else 12) := rfl
  clear hn hl h0
  generalize afterV n b s = V at *
  generalize afterX n b s = X at *
  generalize carried n.world b s.mv = g at *
  obtain ⟨vb, vk⟩ := V
  dsimp only at hcv hX
  have f1 : Hid (g.ordered = false → X = 12) := fun h => by rw [hX.out, h]; rfl
  have f2 : Hid (g.ordered = true → ¬ g.size ≤ 20000 → X = 8) := fun h h' => by rw [hX.out, if_pos h, if_neg h']
  have f3 : Hid (g.ordered = true → g.size ≤ 20000 → X = if vk = 0 then 12 else 0) := fun h h' => by rw [hX.out, if_pos h, if_pos h']
  clear hX
  generalize n.bs.length = nl at *
  unfold vSt
  generalize s.vt.rs.length = rl at *
  go_enter Tryz.func46, Tryz.ntmps46
  go_upto_region 1 with fail
  apply absB3 (w0 := w) (g0 := w.heap.size) (g1 := w.heap.size + 1) (g2 := w.heap.size + 2)
  iterate 4 (focus exact zL)
  try clear hb3
  try clear hb0
  try clear k0
  try clear k1
  try clear k2
  intro wa hb0 k0 k1 k2
  (try simp only [List.setIfInBounds_toArray, List.set_cons_zero, List.set_cons_succ] at k0 k1 k2)
  have Lk0 := k0.later
  have Fk0 := k0.laterF
  have Qk0 := k0.lt
  have Lk1 := k1.later
  have Fk1 := k1.laterF
  have Qk1 := k1.lt
  have Lk2 := k2.later
  have Fk2 := k2.laterF
  have Qk2 := k2.lt
  go_upto_region 2 with (go_at_call 43; (with_reducible refine (hca.out _).mono ?_); rintro e w4 ⟨rfl, hb3⟩; replace hb3 := bl_tt hb3)
  apply absB4 (w0 := w) (g0 := w.heap.size) (g1 := w.heap.size + 1) (g2 := w.heap.size + 2) (g3 := w4.heap.size)
  iterate 5 (focus exact zL)
  try clear hb3
  try clear Lk0
  try clear Fk0
  try clear Qk0
  try clear Lk1
  try clear Fk1
  try clear Qk1
  try clear Lk2
  try clear Fk2
  try clear Qk2
  try clear hb0
  try clear k0
  try clear k1
  try clear k2
  try clear k3
  intro wb hb0 k0 k1 k2 k3
  (try simp only [List.setIfInBounds_toArray, List.set_cons_zero, List.set_cons_succ] at k0 k1 k2 k3)
  have Lk0 := k0.later
  have Fk0 := k0.laterF
  have Qk0 := k0.lt
  have Lk1 := k1.later
  have Fk1 := k1.laterF
  have Qk1 := k1.lt
  have Lk2 := k2.later
  have Fk2 := k2.laterF
  have Qk2 := k2.lt
  have Lk3 := k3.later
  have Fk3 := k3.laterF
  have Qk3 := k3.lt
  cases ho : g.ordered
  · rw [ho] at hie
    have hX := Lib.hid (f1.out ho)
    go_wp2_with ((go_at_call 29; (with_reducible refine (hie.out _).mono ?_); rintro e w3 ⟨rfl, hb3⟩; replace hb3 := bl_tt hb3))
    go_ret
    exact ⟨by rw [hX.out] <;> rfl, hb3 _ hb0⟩
  · rw [ho] at hie
    replace hil := Lib.hid (hil.out ho)
    by_cases hz : g.size ≤ 20000
    · have hz' : decide (20000 < g.size) = false := by simp; omega
      rw [hz'] at hil
      replace hcv := Lib.hid (hcv.out ho hz)
      have hX1 : Hid (X = if vk = 0 then 12 else 0) := f3.out ho hz
      go_upto_region 4 with ((go_at_call 29; (with_reducible refine (hie.out _).mono ?_); rintro e w3 ⟨rfl, hb3⟩; replace hb3 := bl_tt hb3))
      apply absB4 (w0 := w) (g0 := w.heap.size) (g1 := w.heap.size + 1) (g2 := w.heap.size + 2) (g3 := w4.heap.size)
      iterate 5 (focus exact zL)
      try clear hb3
      try clear Lk0
      try clear Fk0
      try clear Qk0
      try clear Lk1
      try clear Fk1
      try clear Qk1
      try clear Lk2
      try clear Fk2
      try clear Qk2
      try clear Lk3
      try clear Fk3
      try clear Qk3
      try clear hb0
      try clear k0
      try clear k1
      try clear k2
      try clear k3
      intro wc hb0 k0 k1 k2 k3
      (try simp only [List.setIfInBounds_toArray, List.set_cons_zero, List.set_cons_succ] at k0 k1 k2 k3)
      have Lk0 := k0.later
      have Fk0 := k0.laterF
      have Qk0 := k0.lt
      have Lk1 := k1.later
      have Fk1 := k1.laterF
      have Qk1 := k1.lt
      have Lk2 := k2.later
      have Fk2 := k2.laterF
      have Qk2 := k2.lt
      have Lk3 := k3.later
      have Fk3 := k3.laterF
      have Qk3 := k3.lt
      go_upto_region 6 with ((go_at_call 44; (with_reducible refine (hil.out _).mono ?_); rintro e w3 ⟨rfl, hb3⟩; replace hb3 := bl_tt hb3))
      apply absB4 (w0 := w) (g0 := w.heap.size) (g1 := w.heap.size + 1) (g2 := w.heap.size + 2) (g3 := w4.heap.size)
      iterate 5 (focus exact zL)
      try clear hb3
      try clear Lk0
      try clear Fk0
      try clear Qk0
      try clear Lk1
      try clear Fk1
      try clear Qk1
      try clear Lk2
      try clear Fk2
      try clear Qk2
      try clear Lk3
      try clear Fk3
      try clear Qk3
      try clear hb0
      try clear k0
      try clear k1
      try clear k2
      try clear k3
      intro wd hb0 k0 k1 k2 k3
      (try simp only [List.setIfInBounds_toArray, List.set_cons_zero, List.set_cons_succ] at k0 k1 k2 k3)
      have Lk0 := k0.later
      have Fk0 := k0.laterF
      have Qk0 := k0.lt
      have Lk1 := k1.later
      have Fk1 := k1.laterF
      have Qk1 := k1.lt
      have Lk2 := k2.later
      have Fk2 := k2.laterF
      have Qk2 := k2.lt
      have Lk3 := k3.later
      have Fk3 := k3.laterF
      have Qk3 := k3.lt
      go_upto_region 7 with (go_at_call 62; (with_reducible refine (hcv.out _ (bl_tr hb0 (by (exact zE)))).mono ?_); rintro e w3 ⟨rfl, hb3⟩; replace hb3 := bl_tt hb3)
      apply absB3 (w0 := w) (g0 := w.heap.size) (g1 := w.heap.size + 1) (g2 := w.heap.size + 2)
      iterate 4 (focus exact zL)
      try clear hb3
      try clear Lk0
      try clear Fk0
      try clear Qk0
      try clear Lk1
      try clear Fk1
      try clear Qk1
      try clear Lk2
      try clear Fk2
      try clear Qk2
      try clear Lk3
      try clear Fk3
      try clear Qk3
      try clear hb0
      try clear k0
      try clear k1
      try clear k2
      intro we hb0 k0 k1 k2
      (try simp only [List.setIfInBounds_toArray, List.set_cons_zero, List.set_cons_succ] at k0 k1 k2)
      by_cases hv : vk = 0
      · subst hv
        go_wp2
        go_ret
        exact ⟨by rw [hX1.out] <;> rfl, hb0⟩
      · have hv' : decide (vk = 0) = false := by simp [hv]
        have hv2 : ((vk : Int) == 0) = false := by simp [hv]
        have hX2 : Hid (X = 0) := Lib.hid (by rw [hX1.out, if_neg hv])
        replace hv := Lib.hid hv
        go_wp2
        go_ret
        exact ⟨by rw [hX2.out] <;> rfl, hb0⟩
    · have hz' : decide (20000 < g.size) = true := by simp; omega
      rw [hz'] at hil
      have hX1 : Hid (X = 8) := f2.out ho (by omega)
      go_upto_region 4 with ((go_at_call 29; (with_reducible refine (hie.out _).mono ?_); rintro e w3 ⟨rfl, hb3⟩; replace hb3 := bl_tt hb3))
      apply absB4 (w0 := w) (g0 := w.heap.size) (g1 := w.heap.size + 1) (g2 := w.heap.size + 2) (g3 := w4.heap.size)
      iterate 5 (focus exact zL)
      try clear hb3
      try clear hb0
      try clear k0
      try clear k1
      try clear k2
      try clear k3
      intro wc hb0 k0 k1 k2 k3
      (try simp only [List.setIfInBounds_toArray, List.set_cons_zero, List.set_cons_succ] at k0 k1 k2 k3)
      have Lk0 := k0.later
      have Fk0 := k0.laterF
      have Qk0 := k0.lt
      have Lk1 := k1.later
      have Fk1 := k1.laterF
      have Qk1 := k1.lt
      have Lk2 := k2.later
      have Fk2 := k2.laterF
      have Qk2 := k2.lt
      have Lk3 := k3.later
      have Fk3 := k3.laterF
      have Qk3 := k3.lt
      go_wp2_with ((go_at_call 44; (with_reducible refine (hil.out _).mono ?_); rintro e w3 ⟨rfl, hb3⟩; replace hb3 := bl_tt hb3))
      go_ret
      exact ⟨by rw [hX1.out] <;> rfl, hb3 _ hb0⟩
set_option maxHeartbeats 8000000 in
theorem r_After (n : Nt) (b : Bx) (s : St) (A A' : Option Addr) (c c' : Nat) (w : World) (hn : NtIn n A c w) (hl : Sl cRd 4 w A' s.vt.rs) (h0 : afterE n b s = 0) (hx : afterX n b s = 0) :
    Calls Tryz.prog 17 #[vNt n.world (.slice A n.bs.length c), vBx b, vSt s A' c'] w (Ret (vBx (afterV n b s).1) w) := by
  have hg : (carried n.world b s.mv).ordered = true := by
    cases h : (carried n.world b s.mv).ordered
    · rw [afterX, h] at hx
      simp at hx
    · rfl
  have hz : (carried n.world b s.mv).size ≤ 20000 := by
    by_cases h : (carried n.world b s.mv).size ≤ 20000
    · exact h
    · rw [afterX, if_pos hg, if_neg h] at hx
      cases hx
  have hca := Lib.hid fun (W : World) => r_Carried n.world b s.mv (.slice A n.bs.length c) W (box_ok (after_ok h0).1).in (mv_ok (after_ok h0).2.1)
  have hcv := Lib.hid fun (W : World) (hb : Below w.heap.size w W) => r_Voted n (carried n.world b s.mv) s.vt A A' c c' W (hn.below hb) (hl.below hb) (after_voted h0 hg) hz
  change Hid (∀ W, _ → Calls Tryz.prog 62 _ W (Ret (.tuple #[vBx (afterV n b s).1, .int .i64 (afterV n b s).2]) W)) at hcv
  clear hn hl h0 hx hg hz
  generalize afterV n b s = V at *
  generalize carried n.world b s.mv = g at *
  obtain ⟨vb, vk⟩ := V
  dsimp only at hcv
  generalize n.bs.length = nl at *
  unfold vSt
  generalize s.vt.rs.length = rl at *
  go_enter Tryz.func17, Tryz.ntmps17
  go_upto_region 1 with fail
  apply absB4 (w0 := w) (g0 := w.heap.size) (g1 := w.heap.size + 1) (g2 := w.heap.size + 2) (g3 := w.heap.size + 3)
  iterate 5 (focus exact zL)
  try clear hb3
  try clear hb0
  try clear k0
  try clear k1
  try clear k2
  try clear k3
  intro wa hb0 k0 k1 k2 k3
  (try simp only [List.setIfInBounds_toArray, List.set_cons_zero, List.set_cons_succ] at k0 k1 k2 k3)
  have Lk0 := k0.later
  have Fk0 := k0.laterF
  have Qk0 := k0.lt
  have Lk1 := k1.later
  have Fk1 := k1.laterF
  have Qk1 := k1.lt
  have Lk2 := k2.later
  have Fk2 := k2.laterF
  have Qk2 := k2.lt
  have Lk3 := k3.later
  have Fk3 := k3.laterF
  have Qk3 := k3.lt
  refine wp_any (w0 := wa) ⟨[17, 18], [15], [some 10, some 11, some 12, some 13, some 14, some 15, some 16, some 17, some 18, some 19, some 20, some 21, some 22, some 9, some 23, some 24, some 7, none, none], [[], [], [], [], [3], [1, 2, 3, 4], [], [6], [6, 7], [], [9], [9, 10], [0, 1, 2, 3, 4, 5, 6, 7, 8, 9, 10, 11], [0, 1, 2, 3, 4, 5, 6, 7, 8, 9, 10, 11, 12], [0, 1, 2, 3, 4, 5, 6, 7, 8, 9, 10, 11, 12, 13], [0, 1, 2, 3, 4, 5, 6, 7, 8, 9, 10, 11, 12, 13], [], [0, 1, 2, 3, 4, 5, 6, 7, 8, 9, 10, 11, 12, 13, 14, 16], [0, 1, 2, 3, 4, 5, 6, 7, 8, 9, 10, 11, 12, 13, 14, 15, 16, 17]], [[], [], [], [], [3], [1, 2, 4], [], [6], [7], [], [9], [10], [0, 5, 8, 11], [12], [13], [13], [], [], []]⟩ (fun γ => [(γ 16).n]) (by kernel_rfl) (by kernel_rfl) (by (exact zE)) (fun u => by simp only [putD, Act.put, List.setIfInBounds_toArray, List.set_cons_zero, List.set_cons_succ, Nat.zero_add, Nat.reduceAdd]; rfl) ?_
  apply RGW.on (i := 0) rfl
  · exact zG
  · intro γ u W hcur hd
    clear hd
    (try dsimp only)
    exact ⟨rfl, zS⟩
  · exact zC
  · rfl
  dsimp only [nA, cA]
  apply RGW.on (i := 1) rfl
  · exact zG
  · intro γ u W hcur hd
    clear hd
    (try dsimp only)
    exact ⟨rfl, zS⟩
  · exact zC
  · rfl
  dsimp only [nA, cA]
  apply RGW.on (i := 2) rfl
  · exact zG
  · intro γ u W hcur hd
    clear hd
    (try dsimp only)
    exact ⟨rfl, zS⟩
  · exact zC
  · rfl
  dsimp only [nA, cA]
  apply RGW.on (i := 3) rfl
  · exact zG
  · intro γ u W hcur hd
    clear hd
    (try dsimp only)
    exact ⟨rfl, zS⟩
  · exact zC
  · rfl
  dsimp only [nA, cA]
  apply RGW.on (i := 4) rfl
  · exact zG
  · intro γ u W hcur hd
    obtain ⟨⟨h3, -, -⟩, -⟩ := hd
    dsimp only at h3
    (try simp only [h3])
    exact ⟨rfl, zS⟩
  · exact zC
  · rfl
  dsimp only [nA, cA]
  apply RGW.call (i := 5) rfl
  · exact zG
  · intro γ u W hcur hd
    obtain ⟨⟨h1, -, -⟩, ⟨h2, -, -⟩, ⟨h4, -, -⟩, -⟩ := hd
    dsimp only at h1 h2 h4
    (try simp only [h1, h2, h4])
    refine ⟨rfl, fun K hK => ?_⟩
    go_simp
    (go_at_call 43; (with_reducible refine (hca.out _).mono ?_); rintro e w3 ⟨rfl, hb3⟩; replace hb3 := bl_tt hb3)
    (try dsimp only)
    exact hK.out _ _ rfl (by (exact zE))
  · exact zC
  · rfl
  dsimp only [nA, cA]
  apply RGW.on (i := 6) rfl
  · exact zG
  · intro γ u W hcur hd
    clear hd
    (try dsimp only)
    exact ⟨rfl, zS⟩
  · exact zC
  · rfl
  dsimp only [nA, cA]
  apply RGW.on (i := 7) rfl
  · exact zG
  · intro γ u W hcur hd
    obtain ⟨⟨h6, -, -⟩, -⟩ := hd
    dsimp only at h6
    (try simp only [h6])
    exact ⟨rfl, zS⟩
  · exact zC
  · rfl
  dsimp only [nA, cA]
  apply RGW.on (i := 8) rfl
  · exact zG
  · intro γ u W hcur hd
    obtain ⟨⟨h7, -, -⟩, -⟩ := hd
    dsimp only at h7
    (try simp only [h7])
    exact ⟨rfl, zS⟩
  · exact zC
  · rfl
  dsimp only [nA, cA]
  apply RGW.on (i := 9) rfl
  · exact zG
  · intro γ u W hcur hd
    clear hd
    (try dsimp only)
    exact ⟨rfl, zS⟩
  · exact zC
  · rfl
  dsimp only [nA, cA]
  apply RGW.on (i := 10) rfl
  · exact zG
  · intro γ u W hcur hd
    obtain ⟨⟨h9, -, -⟩, -⟩ := hd
    dsimp only at h9
    (try simp only [h9])
    exact ⟨rfl, zS⟩
  · exact zC
  · rfl
  dsimp only [nA, cA]
  apply RGW.on (i := 11) rfl
  · exact zG
  · intro γ u W hcur hd
    obtain ⟨⟨h10, -, -⟩, -⟩ := hd
    dsimp only at h10
    (try simp only [h10])
    exact ⟨rfl, zS⟩
  · exact zC
  · rfl
  dsimp only [nA, cA]
  apply RGW.call (i := 12) rfl
  · exact zG
  · intro γ u W hcur hd
    obtain ⟨⟨h0, -, -⟩, ⟨h5, -, -⟩, ⟨h8, -, -⟩, ⟨h11, -, -⟩, -⟩ := hd
    dsimp only at h0 h5 h8 h11
    (try simp only [h0, h5, h8, h11])
    refine ⟨rfl, fun K hK => ?_⟩
    go_simp
    (go_at_call 62; (with_reducible refine (hcv.out _ (bl_tr hb0 (by (exact zE)))).mono ?_); rintro e w3 ⟨rfl, hb3⟩; replace hb3 := bl_tt hb3)
    (try dsimp only)
    exact hK.out _ _ rfl (by (exact zE))
  · exact zC
  · rfl
  dsimp only [nA, cA]
  apply RGW.on (i := 13) rfl
  · exact zG
  · intro γ u W hcur hd
    obtain ⟨⟨h12, -, -⟩, -⟩ := hd
    dsimp only at h12
    (try simp only [h12])
    exact ⟨rfl, zS⟩
  · exact zC
  · rfl
  dsimp only [nA, cA]
  apply RGW.on (i := 14) rfl
  · exact zG
  · intro γ u W hcur hd
    obtain ⟨⟨h13, -, -⟩, -⟩ := hd
    dsimp only at h13
    (try simp only [h13])
    exact ⟨rfl, zS⟩
  · exact zC
  · rfl
  dsimp only [nA, cA]
  apply RGW.onL (i := 15) rfl
  · exact zG
  · intro γ u Wm W hcur hd hX
    obtain ⟨⟨h13, -, -⟩, -⟩ := hd
    dsimp only at h13
    (try simp only [h13])
    exact ⟨rfl, zS⟩
  · exact zC
  dsimp only [nA, cA]
  apply RGW.alloc (i := 16) rfl
  · exact zG
  · intro γ u W hcur hd
    clear hd
    (try dsimp only)
    refine ⟨rfl, fun K hK => ?_⟩
    go_simp
    exact hK.out _ _ rfl rfl
  · exact zC
  · rfl
  · rfl
  dsimp only [nA, cA]
  refine RGW.skip (i := 17) rfl rfl ?_
  dsimp only [nA, cA]
  refine RGW.skip (i := 18) rfl rfl ?_
  dsimp only [nA, cA]
  refine RGW.fin (fun γ u wb hwb hd hdis => ?_)
  obtain ⟨⟨h0, -, -⟩, ⟨h1, -, -⟩, ⟨h2, -, -⟩, ⟨h3, -, -⟩, ⟨h4, -, -⟩, ⟨h5, -, -⟩, ⟨h6, -, -⟩, ⟨h7, -, -⟩, ⟨h8, -, -⟩, ⟨h9, -, -⟩, ⟨h10, -, -⟩, ⟨h11, -, -⟩, ⟨h12, -, -⟩, ⟨h13, -, -⟩, ⟨h14, -, -⟩, ⟨h15, -, -⟩, ⟨h16, r16, b16⟩, -⟩ := hd
  dsimp only at h0 h1 h2 h3 h4 h5 h6 h7 h8 h9 h10 h11 h12 h13 h14 h15 h16 r16 b16
  clear hdis
  simp only [h0, h1, h2, h3, h4, h5, h6, h7, h8, h9, h10, h11, h12, h13, h14, h15, h16]
  clear h16 h15 h14 h13 h12 h11 h10 h9 h8 h7 h6 h5 h4 h3 h2 h1 h0
  replace b16 := b16 _ (List.mem_singleton.2 rfl)
  generalize hγ16 : (γ 16).n = g16 at *
  clear hγ16
  clear u
  simp only [List.map_cons, List.map_nil]
  apply PlanW.step
  · exact zG
  · rfl
  intro K hK
  refine wp_store_keep (X := [g16]) (w0 := wb) rfl rfl rfl (by with_reducible first | exact bx_refl _ _ | assumption) (by with_reducible first | assumption | (apply Blk.below (hb := hwb); assumption)) (by simp) (by kernel_rfl) (by rfl) (by simp [Value.oneCell']) (fun hres1 hcur => ?_)
  refine hK.out _ _ hcur (fun _ => ?_)
  clear hK K
  try simp only [Act.put, List.setIfInBounds_toArray, List.set_cons_zero, List.set_cons_succ]
  apply PlanW.step
  · exact zG
  · rfl
  intro K hK
  go_simp
  refine hK.out _ _ (by (exact zX)) (fun hcur => ?_)
  clear hK K
  try simp only [Act.put, List.setIfInBounds_toArray, List.set_cons_zero, List.set_cons_succ]
  refine PlanW.done ?_
  have hb3 := bl_tt hwb
  apply absTB5 (w0 := w) (g0 := w.heap.size) (g1 := w.heap.size + 1) (g2 := w.heap.size + 2) (g3 := w.heap.size + 3) (g4 := g16)
  iterate 6 (focus exact zL)
  try clear hb3
  try clear Lk0
  try clear Fk0
  try clear Qk0
  try clear Lk1
  try clear Fk1
  try clear Qk1
  try clear Lk2
  try clear Fk2
  try clear Qk2
  try clear Lk3
  try clear Fk3
  try clear Qk3
  try clear hb0
  try clear k0
  try clear k1
  try clear k2
  try clear k3
  try clear k4
  intro wc hb0 k0 k1 k2 k3 k4
  (try simp only [List.setIfInBounds_toArray, List.set_cons_zero, List.set_cons_succ] at k0 k1 k2 k3 k4)
  have Lk0 := k0.later
  have Fk0 := k0.laterF
  have Qk0 := k0.lt
  have Lk1 := k1.later
  have Fk1 := k1.laterF
  have Qk1 := k1.lt
  have Lk2 := k2.later
  have Fk2 := k2.laterF
  have Qk2 := k2.lt
  have Lk3 := k3.later
  have Fk3 := k3.laterF
  have Qk3 := k3.lt
  have Lk4 := k4.later
  have Fk4 := k4.laterF
  have Qk4 := k4.lt
  go_wp2
  apply absPB4 (w0 := w) (g0 := w.heap.size) (g1 := w.heap.size + 1) (g2 := w.heap.size + 2) (g3 := w.heap.size + 3)
  iterate 5 (focus exact zL)
  try clear hb3
  try clear Lk0
  try clear Fk0
  try clear Qk0
  try clear Lk1
  try clear Fk1
  try clear Qk1
  try clear Lk2
  try clear Fk2
  try clear Qk2
  try clear Lk3
  try clear Fk3
  try clear Qk3
  try clear Lk4
  try clear Fk4
  try clear Qk4
  try clear hb0
  try clear k0
  try clear k1
  try clear k2
  try clear k3
  intro wf hb0 k0 k1 k2 k3
  (try simp only [List.setIfInBounds_toArray, List.set_cons_zero, List.set_cons_succ] at k0 k1 k2 k3)
  have hr := k3.cell
  refine bodyPost_ret (v := vBx vb) (by simp [results, Tryz.results17, go_sem, hr]) rfl ⟨rfl, hb0⟩
theorem fst_z {l : List Int} : fstE (0 :: l) = fstE l := by rw [fstE, if_pos rfl]
def stepsErr (n : Nt) (b : Bx) (l : List St) : Int := if boxErr n b = 0 then (stepsChk n l).2 else boxErr n b
set_option maxHeartbeats 8000000 in
theorem r_StepsErr (n : Nt) (b : Bx) (l : List StA) (A A' : Option Addr) (c c' : Nat) (w : World) (hn : NtIn n A c w) (hl : StsIn l A' w) (hll : few1 l) (hlb : n.bs.length ≤ 1000) :
    Calls Tryz.prog 26 #[vNt n.world (.slice A n.bs.length c), vBx b, .slice A' l.length c'] w (Ret (.int .i64 (stepsErr n b (l.map (·.s)))) w) := by
  have hbe := Lib.hid fun (W : World) (hb : Below w.heap.size w W) => r_BoxErr n b A c W (hn.below hb)
  have hcs := Lib.hid fun (W : World) (hb : Below w.heap.size w W) => r_CheckSteps n.world n.bs.length l A A' c c' W (hl.below hb) hll hlb
  have e1 : Hid (boxErr n b ≠ 0 → stepsErr n b (l.map (·.s)) = boxErr n b) := fun h => by rw [stepsErr, if_neg h]
  have e2 : Hid (boxErr n b = 0 → stepsErr n b (l.map (·.s)) = (refSteps n.bs.length (l.map (·.s))).2) := fun h => by rw [stepsErr, if_pos h, steps_ref (box_zero h).1]
  clear hn hl hll
  generalize stepsErr n b (l.map (·.s)) = R at *
  generalize refSteps n.bs.length (l.map (·.s)) = Q at *
  generalize n.bs.length = nl at *
  generalize l.length = ll at *
  generalize boxErr n b = be at *
  go_enter Tryz.func26, Tryz.ntmps26
  go_upto_region 1 with fail
  apply absB2 (w0 := w) (g0 := w.heap.size) (g1 := w.heap.size + 1)
  iterate 3 (focus exact zL)
  try clear hb3
  try clear hb0
  try clear k0
  try clear k1
  intro wa hb0 k0 k1
  (try simp only [List.setIfInBounds_toArray, List.set_cons_zero, List.set_cons_succ] at k0 k1)
  have Lk0 := k0.later
  have Fk0 := k0.laterF
  have Qk0 := k0.lt
  have Lk1 := k1.later
  have Fk1 := k1.laterF
  have Qk1 := k1.lt
  go_upto_region 2 with (go_at_call 61; (with_reducible refine (hbe.out _ (bl_tr hb0 (by (exact zE)))).mono ?_); rintro e w3 ⟨rfl, hb3⟩; replace hb3 := bl_tt hb3)
  apply absB2 (w0 := w) (g0 := w.heap.size) (g1 := w.heap.size + 1)
  iterate 3 (focus exact zL)
  try clear hb3
  try clear Lk0
  try clear Fk0
  try clear Qk0
  try clear Lk1
  try clear Fk1
  try clear Qk1
  try clear hb0
  try clear k0
  try clear k1
  intro wb hb0 k0 k1
  (try simp only [List.setIfInBounds_toArray, List.set_cons_zero, List.set_cons_succ] at k0 k1)
  have Lk0 := k0.later
  have Fk0 := k0.laterF
  have Qk0 := k0.lt
  have Lk1 := k1.later
  have Fk1 := k1.laterF
  have Qk1 := k1.lt
  by_cases h0 : be = 0
  · subst h0
    have hR := Lib.hid (e2.out (by simp))
    clear e1 e2
    go_wp2_with (go_at_call 13; (with_reducible refine (hcs.out _ (bl_tr hb0 (by (exact zE)))).mono ?_); rintro e w3 ⟨rfl, hb3⟩; replace hb3 := bl_tt hb3)
    go_ret
    exact ⟨by rw [hR.out] <;> rfl, hb3 _ hb0⟩
  · have h0' : (be != 0) = true := by simp [h0]
    have hR := Lib.hid (e1.out h0)
    clear e1 e2 h0
    go_wp2
    go_ret
    exact ⟨by rw [hR.out] <;> rfl, hb0⟩
end Go.Proofs.YtephimmamkafoaaGreat
namespace Go.Proofs.YtephimmamkafoaaGreat
theorem snoc_ind {α : Type} {P : List α → Prop} (h0 : P []) (hs : ∀ l a, P l → P (l ++ [a])) (l : List α) : P l := by
  have h : ∀ m : List α, P m.reverse := fun m => by
    induction m with
    | nil => exact h0
    | cons a m ih => rw [List.reverse_cons]; exact hs _ _ ih
  have := h l.reverse
  rwa [List.reverse_reverse] at this
/-- A box within another. -/
def Bx.sub (a B : Bx) : Prop := (B.x.lo ≤ a.x.lo ∧ a.x.hi ≤ B.x.hi) ∧ (B.y.lo ≤ a.y.lo ∧ a.y.hi ≤ B.y.hi) ∧ B.z.lo ≤ a.z.lo ∧ a.z.hi ≤ B.z.hi
theorem has_iff {a : Bx} {p : Pl} : a.has p = true ↔ (a.x.lo ≤ p.x ∧ p.x ≤ a.x.hi) ∧ (a.y.lo ≤ p.y ∧ p.y ≤ a.y.hi) ∧ a.z.lo ≤ p.z ∧ p.z ≤ a.z.hi := by
  unfold Bx.has
  simp only [Bool.and_eq_true, inR_iff]
  exact ⟨fun h => ⟨h.1.1, h.1.2, h.2⟩, fun h => ⟨⟨h.1, h.2.1⟩, h.2.2⟩⟩
theorem Bx.sub.has {a B : Bx} (h : a.sub B) {p : Pl} (hp : a.has p = true) : B.has p = true := by
  rw [has_iff] at hp ⊢
  obtain ⟨h1, h2, h3⟩ := h
  omega
theorem join_has {a : Bx} {p q : Pl} : (a.has p = true → (a.join q.one).has p = true) ∧ (a.join q.one).has q = true := by
  simp only [has_iff, Bx.join, Rg.join, Pl.one]
  omega
theorem one_has (q : Pl) : q.one.has q = true := by
  simp only [has_iff, Pl.one]
  omega
theorem votes_inv (ok : Pl → Bool) (ps : List Pl) : (votesOf ok ps).2 = ps.countP ok ∧ ((votesOf ok ps).2 ≠ 0 → (∀ p ∈ ps, ok p = true → (votesOf ok ps).1.has p = true) ∧ ∀ B : Bx, (∀ p ∈ ps, ok p = true → B.has p = true) → (votesOf ok ps).1.sub B) := by
  induction ps using snoc_ind with
  | h0 => exact ⟨rfl, fun h => absurd rfl h⟩
  | hs ps q ih =>
    obtain ⟨h1, h2⟩ := ih
    rw [votesOf_snoc, voteF, List.countP_append, List.countP_cons, List.countP_nil]
    by_cases hq : ok q = true
    · rw [if_pos hq]
      refine ⟨by simp [hq, h1], fun _ => ?_⟩
      by_cases h0 : (votesOf ok ps).2 = 0
      · rw [if_pos h0]
        have hn : ∀ p ∈ ps, ¬ ok p = true := by
          rw [h1] at h0
          exact List.countP_eq_zero.1 h0
        refine ⟨fun p hp hk => ?_, fun B hB => ?_⟩
        · rcases List.mem_append.1 hp with h | h
          · exact absurd hk (hn p h)
          · rw [List.mem_singleton.1 h]
            exact one_has q
        · have := has_iff.1 (hB q (by simp) hq)
          unfold Bx.sub Pl.one
          dsimp only
          omega
      · rw [if_neg h0]
        obtain ⟨h3, h4⟩ := h2 h0
        refine ⟨fun p hp hk => ?_, fun B hB => ?_⟩
        · rcases List.mem_append.1 hp with h | h
          · exact join_has.1 (h3 p h hk)
          · rw [List.mem_singleton.1 h]
            exact (join_has (p := q)).2
        · have ha := has_iff.1 (hB q (by simp) hq)
          obtain ⟨b1, b2, b3⟩ := h4 B fun p hp hk => hB p (List.mem_append_left _ hp) hk
          unfold Bx.sub Bx.join Rg.join Pl.one
          dsimp only
          omega
    · rw [if_neg hq]
      refine ⟨by simp [hq, h1], fun h0 => ?_⟩
      obtain ⟨h3, h4⟩ := h2 h0
      refine ⟨fun p hp hk => ?_, fun B hB => h4 B fun p hp hk => hB p (List.mem_append_left _ hp) hk⟩
      rcases List.mem_append.1 hp with h | h
      · exact h3 p h hk
      · rw [List.mem_singleton.1 h] at hk
        exact absurd hk hq
end Go.Proofs.YtephimmamkafoaaGreat
