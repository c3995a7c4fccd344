/-
  Walk: whether steps are few, and their boxes are not searched for long.
  Walks: the reference's tracks: their errors, their boxes; whether two lists of boxes are the same.
-/
import Derived.Test.YtephimmamkafoaaGreatUH2
import Derived.Test.YtephimmamkafoaaGreatUH1
set_option linter.unusedSimpArgs false
set_option linter.unusedVariables false
namespace Go.Proofs.YtephimmamkafoaaGreat
open Go.RowKit Go.Shelf
attribute [local go_sem] bl_al bl_drew bl_drewN bl_refl bx_al bx_drew bx_drewN bx_refl
set_option maxRecDepth 20000
/-- The box after a step is a valid one. -/
theorem after_box {n : Nt} {b : Bx} {s : St} (h : netErr n = 0) (hx : afterX n b s = 0) : boxErr n (afterV n b s).1 = 0 := by
  have hg : (carried n.world b s.mv).ordered = true := by
    cases h : (carried n.world b s.mv).ordered
    · rw [afterX, h] at hx
      simp at hx
    · rfl
  have hne : (afterV n b s).2 ≠ 0 := by
    intro h0
    rw [afterX, if_pos hg, if_pos h0] at hx
    split at hx <;> cases hx
  have hi := (votes_inv (okB n.bs s.vt.rs s.vt.wrong) (carried n.world b s.mv).pts)
  have h2 := hi.2 hne
  have hc : (afterV n b s).2 = (carried n.world b s.mv).pts.countP (okB n.bs s.vt.rs s.vt.wrong) := hi.1
  have hex : ∃ p ∈ (carried n.world b s.mv).pts, okB n.bs s.vt.rs s.vt.wrong p = true := by
    rcases Nat.eq_zero_or_pos ((carried n.world b s.mv).pts.countP (okB n.bs s.vt.rs s.vt.wrong)) with h0 | h0
    · omega
    · exact List.countP_pos_iff.1 h0
  obtain ⟨p, hp, hok⟩ := hex
  have h3 : (afterV n b s).1.has p = true := h2.1 p hp hok
  have h4 : (afterV n b s).1.sub (carried n.world b s.mv) := h2.2 _ fun q hq _ => mem_pts.1 hq
  have h5 := (box_zero (carried_box h hg)).2.2
  have ho : (afterV n b s).1.ordered = true := by
    rw [has_iff] at h3
    rw [Bx.ordered_iff]
    omega
  have hw : n.world.holds (afterV n b s).1 = true := by
    rw [Bx.holds_iff] at h5 ⊢
    unfold Bx.sub at h4
    omega
  simp [boxErr, h, ho, hw, unl, fstE]
theorem steps_zero {n : Nt} {b : Bx} {l : List StA} (h : stepsErr n b (l.map (·.s)) = 0) : boxErr n b = 0 ∧ ∀ (k : Nat) (x : StA), l[k]? = some x → mvErr x.s.mv = 0 ∧ voteE n x.s.vt = 0 := by
  by_cases h0 : boxErr n b = 0
  · refine ⟨h0, fun k x hx => ?_⟩
    rw [stepsErr, if_pos h0, stepsChk] at h
    by_cases h1 : stepsE n (l.map (·.s)).length = 0
    · rw [if_pos h1, eachS_map] at h
      have h2 := eachS_zero h k x hx
      unfold stErr at h2
      simp only [fst_cons] at h2
      exact ⟨h2.1, h2.2.1⟩
    · rw [if_neg h1] at h
      exact absurd h h1
  · rw [stepsErr, if_neg h0] at h
    exact absurd h h0
theorem afterE_zero {n : Nt} {b : Bx} {s : St} (h : boxErr n b = 0) (h1 : mvErr s.mv = 0) (h2 : voteE n s.vt = 0) : afterE n b s = 0 := by simp [afterE, fstE, h, h1, h2]
def few2 (l : List StA) : Prop := l.length ≤ 8 ∧ ∀ x ∈ l, x.s.vt.rs.length ≤ 10
theorem few2.few1 {l : List StA} (h : few2 l) : few1 l := ⟨by have := h.1; omega, fun x hx => by have := h.2 x hx; omega⟩
set_option maxHeartbeats 16000000 in
theorem r_lightSteps (n : Nt) (b : Bx) (l : List StA) (A A' : Option Addr) (c c' : Nat) (w : World) (hn : NtIn n A c w) (hlb : n.bs.length ≤ 1000) (hl : StsIn l A' w) :
    Calls Tryz.prog 8 #[vNt n.world (.slice A n.bs.length c), vBx b, .slice A' l.length c'] w (fun e w' => ∃ B, e = .returned (.bool B) ∧ Below w.heap.size w w' ∧ (B = true → few2 l)) := by
  have hfe := Lib.hid fun (W : World) (x : StA) => r_few n A x.A c x.c x.s.vt.rs.length W
  have hse := Lib.hid fun (hf : few2 l) (W : World) (hb : Below w.heap.size w W) => r_StepsErr n b l A A' c c' W (hn.below hb) (hl.below hb) hf.few1 hlb
  have hca := Lib.hid fun (b' : Bx) (m : Mv) (h : boxErr n b' = 0) (h' : mvErr m = 0) (W : World) => r_Carried n.world b' m (.slice A n.bs.length c) W (box_ok h).in (mv_ok h')
  have hil := Lib.hid fun (g : Bx) (h : boxErr n g = 0) (W : World) => r_IsLarge g W (box_ok h)
  have hli := Lib.hid fun (g : Bx) (W : World) (hb : Below w.heap.size w W) => r_light n g A c W (hn.below hb)
  have hte := Lib.hid fun (b' : Bx) (x : StA) (hx : x ∈ l) (h : afterE n b' x.s = 0) (W : World) (hb : Below w.heap.size w W) => r_StepErr n b' x.s A x.A c x.c W (hn.below hb) ((hl.rd x hx).below hb) h
  have haf := Lib.hid fun (b' : Bx) (x : StA) (hx : x ∈ l) (h : afterE n b' x.s = 0) (h' : afterX n b' x.s = 0) (W : World) (hb : Below w.heap.size w W) => r_After n b' x.s A x.A c x.c W (hn.below hb) ((hl.rd x hx).below hb) h h'
  have hz := Lib.hid fun h : stepsErr n b (l.map (·.s)) = 0 => steps_zero h
  have Hl := Lib.hid hl
  clear hn hl
  generalize stepsErr n b (l.map (·.s)) = SE at *
  generalize n.bs.length = nl at *
  obtain ⟨ll, Hn⟩ : ∃ k, Hid (l.length = k) := ⟨_, rfl⟩
  have hf2 : Hid (ll ≤ 8 → (∀ k, k < ll → ∀ x, l[k]? = some x → x.s.vt.rs.length ≤ 10) → few2 l) := fun h h' => ⟨by rw [Hn.out]; exact h, fun x hx => by
    obtain ⟨i, hi, e⟩ := List.getElem_of_mem hx
    exact h' i (by rw [← Hn.out]; exact hi) x (by rw [List.getElem?_eq_getElem hi, e])⟩
  rw [Hn.out] at hse ⊢
  go_enter Tryz.func8, Tryz.ntmps8
  go_upto_region 1 with fail
  apply absB2 (w0 := w) (g0 := w.heap.size) (g1 := w.heap.size + 1)
  iterate 3 (focus exact zL)
  try clear hb3
  try clear hb0
  try clear k0
  try clear k1
  intro wa hb0 k0 k1
  (try simp only [List.setIfInBounds_toArray, List.set_cons_zero, List.set_cons_succ] at k0 k1)
  have Lk0 := k0.later
  have Fk0 := k0.laterF
  have Qk0 := k0.lt
  have Lk1 := k1.later
  have Fk1 := k1.laterF
  have Qk1 := k1.lt
  by_cases h8 : ll ≤ 8
  case neg =>
    have h8' : decide (8 < ll) = true := by simp; omega
    go_wp2
    go_ret
    exact ⟨false, rfl, hb0, fun h => by cases h⟩
  have h8' : decide (8 < ll) = false := by simp; omega
  replace hf2 := Lib.hid (hf2.out h8)
  clear Lk0 Lk1 Fk0 Fk1
  go_wp2
  go_loopw [7] (fun i wr => ∃ k : Nat, k ≤ ll ∧ i = .int .i64 k ∧ Below w.heap.size w wr ∧ Blk wr w.heap.size 28 (aNt n.world (.slice A nl c)) ∧ Blk wr (w.heap.size + 1) 25 (aBx b) ∧ ∀ j, j < k → ∀ x, l[j]? = some x → x.s.vt.rs.length ≤ 10) (fun i _ => ll - (intOf i).toNat)
  case atStart => exact ⟨0, Nat.zero_le _, rfl, hb0, k0, k1, fun j hj => by omega⟩
  case round =>
    clear k0 k1 hb0
    obtain ⟨k, hk, rfl, hb0, k0, k1, hall⟩ := hrel
    have Lk0 := k0.later
    have Fk0 := k0.laterF
    have Qk0 := k0.lt
    have Lk1 := k1.later
    have Fk1 := k1.laterF
    have Qk1 := k1.lt
    by_cases hlt : k < ll
    · have hx : l[k]? = some (l[k]'(by rw [Hn.out]; exact hlt)) := List.getElem?_eq_getElem _
      generalize l[k]'(by rw [Hn.out]; exact hlt) = x at hx
      obtain ⟨bb, off, hA, hc⟩ := Hl.out.sl k x hx
      have hfx := Lib.hid fun W => hfe.out W x
      replace hall := Lib.hid hall
      replace hx := Lib.hid hx
      have c7 : ∀ W, Below _ _ W → W.cell? ⟨bb, off + k * 9 + 7, none⟩ = some (.slice x.A x.s.vt.rs.length x.c) := later (kcell hb0 (hc 7 _ rfl))
      clear hc
      subst hA
      obtain ⟨F, hF⟩ : ∃ F, (decide (nl ≤ 8) && decide (x.s.vt.rs.length ≤ 10)) = F := ⟨_, rfl⟩
      rw [hF] at hfx
      replace hF := Lib.hid hF
      go_upto_region 6 with fail
      refine wp_any (w0 := wr) ⟨[], [], [some 19, some 20, some 21, some 22, some 23, some 24, some 25, some 26, some 27], [[], [], [], [1, 2], [1, 2, 3], [1, 2, 3, 4], [1, 2, 3, 4, 5], [0, 1, 2, 3, 4, 5, 6], [0, 1, 2, 3, 4, 5, 6, 7]], [[], [], [], [1, 2], [3], [4], [5], [0, 6], [7]]⟩ (fun _ => []) (by kernel_rfl) (by kernel_rfl) (by (exact zE)) (fun u => by simp only [putD, Act.put, List.setIfInBounds_toArray, List.set_cons_zero, List.set_cons_succ, Nat.zero_add, Nat.reduceAdd]; rfl) ?_
      apply RGW.on (i := 0) rfl
      · exact zG
      · intro γ u W hcur hd
        clear hd
        (try dsimp only)
        exact ⟨rfl, zS⟩
      · exact zC
      · rfl
      dsimp only [nA, cA]
      apply RGW.on (i := 1) rfl
      · exact zG
      · intro γ u W hcur hd
        clear hd
        (try dsimp only)
        exact ⟨rfl, zS⟩
      · exact zC
      · rfl
      dsimp only [nA, cA]
      apply RGW.on (i := 2) rfl
      · exact zG
      · intro γ u W hcur hd
        clear hd
        (try dsimp only)
        exact ⟨rfl, zS⟩
      · exact zC
      · rfl
      dsimp only [nA, cA]
      apply RGW.on (i := 3) rfl
      · exact zG
      · intro γ u W hcur hd
        obtain ⟨⟨h1, -, -⟩, ⟨h2, -, -⟩, -⟩ := hd
        dsimp only at h1 h2
        (try simp only [h1, h2])
        exact ⟨rfl, zS⟩
      · exact zC
      · rfl
      dsimp only [nA, cA]
      apply RGW.on (i := 4) rfl
      · exact zG
      · intro γ u W hcur hd
        obtain ⟨⟨h3, -, -⟩, -⟩ := hd
        dsimp only at h3
        (try simp only [h3])
        exact ⟨rfl, zS⟩
      · exact zC
      · rfl
      dsimp only [nA, cA]
      apply RGW.on (i := 5) rfl
      · exact zG
      · intro γ u W hcur hd
        obtain ⟨⟨h4, -, -⟩, -⟩ := hd
        dsimp only at h4
        (try simp only [h4])
        exact ⟨rfl, zS⟩
      · exact zC
      · rfl
      dsimp only [nA, cA]
      apply RGW.on (i := 6) rfl
      · exact zG
      · intro γ u W hcur hd
        obtain ⟨⟨h5, -, -⟩, -⟩ := hd
        dsimp only at h5
        (try simp only [h5])
        exact ⟨rfl, zS⟩
      · exact zC
      · rfl
      dsimp only [nA, cA]
      apply RGW.call (i := 7) rfl
      · exact zG
      · intro γ u W hcur hd
        obtain ⟨⟨h0, -, -⟩, ⟨h6, -, -⟩, -⟩ := hd
        dsimp only at h0 h6
        (try simp only [h0, h6])
        refine ⟨rfl, fun K hK => ?_⟩
        go_simp
        (go_at_call 7; (with_reducible refine (hfx.out _).mono ?_); rintro e w3 ⟨rfl, hb3⟩; replace hb3 := bl_tt hb3)
        (try dsimp only)
        exact hK.out _ _ rfl (by (exact zE))
      · exact zC
      · rfl
      dsimp only [nA, cA]
      apply RGW.on (i := 8) rfl
      · exact zG
      · intro γ u W hcur hd
        obtain ⟨⟨h7, -, -⟩, -⟩ := hd
        dsimp only at h7
        (try simp only [h7])
        exact ⟨rfl, zS⟩
      · exact zC
      · rfl
      dsimp only [nA, cA]
      refine RGW.fin (fun γ u wb hwb hd hdis => ?_)
      obtain ⟨⟨h0, -, -⟩, ⟨h1, -, -⟩, ⟨h2, -, -⟩, ⟨h3, -, -⟩, ⟨h4, -, -⟩, ⟨h5, -, -⟩, ⟨h6, -, -⟩, ⟨h7, -, -⟩, ⟨h8, -, -⟩, -⟩ := hd
      dsimp only at h0 h1 h2 h3 h4 h5 h6 h7 h8
      clear hdis
      simp only [h0, h1, h2, h3, h4, h5, h6, h7, h8]
      clear h8 h7 h6 h5 h4 h3 h2 h1 h0
      clear u
      simp only [List.map_nil]
      refine PlanW.done ?_
      have hb3 := bl_tt hwb
      clear c7
      apply absTB2 (w0 := w) (g0 := w.heap.size) (g1 := w.heap.size + 1)
      iterate 3 (focus exact zL)
      try clear hb3
      try clear Lk0
      try clear Fk0
      try clear Qk0
      try clear Lk1
      try clear Fk1
      try clear Qk1
      try clear hb0
      try clear k0
      try clear k1
      intro wc hb0 k0 k1
      (try simp only [List.setIfInBounds_toArray, List.set_cons_zero, List.set_cons_succ] at k0 k1)
      cases F
      · go_wp2
        go_ret
        exact ⟨false, rfl, hb0, fun h => by cases h⟩
      · go_wp2
        go_roundw
        case rel => exact ⟨k + 1, by omega, by go_num, hb0, k0, k1, fun j hj y hy => by
          by_cases e : j = k
          · subst e
            rw [hx.out] at hy
            injection hy with hy
            subst hy
            have := hF.out
            simp only [Bool.and_eq_true, decide_eq_true_eq] at this
            exact this.2
          · exact hall.out j (by omega) y hy⟩
        case measure => simp [intOf]; omega
    · obtain rfl : k = ll := by omega
      have hf := hf2.out hall
      replace hse := Lib.hid (hse.out hf)
      replace hf := Lib.hid hf
      clear hf2 hall hfe
      by_cases hS : SE = 0
      case neg =>
        have hS' : (SE != 0) = true := by simp [hS]
        replace hS := Lib.hid hS
        go_wp2_with (go_at_call 26; (with_reducible refine (hse.out _ (bl_tr hb0 (by (exact zE)))).mono ?_); rintro e w3 ⟨rfl, hb3⟩; replace hb3 := bl_tt hb3)
        go_ret
        exact ⟨true, rfl, hb3 _ hb0, fun _ => hf.out⟩
      subst hS
      obtain ⟨hz0, hz1⟩ := hz.out (by simp)
      replace hz1 := Lib.hid hz1
      go_upto_region 10 with (go_at_call 26; (with_reducible refine (hse.out _ (bl_tr hb0 (by (exact zE)))).mono ?_); rintro e w3 ⟨rfl, hb3⟩; replace hb3 := bl_tt hb3)
      apply absB2 (w0 := w) (g0 := w.heap.size) (g1 := w.heap.size + 1)
      iterate 3 (focus exact zL)
      try clear hb3
      try clear hb0
      try clear k0
      try clear k1
      intro wd hb0 k0 k1
      (try simp only [List.setIfInBounds_toArray, List.set_cons_zero, List.set_cons_succ] at k0 k1)
      have Lk0 := k0.later
      have Fk0 := k0.laterF
      have Qk0 := k0.lt
      have Lk1 := k1.later
      have Fk1 := k1.laterF
      have Qk1 := k1.lt
      clear hz hse Lk0 Lk1 Fk0 Fk1
      go_wp2
      go_loopw [8] (fun i wr => ∃ (j : Nat) (b' : Bx), j ≤ k ∧ i = .int .i64 j ∧ Below w.heap.size w wr ∧ Blk wr w.heap.size 28 (aNt n.world (.slice A nl c)) ∧ Blk wr (w.heap.size + 1) 25 (aBx b') ∧ boxErr n b' = 0) (fun i _ => k - (intOf i).toNat)
      case atStart => exact ⟨0, b, Nat.zero_le _, rfl, hb0, k0, k1, hz0⟩
      case round =>
        clear k0 k1 hb0
        obtain ⟨j, b', hj, rfl, hb0, k0, k1, hbe⟩ := hrel
        have Lk0 := k0.later
        have Fk0 := k0.laterF
        have Qk0 := k0.lt
        have Lk1 := k1.later
        have Fk1 := k1.laterF
        have Qk1 := k1.lt
        by_cases hjt : j < k
        · have hx : l[j]? = some (l[j]'(by rw [Hn.out]; exact hjt)) := List.getElem?_eq_getElem _
          generalize l[j]'(by rw [Hn.out]; exact hjt) = x at hx
          have hm : x ∈ l := List.mem_of_getElem? hx
          obtain ⟨bb, off, hA, hc⟩ := Hl.out.sl j x hx
          obtain ⟨hm1, hv1⟩ := hz1.out j x hx
          have haE := afterE_zero hbe hm1 hv1
          have hca := Lib.hid (hca.out b' x.s.mv hbe hm1)
          have hil := Lib.hid fun (h : (carried n.world b' x.s.mv).ordered = true) => hil.out (carried n.world b' x.s.mv) (carried_box (box_zero hbe).1 h)
          have hli := Lib.hid (hli.out (carried n.world b' x.s.mv))
          have hie := Lib.hid fun (W : World) => r_IsEmpty (carried n.world b' x.s.mv) W
          have hte := Lib.hid (hte.out b' x hm haE)
          have haf := Lib.hid (haf.out b' x hm haE)
          have hnb := Lib.hid (after_box (n := n) (b := b') (s := x.s) (box_zero hbe).1)
          unfold vSt at hte haf
          clear hm hm1 hv1 haE hbe
          replace hx := Lib.hid hx
          generalize afterV n b' x.s = V at *
          generalize afterX n b' x.s = X at *
          generalize carried n.world b' x.s.mv = g at *
          generalize lightB n g = L at *
          subst hA
          have c0 : ∀ W, Below _ _ W → W.cell? ⟨bb, off + j * 9, none⟩ = some (.int .i64 x.s.mv.ticks) := later (kcell hb0 (hc 0 _ rfl))
          have c1 : ∀ W, Below _ _ W → W.cell? ⟨bb, off + j * 9 + 1, none⟩ = some (.int .i64 x.s.mv.speed.x.lo) := later (kcell hb0 (hc 1 _ rfl))
          have c2 : ∀ W, Below _ _ W → W.cell? ⟨bb, off + j * 9 + 2, none⟩ = some (.int .i64 x.s.mv.speed.x.hi) := later (kcell hb0 (hc 2 _ rfl))
          have c3 : ∀ W, Below _ _ W → W.cell? ⟨bb, off + j * 9 + 3, none⟩ = some (.int .i64 x.s.mv.speed.y.lo) := later (kcell hb0 (hc 3 _ rfl))
          have c4 : ∀ W, Below _ _ W → W.cell? ⟨bb, off + j * 9 + 4, none⟩ = some (.int .i64 x.s.mv.speed.y.hi) := later (kcell hb0 (hc 4 _ rfl))
          have c5 : ∀ W, Below _ _ W → W.cell? ⟨bb, off + j * 9 + 5, none⟩ = some (.int .i64 x.s.mv.speed.z.lo) := later (kcell hb0 (hc 5 _ rfl))
          have c6 : ∀ W, Below _ _ W → W.cell? ⟨bb, off + j * 9 + 6, none⟩ = some (.int .i64 x.s.mv.speed.z.hi) := later (kcell hb0 (hc 6 _ rfl))
          go_upto_region 13 with fail
          refine wp_any (w0 := wr) ⟨[9], [], [some 39, some 40, some 41, some 42, some 43, some 44, some 45, some 46, some 9, none], [[], [], [], [], [2, 3], [2, 3, 4], [2, 3, 4, 5], [0, 1, 2, 3, 4, 5, 6], [], [0, 1, 2, 3, 4, 5, 6, 7, 8]], [[], [], [], [], [2, 3], [4], [5], [0, 1, 6], [], []]⟩ (fun γ => [(γ 8).n]) (by kernel_rfl) (by kernel_rfl) (by (exact zE)) (fun u => by simp only [putD, Act.put, List.setIfInBounds_toArray, List.set_cons_zero, List.set_cons_succ, Nat.zero_add, Nat.reduceAdd]; rfl) ?_
          apply RGW.on (i := 0) rfl
          · exact zG
          · intro γ u W hcur hd
            clear hd
            (try dsimp only)
            exact ⟨rfl, zS⟩
          · exact zC
          · rfl
          dsimp only [nA, cA]
          apply RGW.on (i := 1) rfl
          · exact zG
          · intro γ u W hcur hd
            clear hd
            (try dsimp only)
            exact ⟨rfl, zS⟩
          · exact zC
          · rfl
          dsimp only [nA, cA]
          apply RGW.on (i := 2) rfl
          · exact zG
          · intro γ u W hcur hd
            clear hd
            (try dsimp only)
            exact ⟨rfl, zS⟩
          · exact zC
          · rfl
          dsimp only [nA, cA]
          apply RGW.on (i := 3) rfl
          · exact zG
          · intro γ u W hcur hd
            clear hd
            (try dsimp only)
            exact ⟨rfl, zS⟩
          · exact zC
          · rfl
          dsimp only [nA, cA]
          apply RGW.on (i := 4) rfl
          · exact zG
          · intro γ u W hcur hd
            obtain ⟨⟨h2, -, -⟩, ⟨h3, -, -⟩, -⟩ := hd
            dsimp only at h2 h3
            (try simp only [h2, h3])
            exact ⟨rfl, zS⟩
          · exact zC
          · rfl
          dsimp only [nA, cA]
          apply RGW.on (i := 5) rfl
          · exact zG
          · intro γ u W hcur hd
            obtain ⟨⟨h4, -, -⟩, -⟩ := hd
            dsimp only at h4
            (try simp only [h4])
            exact ⟨rfl, zS⟩
          · exact zC
          · rfl
          dsimp only [nA, cA]
          apply RGW.on (i := 6) rfl
          · exact zG
          · intro γ u W hcur hd
            obtain ⟨⟨h5, -, -⟩, -⟩ := hd
            dsimp only at h5
            (try simp only [h5])
            exact ⟨rfl, zS⟩
          · exact zC
          · rfl
          dsimp only [nA, cA]
          apply RGW.call (i := 7) rfl
          · exact zG
          · intro γ u W hcur hd
            obtain ⟨⟨h0, -, -⟩, ⟨h1, -, -⟩, ⟨h6, -, -⟩, -⟩ := hd
            dsimp only at h0 h1 h6
            (try simp only [h0, h1, h6])
            refine ⟨rfl, fun K hK => ?_⟩
            go_simp
            (go_at_call 43; (with_reducible refine (hca.out _).mono ?_); rintro e w3 ⟨rfl, hb3⟩; replace hb3 := bl_tt hb3)
            (try dsimp only)
            exact hK.out _ _ rfl (by (exact zE))
          · exact zC
          · rfl
          dsimp only [nA, cA]
          apply RGW.alloc (i := 8) rfl
          · exact zG
          · intro γ u W hcur hd
            clear hd
            (try dsimp only)
            refine ⟨rfl, fun K hK => ?_⟩
            go_simp
            exact hK.out _ _ rfl rfl
          · exact zC
          · rfl
          · rfl
          dsimp only [nA, cA]
          refine RGW.skip (i := 9) rfl rfl ?_
          dsimp only [nA, cA]
          refine RGW.fin (fun γ u wf hwf hd hdis => ?_)
          obtain ⟨⟨h0, -, -⟩, ⟨h1, -, -⟩, ⟨h2, -, -⟩, ⟨h3, -, -⟩, ⟨h4, -, -⟩, ⟨h5, -, -⟩, ⟨h6, -, -⟩, ⟨h7, -, -⟩, ⟨h8, r8, b8⟩, -⟩ := hd
          dsimp only at h0 h1 h2 h3 h4 h5 h6 h7 h8 r8 b8
          clear hdis
          simp only [h0, h1, h2, h3, h4, h5, h6, h7, h8]
          clear h8 h7 h6 h5 h4 h3 h2 h1 h0
          replace b8 := b8 _ (List.mem_singleton.2 rfl)
          generalize hγ8 : (γ 8).n = g8 at *
          clear hγ8
          clear u
          simp only [List.map_cons, List.map_nil]
          apply PlanW.step
          · exact zG
          · rfl
          intro K hK
          refine wp_store_keep (X := [g8]) (w0 := wf) rfl rfl rfl (by with_reducible first | exact bx_refl _ _ | assumption) (by with_reducible first | assumption | (apply Blk.below (hb := hwf); assumption)) (by simp) (by kernel_rfl) (by rfl) (by simp [Value.oneCell']) (fun hres1 hcur => ?_)
          refine hK.out _ _ hcur (fun _ => ?_)
          clear hK K
          try simp only [Act.put, List.setIfInBounds_toArray, List.set_cons_zero, List.set_cons_succ]
          refine PlanW.done ?_
          have hb3 := bl_tt hwf
          clear c0 c1 c2 c3 c4 c5 c6
          generalize g8 = gg at *
          apply absTB3 (w0 := w) (g0 := w.heap.size) (g1 := w.heap.size + 1) (g2 := gg)
          iterate 4 (focus exact zL)
          try clear hb3
          try clear Lk0
          try clear Fk0
          try clear Qk0
          try clear Lk1
          try clear Fk1
          try clear Qk1
          try clear hb0
          try clear k0
          try clear k1
          try clear k5
          intro wg hb0 k0 k1 k5
          (try simp only [List.setIfInBounds_toArray, List.set_cons_zero, List.set_cons_succ] at k0 k1 k5)
          have Lk0 := k0.later
          have Fk0 := k0.laterF
          have Qk0 := k0.lt
          have Lk1 := k1.later
          have Fk1 := k1.laterF
          have Qk1 := k1.lt
          have Lk5 := k5.later
          have Fk5 := k5.laterF
          have Qk5 := k5.lt
          cases ho : g.ordered
          · rw [ho] at hie
            go_wp2_with ((go_at_call 29; (with_reducible refine (hie.out _).mono ?_); rintro e w3 ⟨rfl, hb3⟩; replace hb3 := bl_tt hb3))
            go_ret
            exact ⟨true, rfl, hb3 _ hb0, fun _ => hf.out⟩
          · rw [ho] at hie
            replace hil := Lib.hid (hil.out ho)
            obtain ⟨G, hG⟩ : ∃ G, decide (20000 < g.size) = G := ⟨_, rfl⟩
            rw [hG] at hil
            clear hG
            cases G
            case true =>
              have hb3 := fun (w' : World) (h : Below w'.heap.size w' wg) => h
              have hv := hb3 wg (bl_refl wg)
              go_wp2_with (first | (go_at_call 29; (with_reducible refine (hie.out _).mono ?_); rintro e w3 ⟨rfl, hb4⟩; replace hb3 := fun w h => bl_tt hb4 w (hb3 w h); have hv := hb3 wg (bl_refl wg)) | (go_at_call 44; (with_reducible refine (hil.out _).mono ?_); rintro e w3 ⟨rfl, hb4⟩; replace hb3 := fun w h => bl_tt hb4 w (hb3 w h); have hv := hb3 wg (bl_refl wg)))
              go_ret
              exact ⟨true, rfl, bl_tr hb0 hv, fun _ => hf.out⟩
            have hb3 := fun (w' : World) (h : Below w'.heap.size w' wg) => h
            have hv := hb3 wg (bl_refl wg)
            go_upto_region 16 with (first | (go_at_call 29; (with_reducible refine (hie.out _).mono ?_); rintro e w3 ⟨rfl, hb4⟩; replace hb3 := fun w h => bl_tt hb4 w (hb3 w h); have hv := hb3 wg (bl_refl wg)) | (go_at_call 44; (with_reducible refine (hil.out _).mono ?_); rintro e w3 ⟨rfl, hb4⟩; replace hb3 := fun w h => bl_tt hb4 w (hb3 w h); have hv := hb3 wg (bl_refl wg)))
            apply absB3 (w0 := w) (g0 := w.heap.size) (g1 := w.heap.size + 1) (g2 := gg)
            iterate 4 (focus exact zL)
            try clear hb3
            try clear Lk0
            try clear Fk0
            try clear Qk0
            try clear Lk1
            try clear Fk1
            try clear Qk1
            try clear Lk5
            try clear Fk5
            try clear Qk5
            try clear hb0
            try clear k0
            try clear k1
            try clear k5
            intro wh hb0 k0 k1 k5
            (try simp only [List.setIfInBounds_toArray, List.set_cons_zero, List.set_cons_succ] at k0 k1 k5)
            have Lk0 := k0.later
            have Fk0 := k0.laterF
            have Qk0 := k0.lt
            have Lk1 := k1.later
            have Fk1 := k1.laterF
            have Qk1 := k1.lt
            have Lk5 := k5.later
            have Fk5 := k5.laterF
            have Qk5 := k5.lt
            cases L
            · go_wp2_with (go_at_call 45; (with_reducible refine (hli.out _ (bl_tr hb0 (by (exact zE)))).mono ?_); rintro e w3 ⟨rfl, hb3⟩; replace hb3 := bl_tt hb3)
              go_ret
              exact ⟨false, rfl, hb3 _ hb0, fun h => by cases h⟩
            go_upto_region 18 with (go_at_call 45; (with_reducible refine (hli.out _ (bl_tr hb0 (by (exact zE)))).mono ?_); rintro e w3 ⟨rfl, hb3⟩; replace hb3 := bl_tt hb3)
            apply absB2 (w0 := w) (g0 := w.heap.size) (g1 := w.heap.size + 1)
            iterate 3 (focus exact zL)
            try clear hb3
            try clear Lk0
            try clear Fk0
            try clear Qk0
            try clear Lk1
            try clear Fk1
            try clear Qk1
            try clear Lk5
            try clear Fk5
            try clear Qk5
            try clear hb0
            try clear k0
            try clear k1
            intro wi hb0 k0 k1
            (try simp only [List.setIfInBounds_toArray, List.set_cons_zero, List.set_cons_succ] at k0 k1)
            have Lk0 := k0.later
            have Fk0 := k0.laterF
            have Qk0 := k0.lt
            have Lk1 := k1.later
            have Fk1 := k1.laterF
            have Qk1 := k1.lt
            have c0 : ∀ W, Below _ _ W → W.cell? ⟨bb, off + j * 9, none⟩ = some (.int .i64 x.s.mv.ticks) := later (kcell hb0 (hc 0 _ rfl))
            have c1 : ∀ W, Below _ _ W → W.cell? ⟨bb, off + j * 9 + 1, none⟩ = some (.int .i64 x.s.mv.speed.x.lo) := later (kcell hb0 (hc 1 _ rfl))
            have c2 : ∀ W, Below _ _ W → W.cell? ⟨bb, off + j * 9 + 2, none⟩ = some (.int .i64 x.s.mv.speed.x.hi) := later (kcell hb0 (hc 2 _ rfl))
            have c3 : ∀ W, Below _ _ W → W.cell? ⟨bb, off + j * 9 + 3, none⟩ = some (.int .i64 x.s.mv.speed.y.lo) := later (kcell hb0 (hc 3 _ rfl))
            have c4 : ∀ W, Below _ _ W → W.cell? ⟨bb, off + j * 9 + 4, none⟩ = some (.int .i64 x.s.mv.speed.y.hi) := later (kcell hb0 (hc 4 _ rfl))
            have c5 : ∀ W, Below _ _ W → W.cell? ⟨bb, off + j * 9 + 5, none⟩ = some (.int .i64 x.s.mv.speed.z.lo) := later (kcell hb0 (hc 5 _ rfl))
            have c6 : ∀ W, Below _ _ W → W.cell? ⟨bb, off + j * 9 + 6, none⟩ = some (.int .i64 x.s.mv.speed.z.hi) := later (kcell hb0 (hc 6 _ rfl))
            have c7 : ∀ W, Below _ _ W → W.cell? ⟨bb, off + j * 9 + 7, none⟩ = some (.slice x.A x.s.vt.rs.length x.c) := later (kcell hb0 (hc 7 _ rfl))
            have c8 : ∀ W, Below _ _ W → W.cell? ⟨bb, off + j * 9 + 8, none⟩ = some (.int .i64 x.s.vt.wrong) := later (kcell hb0 (hc 8 _ rfl))
            refine wp_any (w0 := wi) ⟨[], [], [some 57, some 58, some 59, some 60, some 61, some 62, some 63, some 64], [[], [], [], [], [2, 3], [2, 3, 4], [0, 1, 2, 3, 4, 5], [0, 1, 2, 3, 4, 5, 6]], [[], [], [], [], [2, 3], [4], [0, 1, 5], [6]]⟩ (fun _ => []) (by kernel_rfl) (by kernel_rfl) (by (exact zE)) (fun u => by simp only [putD, Act.put, List.setIfInBounds_toArray, List.set_cons_zero, List.set_cons_succ, Nat.zero_add, Nat.reduceAdd]; rfl) ?_
            apply RGW.on (i := 0) rfl
            · exact zG
            · intro γ u W hcur hd
              clear hd
              (try dsimp only)
              exact ⟨rfl, zS⟩
            · exact zC
            · rfl
            dsimp only [nA, cA]
            apply RGW.on (i := 1) rfl
            · exact zG
            · intro γ u W hcur hd
              clear hd
              (try dsimp only)
              exact ⟨rfl, zS⟩
            · exact zC
            · rfl
            dsimp only [nA, cA]
            apply RGW.on (i := 2) rfl
            · exact zG
            · intro γ u W hcur hd
              clear hd
              (try dsimp only)
              exact ⟨rfl, zS⟩
            · exact zC
            · rfl
            dsimp only [nA, cA]
            apply RGW.on (i := 3) rfl
            · exact zG
            · intro γ u W hcur hd
              clear hd
              (try dsimp only)
              exact ⟨rfl, zS⟩
            · exact zC
            · rfl
            dsimp only [nA, cA]
            apply RGW.on (i := 4) rfl
            · exact zG
            · intro γ u W hcur hd
              obtain ⟨⟨h2, -, -⟩, ⟨h3, -, -⟩, -⟩ := hd
              dsimp only at h2 h3
              (try simp only [h2, h3])
              exact ⟨rfl, zS⟩
            · exact zC
            · rfl
            dsimp only [nA, cA]
            apply RGW.on (i := 5) rfl
            · exact zG
            · intro γ u W hcur hd
              obtain ⟨⟨h4, -, -⟩, -⟩ := hd
              dsimp only at h4
              (try simp only [h4])
              exact ⟨rfl, zS⟩
            · exact zC
            · rfl
            dsimp only [nA, cA]
            apply RGW.call (i := 6) rfl
            · exact zG
            · intro γ u W hcur hd
              obtain ⟨⟨h0, -, -⟩, ⟨h1, -, -⟩, ⟨h5, -, -⟩, -⟩ := hd
              dsimp only at h0 h1 h5
              (try simp only [h0, h1, h5])
              refine ⟨rfl, fun K hK => ?_⟩
              go_simp
              (go_at_call 46; (with_reducible refine (hte.out _ (bl_tr hb0 (by (exact zE)))).mono ?_); rintro e w3 ⟨rfl, hb3⟩; replace hb3 := bl_tt hb3)
              (try dsimp only)
              exact hK.out _ _ rfl (by (exact zE))
            · exact zC
            · rfl
            dsimp only [nA, cA]
            apply RGW.on (i := 7) rfl
            · exact zG
            · intro γ u W hcur hd
              obtain ⟨⟨h6, -, -⟩, -⟩ := hd
              dsimp only at h6
              (try simp only [h6])
              exact ⟨rfl, zS⟩
            · exact zC
            · rfl
            dsimp only [nA, cA]
            refine RGW.fin (fun γ u wj hwj hd hdis => ?_)
            obtain ⟨⟨h0, -, -⟩, ⟨h1, -, -⟩, ⟨h2, -, -⟩, ⟨h3, -, -⟩, ⟨h4, -, -⟩, ⟨h5, -, -⟩, ⟨h6, -, -⟩, ⟨h7, -, -⟩, -⟩ := hd
            dsimp only at h0 h1 h2 h3 h4 h5 h6 h7
            clear hdis
            simp only [h0, h1, h2, h3, h4, h5, h6, h7]
            clear h7 h6 h5 h4 h3 h2 h1 h0
            clear u
            simp only [List.map_nil]
            refine PlanW.done ?_
            have hb3 := bl_tt hwj
            clear c0 c1 c2 c3 c4 c5 c6 c7 c8
            apply absTB2 (w0 := w) (g0 := w.heap.size) (g1 := w.heap.size + 1)
            iterate 3 (focus exact zL)
            try clear hb3
            try clear Lk0
            try clear Fk0
            try clear Qk0
            try clear Lk1
            try clear Fk1
            try clear Qk1
            try clear hb0
            try clear k0
            try clear k1
            intro wk hb0 k0 k1
            (try simp only [List.setIfInBounds_toArray, List.set_cons_zero, List.set_cons_succ] at k0 k1)
            have Lk0 := k0.later
            have Fk0 := k0.laterF
            have Qk0 := k0.lt
            have Lk1 := k1.later
            have Fk1 := k1.laterF
            have Qk1 := k1.lt
            by_cases hX : X = 0
            · subst hX
              replace haf := Lib.hid (haf.out (by simp))
              replace hnb := hnb.out (by simp)
              replace hnb := Lib.hid hnb
              have c0 : ∀ W, Below _ _ W → W.cell? ⟨bb, off + j * 9, none⟩ = some (.int .i64 x.s.mv.ticks) := later (kcell hb0 (hc 0 _ rfl))
              have c1 : ∀ W, Below _ _ W → W.cell? ⟨bb, off + j * 9 + 1, none⟩ = some (.int .i64 x.s.mv.speed.x.lo) := later (kcell hb0 (hc 1 _ rfl))
              have c2 : ∀ W, Below _ _ W → W.cell? ⟨bb, off + j * 9 + 2, none⟩ = some (.int .i64 x.s.mv.speed.x.hi) := later (kcell hb0 (hc 2 _ rfl))
              have c3 : ∀ W, Below _ _ W → W.cell? ⟨bb, off + j * 9 + 3, none⟩ = some (.int .i64 x.s.mv.speed.y.lo) := later (kcell hb0 (hc 3 _ rfl))
              have c4 : ∀ W, Below _ _ W → W.cell? ⟨bb, off + j * 9 + 4, none⟩ = some (.int .i64 x.s.mv.speed.y.hi) := later (kcell hb0 (hc 4 _ rfl))
              have c5 : ∀ W, Below _ _ W → W.cell? ⟨bb, off + j * 9 + 5, none⟩ = some (.int .i64 x.s.mv.speed.z.lo) := later (kcell hb0 (hc 5 _ rfl))
              have c6 : ∀ W, Below _ _ W → W.cell? ⟨bb, off + j * 9 + 6, none⟩ = some (.int .i64 x.s.mv.speed.z.hi) := later (kcell hb0 (hc 6 _ rfl))
              have c7 : ∀ W, Below _ _ W → W.cell? ⟨bb, off + j * 9 + 7, none⟩ = some (.slice x.A x.s.vt.rs.length x.c) := later (kcell hb0 (hc 7 _ rfl))
              have c8 : ∀ W, Below _ _ W → W.cell? ⟨bb, off + j * 9 + 8, none⟩ = some (.int .i64 x.s.vt.wrong) := later (kcell hb0 (hc 8 _ rfl))
              go_upto_region 20 with fail
              have hq1 := k1.lt
              refine wp_any (w0 := wk) ⟨[7], [], [some 65, some 66, some 67, some 68, some 69, some 70, some 71, none], [[], [], [], [], [2, 3], [2, 3, 4], [0, 1, 2, 3, 4, 5], [0, 1, 2, 3, 4, 5, 6]], [[], [], [], [], [2, 3], [4], [0, 1, 5], []]⟩ (fun _ => [w.heap.size + 1]) (by kernel_rfl) (by kernel_rfl) (by (exact zE)) (fun u => by simp only [putD, Act.put, List.setIfInBounds_toArray, List.set_cons_zero, List.set_cons_succ, Nat.zero_add, Nat.reduceAdd]; rfl) ?_
              apply RGW.on (i := 0) rfl
              · exact zG
              · intro γ u W hcur hd
                clear hd
                (try dsimp only)
                exact ⟨rfl, zS⟩
              · exact zC
              · rfl
              dsimp only [nA, cA]
              apply RGW.on (i := 1) rfl
              · exact zG
              · intro γ u W hcur hd
                clear hd
                (try dsimp only)
                exact ⟨rfl, zS⟩
              · exact zC
              · rfl
              dsimp only [nA, cA]
              apply RGW.on (i := 2) rfl
              · exact zG
              · intro γ u W hcur hd
                clear hd
                (try dsimp only)
                exact ⟨rfl, zS⟩
              · exact zC
              · rfl
              dsimp only [nA, cA]
              apply RGW.on (i := 3) rfl
              · exact zG
              · intro γ u W hcur hd
                clear hd
                (try dsimp only)
                exact ⟨rfl, zS⟩
              · exact zC
              · rfl
              dsimp only [nA, cA]
              apply RGW.on (i := 4) rfl
              · exact zG
              · intro γ u W hcur hd
                obtain ⟨⟨h2, -, -⟩, ⟨h3, -, -⟩, -⟩ := hd
                dsimp only at h2 h3
                (try simp only [h2, h3])
                exact ⟨rfl, zS⟩
              · exact zC
              · rfl
              dsimp only [nA, cA]
              apply RGW.on (i := 5) rfl
              · exact zG
              · intro γ u W hcur hd
                obtain ⟨⟨h4, -, -⟩, -⟩ := hd
                dsimp only at h4
                (try simp only [h4])
                exact ⟨rfl, zS⟩
              · exact zC
              · rfl
              dsimp only [nA, cA]
              apply RGW.call (i := 6) rfl
              · exact zG
              · intro γ u W hcur hd
                obtain ⟨⟨h0, -, -⟩, ⟨h1, -, -⟩, ⟨h5, -, -⟩, -⟩ := hd
                dsimp only at h0 h1 h5
                (try simp only [h0, h1, h5])
                refine ⟨rfl, fun K hK => ?_⟩
                go_simp
                (go_at_call 17; (with_reducible refine (haf.out _ (bl_tr hb0 (by (exact zE)))).mono ?_); rintro e w3 ⟨rfl, hb3⟩; replace hb3 := bl_tt hb3)
                (try dsimp only)
                exact hK.out _ _ rfl (by (exact zE))
              · exact zC
              · rfl
              dsimp only [nA, cA]
              refine RGW.skip (i := 7) rfl rfl ?_
              dsimp only [nA, cA]
              refine RGW.fin (fun γ u wl hwl hd hdis => ?_)
              obtain ⟨⟨h0, -, -⟩, ⟨h1, -, -⟩, ⟨h2, -, -⟩, ⟨h3, -, -⟩, ⟨h4, -, -⟩, ⟨h5, -, -⟩, ⟨h6, -, -⟩, -⟩ := hd
              dsimp only at h0 h1 h2 h3 h4 h5 h6
              clear hdis
              simp only [h0, h1, h2, h3, h4, h5, h6]
              clear h6 h5 h4 h3 h2 h1 h0
              clear u
              simp only [List.map_cons, List.map_nil]
              apply PlanW.step
              · exact zG
              · rfl
              intro K hK
              refine wp_store_keep (X := [w.heap.size + 1]) (w0 := wl) rfl rfl rfl (by with_reducible first | exact bx_refl _ _ | assumption) (by with_reducible first | assumption | (apply Blk.below (hb := hwl); assumption)) (by simp) (by kernel_rfl) (by rfl) (by simp [Value.oneCell']) (fun hres1 hcur => ?_)
              refine hK.out _ _ hcur (fun _ => ?_)
              clear hK K
              try simp only [Act.put, List.setIfInBounds_toArray, List.set_cons_zero, List.set_cons_succ]
              refine PlanW.done ?_
              have hb3 := bl_tt hwl
              clear c0 c1 c2 c3 c4 c5 c6 c7 c8
              go_wp2
              go_roundw
              case rel => exact ⟨j + 1, V.1, by omega, by go_num, by (exact zE), by (exact zK), by (exact zK), hnb.out⟩
              case measure => simp [intOf]; omega
            · have hX' : (X != 0) = true := by simp [hX]
              replace hX := Lib.hid hX
              go_wp2
              go_ret
              exact ⟨true, rfl, hb0, fun _ => hf.out⟩
        · go_wp2
          go_ret
          exact ⟨true, rfl, hb0, fun _ => hf.out⟩
end Go.Proofs.YtephimmamkafoaaGreat
namespace Go.Proofs.YtephimmamkafoaaGreat
open Go.RowKit Go.Shelf
attribute [local go_sem] bl_al bl_drew bl_drewN bl_refl bx_al bx_drew bx_drewN bx_refl
set_option maxRecDepth 20000
/-- The boxes after each of some steps, and the first error of them. -/
def trk (n : Nt) : Bx → List St → List Bx
  | _, [] => []
  | b, s :: l => (afterV n b s).1 :: trk n (afterV n b s).1 l
def trkE (n : Nt) : Bx → List St → Int
  | _, [] => 0
  | b, s :: l => if afterX n b s = 0 then trkE n (afterV n b s).1 l else afterX n b s
def trackE (n : Nt) (b : Bx) (l : List St) : Int := if stepsErr n b l = 0 then trkE n b l else stepsErr n b l
theorem trk_len (n : Nt) : ∀ (l : List St) (b : Bx), (trk n b l).length = l.length
  | [], b => rfl
  | s :: l, b => by rw [trk, List.length_cons, List.length_cons, trk_len n l]
theorem map_at {l : List StA} {j : Nat} {x : StA} (h : l[j]? = some x) : (l.map (·.s)).drop j = x.s :: (l.map (·.s)).drop (j + 1) := by
  have h1 : (l.map (·.s))[j]? = some x.s := by simp [h]
  have hk := (List.getElem?_eq_some_iff.1 h1).1
  rw [List.drop_eq_getElem_cons hk, (List.getElem?_eq_some_iff.1 h1).2]
theorem trkE_at {n : Nt} {b : Bx} {l : List StA} {j : Nat} {x : StA} (h : l[j]? = some x) :
    trkE n b ((l.map (·.s)).drop j) = if afterX n b x.s = 0 then trkE n (afterV n b x.s).1 ((l.map (·.s)).drop (j + 1)) else afterX n b x.s := by
  rw [map_at h, trkE]
theorem trk_at {n : Nt} {b : Bx} {l : List StA} {j : Nat} {x : StA} (h : l[j]? = some x) :
    trk n b ((l.map (·.s)).drop j) = (afterV n b x.s).1 :: trk n (afterV n b x.s).1 ((l.map (·.s)).drop (j + 1)) := by
  rw [map_at h, trk]
set_option maxHeartbeats 8000000 in
theorem r_TrackErr (n : Nt) (b : Bx) (l : List StA) (A A' : Option Addr) (c c' : Nat) (w : World) (hn : NtIn n A c w) (hl : StsIn l A' w) (hll : few1 l) (hlb : n.bs.length ≤ 1000) :
    Calls Tryz.prog 20 #[vNt n.world (.slice A n.bs.length c), vBx b, .slice A' l.length c'] w (Ret (.int .i64 (trackE n b (l.map (·.s)))) w) := by
  have hse := Lib.hid fun (W : World) (hb : Below w.heap.size w W) => r_StepsErr n b l A A' c c' W (hn.below hb) (hl.below hb) hll hlb
  have hte := Lib.hid fun (b' : Bx) (x : StA) (hx : x ∈ l) (h : afterE n b' x.s = 0) (W : World) (hb : Below w.heap.size w W) => r_StepErr n b' x.s A x.A c x.c W (hn.below hb) ((hl.rd x hx).below hb) h
  have haf := Lib.hid fun (b' : Bx) (x : StA) (hx : x ∈ l) (h : afterE n b' x.s = 0) (h' : afterX n b' x.s = 0) (W : World) (hb : Below w.heap.size w W) => r_After n b' x.s A x.A c x.c W (hn.below hb) ((hl.rd x hx).below hb) h h'
  have hz := Lib.hid fun h : stepsErr n b (l.map (·.s)) = 0 => steps_zero h
  have hT0 : Hid (stepsErr n b (l.map (·.s)) = 0 → trackE n b (l.map (·.s)) = trkE n b ((l.map (·.s)).drop 0)) := fun h => by rw [trackE, if_pos h, List.drop_zero]
  have hT1 : Hid (stepsErr n b (l.map (·.s)) ≠ 0 → trackE n b (l.map (·.s)) = stepsErr n b (l.map (·.s))) := fun h => by rw [trackE, if_neg h]
  have hE0 : Hid (∀ b' : Bx, trkE n b' ((l.map (·.s)).drop l.length) = 0) := fun b' => by rw [← show (l.map (fun x : StA => x.s)).length = l.length from List.length_map _, List.drop_length]; rfl
  have hat : Hid (∀ (b' : Bx) (j : Nat) (x : StA), l[j]? = some x → trkE n b' ((l.map (·.s)).drop j) = if afterX n b' x.s = 0 then trkE n (afterV n b' x.s).1 ((l.map (·.s)).drop (j + 1)) else afterX n b' x.s) := fun b' j x h => trkE_at h
  have Hl := Lib.hid hl
  have hl1 := hll.1
  clear hn hl hll
  generalize stepsErr n b (l.map (·.s)) = SE at *
  generalize trackE n b (l.map (·.s)) = TE at *
  generalize l.map (·.s) = L at *
  generalize n.bs.length = nl at *
  obtain ⟨ll, Hn⟩ : ∃ k, Hid (l.length = k) := ⟨_, rfl⟩
  rw [Hn.out] at hl1 hse hE0 ⊢
  go_enter Tryz.func20, Tryz.ntmps20
  go_upto_region 1 with fail
  apply absB2 (w0 := w) (g0 := w.heap.size) (g1 := w.heap.size + 1)
  iterate 3 (focus exact zL)
  try clear hb3
  try clear hb0
  try clear k0
  try clear k1
  intro wa hb0 k0 k1
  (try simp only [List.setIfInBounds_toArray, List.set_cons_zero, List.set_cons_succ] at k0 k1)
  have Lk0 := k0.later
  have Fk0 := k0.laterF
  have Qk0 := k0.lt
  have Lk1 := k1.later
  have Fk1 := k1.laterF
  have Qk1 := k1.lt
  go_upto_region 2 with (go_at_call 26; (with_reducible refine (hse.out _ (bl_tr hb0 (by (exact zE)))).mono ?_); rintro e w3 ⟨rfl, hb3⟩; replace hb3 := bl_tt hb3)
  apply absB2 (w0 := w) (g0 := w.heap.size) (g1 := w.heap.size + 1)
  iterate 3 (focus exact zL)
  try clear hb3
  try clear Lk0
  try clear Fk0
  try clear Qk0
  try clear Lk1
  try clear Fk1
  try clear Qk1
  try clear hb0
  try clear k0
  try clear k1
  intro wb hb0 k0 k1
  (try simp only [List.setIfInBounds_toArray, List.set_cons_zero, List.set_cons_succ] at k0 k1)
  have Lk0 := k0.later
  have Fk0 := k0.laterF
  have Qk0 := k0.lt
  have Lk1 := k1.later
  have Fk1 := k1.laterF
  have Qk1 := k1.lt
  by_cases hS : SE = 0
  case neg =>
    have hS' : (SE != 0) = true := by simp [hS]
    have hT := Lib.hid (hT1.out hS)
    replace hS := Lib.hid hS
    go_wp2
    go_ret
    exact ⟨by rw [hT.out] <;> rfl, hb0⟩
  subst hS
  obtain ⟨hz0, hz1⟩ := hz.out (by simp)
  replace hz1 := Lib.hid hz1
  have hT := Lib.hid (hT0.out (by simp))
  clear hz hse hT0 hT1 Lk0 Lk1 Fk0 Fk1
  go_wp2
  go_loopw [8] (fun i wr => ∃ (j : Nat) (b' : Bx), j ≤ ll ∧ i = .int .i64 j ∧ Below w.heap.size w wr ∧ Blk wr w.heap.size 28 (aNt n.world (.slice A nl c)) ∧ Blk wr (w.heap.size + 1) 25 (aBx b') ∧ boxErr n b' = 0 ∧ TE = trkE n b' (L.drop j)) (fun i _ => ll - (intOf i).toNat)
  case atStart => exact ⟨0, b, Nat.zero_le _, rfl, hb0, k0, k1, hz0, hT.out⟩
  case round =>
    clear k0 k1 hb0
    obtain ⟨j, b', hj, rfl, hb0, k0, k1, hbe, hT⟩ := hrel
    replace hT := Lib.hid hT
    have Lk0 := k0.later
    have Fk0 := k0.laterF
    have Qk0 := k0.lt
    have Lk1 := k1.later
    have Fk1 := k1.laterF
    have Qk1 := k1.lt
    by_cases hjt : j < ll
    · have hx : l[j]? = some (l[j]'(by rw [Hn.out]; exact hjt)) := List.getElem?_eq_getElem _
      generalize l[j]'(by rw [Hn.out]; exact hjt) = x at hx
      have hm : x ∈ l := List.mem_of_getElem? hx
      obtain ⟨bb, off, hA, hc⟩ := Hl.out.sl j x hx
      obtain ⟨hm1, hv1⟩ := hz1.out j x hx
      have haE := afterE_zero hbe hm1 hv1
      have hte := Lib.hid (hte.out b' x hm haE)
      have haf := Lib.hid (haf.out b' x hm haE)
      have hnb := Lib.hid (after_box (n := n) (b := b') (s := x.s) (box_zero hbe).1)
      have hst := Lib.hid (hat.out b' j x hx)
      unfold vSt at hte haf
      clear hm hm1 hv1 haE hbe
      replace hx := Lib.hid hx
      generalize afterV n b' x.s = V at *
      generalize afterX n b' x.s = X at *
      subst hA
      go_upto_region 7 with fail
      have c0 : ∀ W, Below _ _ W → W.cell? ⟨bb, off + j * 9, none⟩ = some (.int .i64 x.s.mv.ticks) := later (kcell hb0 (hc 0 _ rfl))
      have c1 : ∀ W, Below _ _ W → W.cell? ⟨bb, off + j * 9 + 1, none⟩ = some (.int .i64 x.s.mv.speed.x.lo) := later (kcell hb0 (hc 1 _ rfl))
      have c2 : ∀ W, Below _ _ W → W.cell? ⟨bb, off + j * 9 + 2, none⟩ = some (.int .i64 x.s.mv.speed.x.hi) := later (kcell hb0 (hc 2 _ rfl))
      have c3 : ∀ W, Below _ _ W → W.cell? ⟨bb, off + j * 9 + 3, none⟩ = some (.int .i64 x.s.mv.speed.y.lo) := later (kcell hb0 (hc 3 _ rfl))
      have c4 : ∀ W, Below _ _ W → W.cell? ⟨bb, off + j * 9 + 4, none⟩ = some (.int .i64 x.s.mv.speed.y.hi) := later (kcell hb0 (hc 4 _ rfl))
      have c5 : ∀ W, Below _ _ W → W.cell? ⟨bb, off + j * 9 + 5, none⟩ = some (.int .i64 x.s.mv.speed.z.lo) := later (kcell hb0 (hc 5 _ rfl))
      have c6 : ∀ W, Below _ _ W → W.cell? ⟨bb, off + j * 9 + 6, none⟩ = some (.int .i64 x.s.mv.speed.z.hi) := later (kcell hb0 (hc 6 _ rfl))
      have c7 : ∀ W, Below _ _ W → W.cell? ⟨bb, off + j * 9 + 7, none⟩ = some (.slice x.A x.s.vt.rs.length x.c) := later (kcell hb0 (hc 7 _ rfl))
      have c8 : ∀ W, Below _ _ W → W.cell? ⟨bb, off + j * 9 + 8, none⟩ = some (.int .i64 x.s.vt.wrong) := later (kcell hb0 (hc 8 _ rfl))
      refine wp_any (w0 := wr) ⟨[], [], [some 23, some 24, some 25, some 26, some 27, some 28, some 29, some 9], [[], [], [], [], [2, 3], [2, 3, 4], [0, 1, 2, 3, 4, 5], [0, 1, 2, 3, 4, 5, 6]], [[], [], [], [], [2, 3], [4], [0, 1, 5], [6]]⟩ (fun _ => []) (by kernel_rfl) (by kernel_rfl) (by (exact zE)) (fun u => by simp only [putD, Act.put, List.setIfInBounds_toArray, List.set_cons_zero, List.set_cons_succ, Nat.zero_add, Nat.reduceAdd]; rfl) ?_
      apply RGW.on (i := 0) rfl
      · exact zG
      · intro γ u W hcur hd
        clear hd
        (try dsimp only)
        exact ⟨rfl, zS⟩
      · exact zC
      · rfl
      dsimp only [nA, cA]
      apply RGW.on (i := 1) rfl
      · exact zG
      · intro γ u W hcur hd
        clear hd
        (try dsimp only)
        exact ⟨rfl, zS⟩
      · exact zC
      · rfl
      dsimp only [nA, cA]
      apply RGW.on (i := 2) rfl
      · exact zG
      · intro γ u W hcur hd
        clear hd
        (try dsimp only)
        exact ⟨rfl, zS⟩
      · exact zC
      · rfl
      dsimp only [nA, cA]
      apply RGW.on (i := 3) rfl
      · exact zG
      · intro γ u W hcur hd
        clear hd
        (try dsimp only)
        exact ⟨rfl, zS⟩
      · exact zC
      · rfl
      dsimp only [nA, cA]
      apply RGW.on (i := 4) rfl
      · exact zG
      · intro γ u W hcur hd
        obtain ⟨⟨h2, -, -⟩, ⟨h3, -, -⟩, -⟩ := hd
        dsimp only at h2 h3
        (try simp only [h2, h3])
        exact ⟨rfl, zS⟩
      · exact zC
      · rfl
      dsimp only [nA, cA]
      apply RGW.on (i := 5) rfl
      · exact zG
      · intro γ u W hcur hd
        obtain ⟨⟨h4, -, -⟩, -⟩ := hd
        dsimp only at h4
        (try simp only [h4])
        exact ⟨rfl, zS⟩
      · exact zC
      · rfl
      dsimp only [nA, cA]
      apply RGW.call (i := 6) rfl
      · exact zG
      · intro γ u W hcur hd
        obtain ⟨⟨h0, -, -⟩, ⟨h1, -, -⟩, ⟨h5, -, -⟩, -⟩ := hd
        dsimp only at h0 h1 h5
        (try simp only [h0, h1, h5])
        refine ⟨rfl, fun K hK => ?_⟩
        go_simp
        (go_at_call 46; (with_reducible refine (hte.out _ (bl_tr hb0 (by (exact zE)))).mono ?_); rintro e w3 ⟨rfl, hb3⟩; replace hb3 := bl_tt hb3)
        (try dsimp only)
        exact hK.out _ _ rfl (by (exact zE))
      · exact zC
      · rfl
      dsimp only [nA, cA]
      apply RGW.on (i := 7) rfl
      · exact zG
      · intro γ u W hcur hd
        obtain ⟨⟨h6, -, -⟩, -⟩ := hd
        dsimp only at h6
        (try simp only [h6])
        exact ⟨rfl, zS⟩
      · exact zC
      · rfl
      dsimp only [nA, cA]
      refine RGW.fin (fun γ u wf hwf hd hdis => ?_)
      obtain ⟨⟨h0, -, -⟩, ⟨h1, -, -⟩, ⟨h2, -, -⟩, ⟨h3, -, -⟩, ⟨h4, -, -⟩, ⟨h5, -, -⟩, ⟨h6, -, -⟩, ⟨h7, -, -⟩, -⟩ := hd
      dsimp only at h0 h1 h2 h3 h4 h5 h6 h7
      clear hdis
      simp only [h0, h1, h2, h3, h4, h5, h6, h7]
      clear h7 h6 h5 h4 h3 h2 h1 h0
      clear u
      simp only [List.map_nil]
      refine PlanW.done ?_
      have hb3 := bl_tt hwf
      clear c0 c1 c2 c3 c4 c5 c6 c7 c8
      apply absTB2 (w0 := w) (g0 := w.heap.size) (g1 := w.heap.size + 1)
      iterate 3 (focus exact zL)
      try clear hb3
      try clear Lk0
      try clear Fk0
      try clear Qk0
      try clear Lk1
      try clear Fk1
      try clear Qk1
      try clear hb0
      try clear k0
      try clear k1
      intro wg hb0 k0 k1
      (try simp only [List.setIfInBounds_toArray, List.set_cons_zero, List.set_cons_succ] at k0 k1)
      have Lk0 := k0.later
      have Fk0 := k0.laterF
      have Qk0 := k0.lt
      have Lk1 := k1.later
      have Fk1 := k1.laterF
      have Qk1 := k1.lt
      by_cases hX : X = 0
      · subst hX
        replace haf := Lib.hid (haf.out (by simp))
        replace hnb := Lib.hid (hnb.out (by simp))
        rw [if_pos rfl] at hst
        have c0 : ∀ W, Below _ _ W → W.cell? ⟨bb, off + j * 9, none⟩ = some (.int .i64 x.s.mv.ticks) := later (kcell hb0 (hc 0 _ rfl))
        have c1 : ∀ W, Below _ _ W → W.cell? ⟨bb, off + j * 9 + 1, none⟩ = some (.int .i64 x.s.mv.speed.x.lo) := later (kcell hb0 (hc 1 _ rfl))
        have c2 : ∀ W, Below _ _ W → W.cell? ⟨bb, off + j * 9 + 2, none⟩ = some (.int .i64 x.s.mv.speed.x.hi) := later (kcell hb0 (hc 2 _ rfl))
        have c3 : ∀ W, Below _ _ W → W.cell? ⟨bb, off + j * 9 + 3, none⟩ = some (.int .i64 x.s.mv.speed.y.lo) := later (kcell hb0 (hc 3 _ rfl))
        have c4 : ∀ W, Below _ _ W → W.cell? ⟨bb, off + j * 9 + 4, none⟩ = some (.int .i64 x.s.mv.speed.y.hi) := later (kcell hb0 (hc 4 _ rfl))
        have c5 : ∀ W, Below _ _ W → W.cell? ⟨bb, off + j * 9 + 5, none⟩ = some (.int .i64 x.s.mv.speed.z.lo) := later (kcell hb0 (hc 5 _ rfl))
        have c6 : ∀ W, Below _ _ W → W.cell? ⟨bb, off + j * 9 + 6, none⟩ = some (.int .i64 x.s.mv.speed.z.hi) := later (kcell hb0 (hc 6 _ rfl))
        have c7 : ∀ W, Below _ _ W → W.cell? ⟨bb, off + j * 9 + 7, none⟩ = some (.slice x.A x.s.vt.rs.length x.c) := later (kcell hb0 (hc 7 _ rfl))
        have c8 : ∀ W, Below _ _ W → W.cell? ⟨bb, off + j * 9 + 8, none⟩ = some (.int .i64 x.s.vt.wrong) := later (kcell hb0 (hc 8 _ rfl))
        go_upto_region 10 with fail
        have hq1 := k1.lt
        refine wp_any (w0 := wg) ⟨[7], [], [some 33, some 34, some 35, some 36, some 37, some 38, some 39, none], [[], [], [], [], [2, 3], [2, 3, 4], [0, 1, 2, 3, 4, 5], [0, 1, 2, 3, 4, 5, 6]], [[], [], [], [], [2, 3], [4], [0, 1, 5], []]⟩ (fun _ => [w.heap.size + 1]) (by kernel_rfl) (by kernel_rfl) (by (exact zE)) (fun u => by simp only [putD, Act.put, List.setIfInBounds_toArray, List.set_cons_zero, List.set_cons_succ, Nat.zero_add, Nat.reduceAdd]; rfl) ?_
        apply RGW.on (i := 0) rfl
        · exact zG
        · intro γ u W hcur hd
          clear hd
          (try dsimp only)
          exact ⟨rfl, zS⟩
        · exact zC
        · rfl
        dsimp only [nA, cA]
        apply RGW.on (i := 1) rfl
        · exact zG
        · intro γ u W hcur hd
          clear hd
          (try dsimp only)
          exact ⟨rfl, zS⟩
        · exact zC
        · rfl
        dsimp only [nA, cA]
        apply RGW.on (i := 2) rfl
        · exact zG
        · intro γ u W hcur hd
          clear hd
          (try dsimp only)
          exact ⟨rfl, zS⟩
        · exact zC
        · rfl
        dsimp only [nA, cA]
        apply RGW.on (i := 3) rfl
        · exact zG
        · intro γ u W hcur hd
          clear hd
          (try dsimp only)
          exact ⟨rfl, zS⟩
        · exact zC
        · rfl
        dsimp only [nA, cA]
        apply RGW.on (i := 4) rfl
        · exact zG
        · intro γ u W hcur hd
          obtain ⟨⟨h2, -, -⟩, ⟨h3, -, -⟩, -⟩ := hd
          dsimp only at h2 h3
          (try simp only [h2, h3])
          exact ⟨rfl, zS⟩
        · exact zC
        · rfl
        dsimp only [nA, cA]
        apply RGW.on (i := 5) rfl
        · exact zG
        · intro γ u W hcur hd
          obtain ⟨⟨h4, -, -⟩, -⟩ := hd
          dsimp only at h4
          (try simp only [h4])
          exact ⟨rfl, zS⟩
        · exact zC
        · rfl
        dsimp only [nA, cA]
        apply RGW.call (i := 6) rfl
        · exact zG
        · intro γ u W hcur hd
          obtain ⟨⟨h0, -, -⟩, ⟨h1, -, -⟩, ⟨h5, -, -⟩, -⟩ := hd
          dsimp only at h0 h1 h5
          (try simp only [h0, h1, h5])
          refine ⟨rfl, fun K hK => ?_⟩
          go_simp
          (go_at_call 17; (with_reducible refine (haf.out _ (bl_tr hb0 (by (exact zE)))).mono ?_); rintro e w3 ⟨rfl, hb3⟩; replace hb3 := bl_tt hb3)
          (try dsimp only)
          exact hK.out _ _ rfl (by (exact zE))
        · exact zC
        · rfl
        dsimp only [nA, cA]
        refine RGW.skip (i := 7) rfl rfl ?_
        dsimp only [nA, cA]
        refine RGW.fin (fun γ u wh hwh hd hdis => ?_)
        obtain ⟨⟨h0, -, -⟩, ⟨h1, -, -⟩, ⟨h2, -, -⟩, ⟨h3, -, -⟩, ⟨h4, -, -⟩, ⟨h5, -, -⟩, ⟨h6, -, -⟩, -⟩ := hd
        dsimp only at h0 h1 h2 h3 h4 h5 h6
        clear hdis
        simp only [h0, h1, h2, h3, h4, h5, h6]
        clear h6 h5 h4 h3 h2 h1 h0
        clear u
        simp only [List.map_cons, List.map_nil]
        apply PlanW.step
        · exact zG
        · rfl
        intro K hK
        refine wp_store_keep (X := [w.heap.size + 1]) (w0 := wh) rfl rfl rfl (by with_reducible first | exact bx_refl _ _ | assumption) (by with_reducible first | assumption | (apply Blk.below (hb := hwh); assumption)) (by simp) (by kernel_rfl) (by rfl) (by simp [Value.oneCell']) (fun hres1 hcur => ?_)
        refine hK.out _ _ hcur (fun _ => ?_)
        clear hK K
        try simp only [Act.put, List.setIfInBounds_toArray, List.set_cons_zero, List.set_cons_succ]
        refine PlanW.done ?_
        have hb3 := bl_tt hwh
        clear c0 c1 c2 c3 c4 c5 c6 c7 c8
        go_wp2
        go_roundw
        case rel => exact ⟨j + 1, V.1, by omega, by go_num, by (exact zE), by (exact zK), by (exact zK), hnb.out, by rw [hT.out, hst.out]⟩
        case measure => simp [intOf]; omega
      · have hX' : (X != 0) = true := by simp [hX]
        rw [if_neg hX] at hst
        replace hX := Lib.hid hX
        go_wp2
        go_ret
        exact ⟨by rw [hT.out, hst.out] <;> rfl, hb0⟩
    · obtain rfl : j = ll := by omega
      go_wp2
      go_ret
      exact ⟨by rw [hT.out, hE0.out] <;> rfl, hb0⟩
def cBox (x : Bx) : List Value := [.int .i64 x.x.lo, .int .i64 x.x.hi, .int .i64 x.y.lo, .int .i64 x.y.hi, .int .i64 x.z.lo, .int .i64 x.z.hi]
theorem infoBx : (Tryz.prog.info? 25).map (fun i => (i.zero, i.size, i.bytes)) = some (some (.agg #[.int .i64 0, .int .i64 0, .int .i64 0, .int .i64 0, .int .i64 0, .int .i64 0]), 6, 48) := by kernel_rfl
theorem Blk.grown {W W' : World} {g B n sz : Nat} {t e : TypeId} {cs : Array Value} {v : Value} {xs : List Value} (h : Blk W g t cs) (ho : W.ownsRow B e sz v n xs) (hg : W.grownBy W' v.ownBlock) (hlt : g < B) : Blk W' g t cs := by
  have h1 : W.heap[g]? = some _ := h
  exact (hg.block g (Array.getElem?_eq_some_iff.1 h1).1 fun e => by have := own_ge ho g e.symm; omega).trans h1
end Go.Proofs.YtephimmamkafoaaGreat
