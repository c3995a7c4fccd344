/-
  Walk: the law of readings.
-/
import Derived.Test.YtephimmamkafoaaG15
import Derived.Test.YtephimmamkafoaaH11
import Derived.Test.YtephimmamkafoaaH13
import Derived.Test.YtephimmamkafoaaH14
import Derived.Test.YtephimmamkafoaaG11
namespace Go.Proofs.Ytephimmamkafoaa
set_option linter.unusedSimpArgs false
set_option linter.unusedVariables false
open Go.RowKit Go.Shelf
attribute [local go_sem] bl_al bl_drew bl_drewN bl_refl bx_al bx_drew bx_drewN bx_refl
set_option maxRecDepth 20000
theorem fst_ne' {x : Int} {l : List Int} (h : x ≠ 0) : fstE (x :: l) = x := by simp [fstE, h]
theorem fst_eq' {l : List Int} : fstE (0 :: l) = fstE l := by simp [fstE]
theorem bne_ne' {x : Int} (h : x ≠ 0) : (x != 0) = true := by simp [h]
theorem chk_net {n : Nt} {l : List Rd} (h : netErr n ≠ 0) : readsChk n l = (0, netErr n) := by
  have : readsE n l = netErr n := fst_ne' h
  rw [readsChk, if_neg (by rw [this]; exact h), this]
theorem rd_kind {n : Nt} {l : List Rd} (h : readsErr n l = 0) : ∀ r ∈ l, r.kind = 0 ∨ r.kind = 1 := fun r hr => by
  obtain ⟨h1, h2⟩ := reads_net h
  obtain ⟨i, hi, rfl⟩ := List.getElem_of_mem hr
  have he : readsE n l = 0 := by
    unfold readsE
    simp only [fst_cons, unl_zero (show (8 : Int) ≠ 0 by decide), decide_eq_true_eq]
    exact ⟨h1, by omega, rfl⟩
  unfold readsErr readsChk at h
  rw [if_pos he] at h
  have h3 := eachS_zero h i _ (List.getElem?_eq_getElem hi)
  unfold rdErr at h3
  simp only [fst_cons, unl_zero (show (15 : Int) ≠ 0 by decide), inR_iff] at h3
  omega
theorem agreeS_len (n : Nt) (l : List Rd) (p : Pl) (h : l.length ≤ 1000) : (agreeS n l p).length ≤ 1000 := by
  unfold agreeS
  split
  · rw [idxs_pick]
    exact Nat.le_trans (pickL_len _ _) h
  · simp
theorem ansS_len (n : Nt) (b : Bx) (l : List Rd) (h : l.length ≤ 1000) : (ansS n b l).length ≤ 1000 := by
  unfold ansS
  split
  · rw [ansTo_len]
    exact h
  · simp
theorem agree_E {n : Nt} {l : List Rd} {p : Pl} : agreeE n l p = fstE [netErr n, readsErr n l, unl (n.world.has p) 2] := rfl
set_option maxHeartbeats 16000000 in
theorem l_FixReadings (n : Nt) (b : Bx) (l : List Rd) (p : Pl) (A A' : Option Addr) (c c' : Nat) (w : World) (hs : Sl cBc 4 w A n.bs) (hc : n.bs.length ≤ c) (hnm : ∀ b ∈ n.bs, b.name.size ≤ maxLen) (hl : Sl cRd 4 w A' l) :
    Calls Try.prog 6 #[vNt n.world (.slice A n.bs.length c), vBx b, .agg #[.slice A' l.length c', .int .i64 p.x, .int .i64 p.y, .int .i64 p.z]] w (Ret (.bool true) w) := by
  have hfw := Lib.hid fun W : World => r_few n A A' c c' l.length W
  obtain ⟨F, hF⟩ : ∃ F, (decide (n.bs.length ≤ 8) && decide (l.length ≤ 10)) = F := ⟨_, rfl⟩
  rw [hF] at hfw
  cases F
  · clear hF hs hc hnm hl
    generalize n.bs.length = nl at *
    generalize l.length = rl at *
    go_enter Try.func6, Try.ntmps6
    go_upto_region 3 with (go_at_call 10; (with_reducible refine (r_awake _).mono ?_); rintro e w3 ⟨rfl, hb3⟩; replace hb3 := bl_tt hb3)
    apply absB3 (w0 := w) (g0 := w.heap.size) (g1 := w.heap.size + 1) (g2 := w.heap.size + 2)
    iterate 4 (focus ((with_reducible (repeat' (first | assumption | apply jA | apply jB | apply jC | apply jD | apply jE | apply jF | apply hb3 | apply jG | apply jH | apply jI | apply jJ | apply jK | apply hb3x | (apply jL; first | (simp; done) | rfl) | apply jM | apply jN | apply jO | apply jP | apply jQ | apply jR | apply jS | apply jT (hb := hb3 _ (jA _)) | omega | (simp; done) | (simp; omega) | (dsimp only; omega)))); done))
    intro wa hb0' k0' k1' k2'
    (try simp only [List.setIfInBounds_toArray, List.set_cons_zero, List.set_cons_succ] at k0' k1' k2')
    try clear hb3
    try clear hb0
    try clear k0
    try clear k1
    try clear k2
    have hb0 := hb0'; clear hb0'
    have k0 := k0'; clear k0'
    have k1 := k1'; clear k1'
    have k2 := k2'; clear k2'
    have Lk0 := k0.later
    have Fk0 := k0.laterF
    have Qk0 := k0.lt
    have Lk1 := k1.later
    have Fk1 := k1.laterF
    have Qk1 := k1.lt
    have Lk2 := k2.later
    have Fk2 := k2.laterF
    have Qk2 := k2.lt
    go_wp2_with (go_at_call 11; (with_reducible refine (hfw.out _).mono ?_); rintro e w3 ⟨rfl, hb3⟩; replace hb3 := bl_tt hb3)
    go_ret
    exact ⟨rfl, hb3 _ hb0⟩
  · simp only [Bool.and_eq_true, decide_eq_true_eq] at hF
    have hn : NtIn n A c w := ⟨by omega, hc, hnm, hs⟩
    have hll : l.length ≤ 1000 := by omega
    have hcp := Lib.hid fun (W : World) (hb : Below w.heap.size w W) => r_CopyNet n A c W (hn.below hb)
    have hcr : Hid (∀ W : World, Below w.heap.size w W → Calls Try.prog 22 #[.slice A' l.length c'] W (fun x w' => ∃ A2 c2, x = .returned (.slice A2 l.length c2) ∧ Below W.heap.size W w' ∧ Sl cRd 4 w' A2 l)) := fun W hb => (r_CopyReadings l A' c' W (hl.below hb) hll).mono fun x w' ⟨A2, c2, e, h1, h2⟩ => ⟨A2, c2, e, h1, own_slC (cs := cRd) (fun _ => rfl) (by decide) h2⟩
    have hck := Lib.hid fun (W : World) (A A' : Option Addr) (c c' : Nat) (h : NtIn n A c W) (h' : Sl cRd 4 W A' l) => c_CheckReadings n l A A' c c' W h h' hll (by omega)
    obtain ⟨G, hG⟩ : ∃ G, agreeS n l p = G := ⟨_, rfl⟩
    obtain ⟨gE, hgE⟩ : ∃ e, agreeE n l p = e := ⟨_, rfl⟩
    obtain ⟨H, hH⟩ : ∃ G, ansS n b l = G := ⟨_, rfl⟩
    obtain ⟨hE, hhE⟩ : ∃ e, wrongE n b l = e := ⟨_, rfl⟩
    have hag : Hid (∀ (W : World) (A A' : Option Addr) (c c' : Nat), NtIn n A c W → Sl cRd 4 W A' l → Calls Try.prog 38 #[vNt n.world (.slice A n.bs.length c), .slice A' l.length c', vPl p] W
        (fun e w' => ∃ A2 c2, e = .returned (.tuple #[.slice A2 G.length c2, .int .i64 gE]) ∧ Below W.heap.size W w' ∧ Sl cI 1 w' A2 G)) := fun W A A' c c' h h' => by
      subst hG hgE
      exact (c_AgreeingWith n l p A A' c c' W h h' hll (by omega) agree_ok).mono fun x w' ⟨A2, c2, e, h1, h2⟩ => ⟨A2, c2, e, h1, own_sl h2⟩
    have han : Hid (∀ (W : World) (A A' : Option Addr) (c c' : Nat), NtIn n A c W → Sl cRd 4 W A' l → Calls Try.prog 39 #[vNt n.world (.slice A n.bs.length c), vBx b, .slice A' l.length c'] W
        (fun e w' => ∃ A2 c2, e = .returned (.tuple #[.slice A2 H.length c2, .int .i64 hE]) ∧ Below W.heap.size W w' ∧ Sl cI 1 w' A2 H)) := fun W A A' c c' h h' => by
      subst hH hhE
      exact (c_AnswersOf n b l A A' c c' W h h' hll (by omega)).mono fun x w' ⟨A2, c2, e, h1, h2⟩ => ⟨A2, c2, e, h1, own_sl h2⟩
    have hne := Lib.hid fun (W : World) (hb : Below w.heap.size w W) => r_NetErr n A c W (hn.below hb)
    have hbe := Lib.hid fun (W : World) (hb : Below w.heap.size w W) => r_BoxErr n b A c W (hn.below hb)
    have hrr := Lib.hid fun (W : World) (hb : Below w.heap.size w W) => r_CheckReadings n.world n.bs.length l A A' c c' W (hl.below hb) hll (by omega)
    have hin := Lib.hid fun (W : World) => r_IsIn n.world p W
    have hpin : Hid (netErr n = 0 → n.world.has p = true → p.in 10000) := fun h1 h2 => by
      unfold Bx.has at h2
      simp only [Bool.and_eq_true, inR_iff] at h2
      obtain ⟨⟨x1, x2, x3⟩, ⟨y1, y2, y3⟩, ⟨z1, z2, z3⟩⟩ := net_world_ok h1
      refine ⟨⟨?_, ?_⟩, ⟨?_, ?_⟩, ?_, ?_⟩ <;> omega
    have hiG : Hid (∀ (W : World) (A B : Option Addr) (c d b0 : Nat), Sl cI 1 W A G → W.ownsRow b0 3 1 (.slice B G.length d) G.length (G.map (.int .i64)) → Calls Try.prog 41 #[.slice A G.length c, .slice B G.length d] W (Ret (.bool true) W)) := fun W A B c d b0 h1 h2 => by
      have h3 : G.length ≤ 1000 := by rw [← hG]; exact agreeS_len n l p hll
      have := r_Ints G G A B c d W h1 (own_sl h2) h3 h3
      simpa [intsB] using this
    have hiH : Hid (∀ (W : World) (A B : Option Addr) (c d b0 : Nat), Sl cI 1 W A H → W.ownsRow b0 3 1 (.slice B H.length d) H.length (H.map (.int .i64)) → Calls Try.prog 41 #[.slice A H.length c, .slice B H.length d] W (Ret (.bool true) W)) := fun W A B c d b0 h1 h2 => by
      have h3 : H.length ≤ 1000 := by rw [← hH]; exact ansS_len n b l hll
      have := r_Ints H H A B c d W h1 (own_sl h2) h3 h3
      simpa [intsB] using this
    have fN : Hid (netErr n ≠ 0 → (readsChk n l).1 = 0 ∧ (readsChk n l).2 = netErr n ∧ gE = netErr n ∧ G.length = 0 ∧ hE = netErr n ∧ H.length = 0 ∧ boxErr n b = netErr n) := fun h0 => by
      have e4 : boxErr n b = netErr n := fst_ne' h0
      have e2 : gE = netErr n := by rw [← hgE]; exact fst_ne' h0
      have e5 : hE = netErr n := by rw [← hhE, wrongE, e4]; exact fst_ne' h0
      refine ⟨by rw [chk_net h0], by rw [chk_net h0], e2, ?_, e5, ?_, e4⟩
      · rw [← hG, agreeS, if_neg (by rw [hgE, e2]; exact h0)]; rfl
      · rw [← hH, ansS, if_neg (by rw [hhE, e5]; exact h0)]; rfl
    have fR : Hid (netErr n = 0 → (refReads n.bs.length l).1 = (readsChk n l).1 ∧ (refReads n.bs.length l).2 = (readsChk n l).2) := fun h0 => by rw [refReads_eq h0]; exact ⟨rfl, rfl⟩
    have fR2 : Hid (netErr n = 0 → (readsChk n l).2 ≠ 0 → gE = (readsChk n l).2 ∧ G.length = 0) := fun h0 h1 => by
      have h1' : readsErr n l ≠ 0 := h1
      have e2 : gE = readsErr n l := by rw [← hgE, agree_E, h0, fst_eq', fst_ne' h1']
      exact ⟨e2, by rw [← hG, agreeS, if_neg (by rw [hgE, e2]; exact h1')]; rfl⟩
    have fR3 : Hid (netErr n = 0 → boxErr n b = 0 → (readsChk n l).2 ≠ 0 → hE = (readsChk n l).2 ∧ H.length = 0) := fun _ hb h1 => by
      have h1' : readsErr n l ≠ 0 := h1
      have e5 : hE = readsErr n l := by rw [← hhE, wrongE, hb, fst_eq', fst_ne' h1']
      exact ⟨e5, by rw [← hH, ansS, if_neg (by rw [hhE, e5]; exact h1')]; rfl⟩
    have fB : Hid (boxErr n b ≠ 0 → hE = boxErr n b ∧ H.length = 0) := fun hb => by
      have e5 : hE = boxErr n b := by rw [← hhE, wrongE, fst_ne' hb]
      exact ⟨e5, by rw [← hH, ansS, if_neg (by rw [hhE, e5]; exact hb)]; rfl⟩
    have fP : Hid (netErr n = 0 → (readsChk n l).2 = 0 → n.world.has p = false → gE = 2 ∧ G.length = 0) := fun h0 h1 hp => by
      have h1' : readsErr n l = 0 := h1
      have e2 : gE = 2 := by rw [← hgE, agree_E, h0, h1', hp]; rfl
      exact ⟨e2, by rw [← hG, agreeS, if_neg (by rw [hgE, e2]; decide)]; rfl⟩
    have fT : Hid (netErr n = 0 → (readsChk n l).2 = 0 → n.world.has p = true → gE = 0 ∧ ∀ W : World, Below w.heap.size w W → Calls Try.prog 42 #[vNt n.world (.slice A n.bs.length c), .slice A' l.length c', vPl p] W (fun e w' => ∃ A2 c2, e = .returned (.slice A2 G.length c2) ∧ Below W.heap.size W w' ∧ w'.ownsRow W.heap.size 3 1 (.slice A2 G.length c2) G.length (G.map (.int .i64)))) := fun h0 h1 hp => by
      have h1' : readsErr n l = 0 := h1
      have e2 : gE = 0 := by rw [← hgE, agree_E, h0, h1', hp]; rfl
      have e3 : G = pickL (agrAt n.bs p l) l.length := by rw [← hG, agreeS, if_pos (by rw [hgE, e2]), agrL_idxs]; rfl
      refine ⟨e2, fun W hb => ?_⟩
      have := r_Agreeing n.world n.bs A A' c c' l p W (hn.sl.below hb) (by omega) (hl.below hb) hll (hpin.out h0 hp) (reads_ok h1').2.2
      rw [← e3] at this
      exact this
    have fA : Hid (netErr n = 0 → (readsChk n l).2 = 0 → boxErr n b = 0 → hE = 0 ∧ ∀ W : World, Below w.heap.size w W → Calls Try.prog 43 #[vNt n.world (.slice A n.bs.length c), vBx b, .slice A' l.length c'] W (fun e w' => ∃ A2 c2, e = .returned (.slice A2 H.length c2) ∧ Below W.heap.size W w' ∧ w'.ownsRow W.heap.size 3 1 (.slice A2 H.length c2) H.length (H.map (.int .i64)))) := fun _ h1 hb => by
      have h1' : readsErr n l = 0 := h1
      have e5 : hE = 0 := by rw [← hhE, wrongE, hb, h1']; rfl
      have e6 : H = ansTo (ansAt n.bs b l) l.length := by rw [← hH, ansS, if_pos (by rw [hhE, e5])]
      refine ⟨e5, fun W hw => ?_⟩
      have := r_Answers n.world b n.bs A A' c c' l W (hn.sl.below hw) (by omega) (hl.below hw) hll (box_ok hb) (reads_ok h1').2.2 (rd_kind h1')
      rw [← e6] at this
      exact this
    clear hF hs hc hnm hl hn hll hpin hG hgE hH hhE
    generalize netErr n = ne at *
    generalize boxErr n b = be at *
    generalize (readsChk n l).1 = ci at *
    generalize (readsChk n l).2 = ce at *
    generalize (refReads n.bs.length l).1 = ri at *
    generalize (refReads n.bs.length l).2 = rr at *
    generalize n.world.has p = pin at *
    generalize G.length = gl at *
    generalize H.length = hl at *
    generalize n.bs.length = nl at *
    generalize l.length = rl at *
    go_enter Try.func6, Try.ntmps6
    go_upto_region 3 with (go_at_call 10; (with_reducible refine (r_awake _).mono ?_); rintro e w3 ⟨rfl, hb3⟩; replace hb3 := bl_tt hb3)
    apply absB3 (w0 := w) (g0 := w.heap.size) (g1 := w.heap.size + 1) (g2 := w.heap.size + 2)
    iterate 4 (focus ((with_reducible (repeat' (first | assumption | apply jA | apply jB | apply jC | apply jD | apply jE | apply jF | apply hb3 | apply jG | apply jH | apply jI | apply jJ | apply jK | apply hb3x | (apply jL; first | (simp; done) | rfl) | apply jM | apply jN | apply jO | apply jP | apply jQ | apply jR | apply jS | apply jT (hb := hb3 _ (jA _)) | omega | (simp; done) | (simp; omega) | (dsimp only; omega)))); done))
    intro wa hb0' k0' k1' k2'
    (try simp only [List.setIfInBounds_toArray, List.set_cons_zero, List.set_cons_succ] at k0' k1' k2')
    try clear hb3
    try clear hb0
    try clear k0
    try clear k1
    try clear k2
    have hb0 := hb0'; clear hb0'
    have k0 := k0'; clear k0'
    have k1 := k1'; clear k1'
    have k2 := k2'; clear k2'
    have Lk0 := k0.later
    have Fk0 := k0.laterF
    have Qk0 := k0.lt
    have Lk1 := k1.later
    have Fk1 := k1.laterF
    have Qk1 := k1.lt
    have Lk2 := k2.later
    have Fk2 := k2.laterF
    have Qk2 := k2.lt
    go_upto_region 5 with (go_at_call 11; (with_reducible refine (hfw.out _).mono ?_); rintro e w3 ⟨rfl, hb3⟩; replace hb3 := bl_tt hb3)
    apply absB3 (w0 := w) (g0 := w.heap.size) (g1 := w.heap.size + 1) (g2 := w.heap.size + 2)
    iterate 4 (focus ((with_reducible (repeat' (first | assumption | apply jA | apply jB | apply jC | apply jD | apply jE | apply jF | apply hb3 | apply jG | apply jH | apply jI | apply jJ | apply jK | apply hb3x | (apply jL; first | (simp; done) | rfl) | apply jM | apply jN | apply jO | apply jP | apply jQ | apply jR | apply jS | apply jT (hb := hb3 _ (jA _)) | omega | (simp; done) | (simp; omega) | (dsimp only; omega)))); done))
    intro wb hb0' k0' k1' k2'
    (try simp only [List.setIfInBounds_toArray, List.set_cons_zero, List.set_cons_succ] at k0' k1' k2')
    try clear hb3
    try clear Lk0
    try clear Fk0
    try clear Qk0
    try clear Lk1
    try clear Fk1
    try clear Qk1
    try clear Lk2
    try clear Fk2
    try clear Qk2
    try clear hb0
    try clear k0
    try clear k1
    try clear k2
    have hb0 := hb0'; clear hb0'
    have k0 := k0'; clear k0'
    have k1 := k1'; clear k1'
    have k2 := k2'; clear k2'
    have Lk0 := k0.later
    have Fk0 := k0.laterF
    have Qk0 := k0.lt
    have Lk1 := k1.later
    have Fk1 := k1.laterF
    have Qk1 := k1.lt
    have Lk2 := k2.later
    have Fk2 := k2.laterF
    have Qk2 := k2.lt
    refine wp_any (w0 := wb) ⟨[], [], [some 24, some 25, some 26, some 27, some 28, some 29, some 23, some 30, some 31, some 7, some 8], [[], [0], [], [2], [0, 1, 2, 3], [0, 1, 2, 3, 4], [0, 1, 2, 3, 4, 5], [0, 1, 2, 3, 4, 5, 6], [0, 1, 2, 3, 4, 5, 6], [0, 1, 2, 3, 4, 5, 6, 7], [0, 1, 2, 3, 4, 5, 6, 7, 8, 9]], [[], [0], [], [2], [3], [1, 4], [1, 4, 5], [1, 4, 6], [1, 4, 6], [1, 4, 7], [1, 4, 8]]⟩ (fun _ => []) (by kernel_rfl) (by kernel_rfl) (by (with_reducible (repeat' (first | assumption | apply jA | apply jB | apply jC | apply jD | apply jE | apply jF | apply hb3 | omega | (simp; done) | (simp; omega) | (dsimp only; omega))))) (fun u => by simp only [putD, Act.put, List.setIfInBounds_toArray, List.set_cons_zero, List.set_cons_succ, Nat.zero_add, Nat.reduceAdd]; rfl) ?_
    apply RGW.on (i := 0) rfl
    · (simp only [gA, gB, gC] <;> rfl)
    · intro γ u W hcur hd
      clear hd
      (try dsimp only)
      refine ⟨rfl, ?_⟩
      go_simp <;> (try go_bits) <;> with_reducible rfl
    · exact fun _ _ _ => rfl
    · rfl
    dsimp only [nA, cA]
    apply RGW.gh (⟨fun γ => vNt n.world (.slice (γ 1).A nl (γ 1).c), fun γ W => NtIn n (γ 1).A (γ 1).c W, fun _ => []⟩) (i := 1) rfl
    · (simp only [gA, gB, gC] <;> rfl)
    · intro γ u W hcur hd
      obtain ⟨⟨h0, -, -⟩, -⟩ := hd
      dsimp only at h0
      (try simp only [h0])
      refine ⟨rfl, fun K hK => ?_⟩
      go_simp
      (go_at_call 13; (with_reducible refine (hcp.out _ (bl_tr hb0 hcur)).mono ?_); rintro e w3 ⟨Ax, cx, rfl, hb3, hox⟩; dsimp only; exact hK.out ⟨0, undef, Ax, cx⟩ _ _ (by simp [up]) hb3 (by simpa [up] using hox) (by simp))
    · intro γ γ' hg
      try dsimp only
      have e1 := hg 1 (by decide)
      simp only [e1]
      try exact ⟨trivial, fun _ h => h⟩
    · intro γ W W' hbl hR
      first | exact hR.below hbl | exact own_below hR hbl | exact trivial | exact ⟨hR.1.below hbl, hR.2⟩
    · rfl
    dsimp only [nA, cA]
    apply RGW.on (i := 2) rfl
    · (simp only [gA, gB, gC] <;> rfl)
    · intro γ u W hcur hd
      clear hd
      (try dsimp only)
      refine ⟨rfl, ?_⟩
      go_simp <;> (try go_bits) <;> with_reducible rfl
    · exact fun _ _ _ => rfl
    · rfl
    dsimp only [nA, cA]
    apply RGW.on (i := 3) rfl
    · (simp only [gA, gB, gC] <;> rfl)
    · intro γ u W hcur hd
      obtain ⟨⟨h2, -, -⟩, -⟩ := hd
      dsimp only at h2
      (try simp only [h2])
      refine ⟨rfl, ?_⟩
      go_simp <;> (try go_bits) <;> with_reducible rfl
    · exact fun _ _ _ => rfl
    · rfl
    dsimp only [nA, cA]
    apply RGW.gh (⟨fun γ => .slice (γ 4).A rl (γ 4).c, fun γ W => Sl cRd 4 W (γ 4).A l, fun _ => []⟩) (i := 4) rfl
    · (simp only [gA, gB, gC] <;> rfl)
    · intro γ u W hcur hd
      obtain ⟨⟨h3, -, -⟩, -⟩ := hd
      dsimp only at h3
      (try simp only [h3])
      refine ⟨rfl, fun K hK => ?_⟩
      go_simp
      (go_at_call 22; (with_reducible refine (hcr.out _ (bl_tr hb0 hcur)).mono ?_); rintro e w3 ⟨Ax, cx, rfl, hb3, hox⟩; dsimp only; exact hK.out ⟨0, undef, Ax, cx⟩ _ _ (by simp [up]) hb3 (by simpa [up] using hox) (by simp))
    · intro γ γ' hg
      try dsimp only
      have e1 := hg 1 (by decide)
      have e4 := hg 4 (by decide)
      simp only [e1, e4]
      try exact ⟨trivial, fun _ h => h⟩
    · intro γ W W' hbl hR
      first | exact hR.below hbl | exact own_below hR hbl | exact trivial | exact ⟨hR.1.below hbl, hR.2⟩
    · rfl
    dsimp only [nA, cA]
    apply RGW.call (i := 5) rfl
    · (simp only [gA, gB, gC] <;> rfl)
    · intro γ u W hcur hd
      obtain ⟨⟨h1, r1, -⟩, ⟨h4, r4, -⟩, -⟩ := hd
      dsimp only at h1 h4 r1 r4
      (try simp only [h1, h4])
      refine ⟨rfl, fun K hK => ?_⟩
      go_simp
      (go_at_call 37; (with_reducible refine (hck.out _ _ _ _ _ r1 r4).mono ?_); rintro e w3 ⟨rfl, hb3⟩; replace hb3 := bl_tt hb3)
      (try dsimp only)
      exact hK.out _ _ rfl (by (with_reducible (repeat' (first | assumption | apply jA | apply jB | apply jC | apply jD | apply jE | apply jF | apply hb3 | omega | (simp; done) | (simp; omega) | (dsimp only; omega)))))
    · exact fun _ _ _ => rfl
    · rfl
    dsimp only [nA, cA]
    apply RGW.on (i := 6) rfl
    · (simp only [gA, gB, gC] <;> rfl)
    · intro γ u W hcur hd
      obtain ⟨⟨h1, r1, -⟩, ⟨h4, r4, -⟩, ⟨h5, -, -⟩, -⟩ := hd
      dsimp only at h1 h4 h5 r1 r4
      (try simp only [h1, h4, h5])
      refine ⟨rfl, ?_⟩
      go_simp <;> (try go_bits) <;> with_reducible rfl
    · exact fun _ _ _ => rfl
    · rfl
    dsimp only [nA, cA]
    apply RGW.on (i := 7) rfl
    · (simp only [gA, gB, gC] <;> rfl)
    · intro γ u W hcur hd
      obtain ⟨⟨h1, r1, -⟩, ⟨h4, r4, -⟩, ⟨h6, -, -⟩, -⟩ := hd
      dsimp only at h1 h4 h6 r1 r4
      (try simp only [h1, h4, h6])
      refine ⟨rfl, ?_⟩
      go_simp <;> (try go_bits) <;> with_reducible rfl
    · exact fun _ _ _ => rfl
    · rfl
    dsimp only [nA, cA]
    apply RGW.on (i := 8) rfl
    · (simp only [gA, gB, gC] <;> rfl)
    · intro γ u W hcur hd
      obtain ⟨⟨h1, r1, -⟩, ⟨h4, r4, -⟩, ⟨h6, -, -⟩, -⟩ := hd
      dsimp only at h1 h4 h6 r1 r4
      (try simp only [h1, h4, h6])
      refine ⟨rfl, ?_⟩
      go_simp <;> (try go_bits) <;> with_reducible rfl
    · exact fun _ _ _ => rfl
    · rfl
    dsimp only [nA, cA]
    apply RGW.on (i := 9) rfl
    · (simp only [gA, gB, gC] <;> rfl)
    · intro γ u W hcur hd
      obtain ⟨⟨h1, r1, -⟩, ⟨h4, r4, -⟩, ⟨h7, -, -⟩, -⟩ := hd
      dsimp only at h1 h4 h7 r1 r4
      (try simp only [h1, h4, h7])
      refine ⟨rfl, ?_⟩
      go_simp <;> (try go_bits) <;> with_reducible rfl
    · exact fun _ _ _ => rfl
    · rfl
    dsimp only [nA, cA]
    apply RGW.on (i := 10) rfl
    · (simp only [gA, gB, gC] <;> rfl)
    · intro γ u W hcur hd
      obtain ⟨⟨h1, r1, -⟩, ⟨h4, r4, -⟩, ⟨h8, -, -⟩, -⟩ := hd
      dsimp only at h1 h4 h8 r1 r4
      (try simp only [h1, h4, h8])
      refine ⟨rfl, ?_⟩
      go_simp <;> (try go_bits) <;> with_reducible rfl
    · exact fun _ _ _ => rfl
    · rfl
    dsimp only [nA, cA]
    refine RGW.fin (fun γ u wc hwc hd hdis => ?_)
    obtain ⟨⟨h0, -, -⟩, ⟨h1, r1, b1⟩, ⟨h2, -, -⟩, ⟨h3, -, -⟩, ⟨h4, r4, b4⟩, ⟨h5, -, -⟩, ⟨h6, -, -⟩, ⟨h7, -, -⟩, ⟨h8, -, -⟩, ⟨h9, -, -⟩, ⟨h10, -, -⟩, -⟩ := hd
    dsimp only at h0 h1 h2 h3 h4 h5 h6 h7 h8 h9 h10 r1 r4 b1 b4
    clear hdis
    simp only [h0, h1, h2, h3, h4, h5, h6, h7, h8, h9, h10]
    clear h10 h9 h8 h7 h6 h5 h4 h3 h2 h1 h0
    clear u
    simp only [List.map_nil]
    refine PlanW.done ?_
    have hb3 := bl_tt hwc
    clear r1 r4
    apply absTB3 (w0 := w) (g0 := w.heap.size) (g1 := w.heap.size + 1) (g2 := w.heap.size + 2)
    iterate 4 (focus ((with_reducible (repeat' (first | assumption | apply jA | apply jB | apply jC | apply jD | apply jE | apply jF | apply hb3 | apply jG | apply jH | apply jI | apply jJ | apply jK | apply hb3x | (apply jL; first | (simp; done) | rfl) | apply jM | apply jN | apply jO | apply jP | apply jQ | apply jR | apply jS | apply jT (hb := hb3 _ (jA _)) | omega | (simp; done) | (simp; omega) | (dsimp only; omega)))); done))
    intro wc2 hb0' k0' k1' k2'
    (try simp only [List.setIfInBounds_toArray, List.set_cons_zero, List.set_cons_succ] at k0' k1' k2')
    try clear hb3
    try clear Lk0
    try clear Fk0
    try clear Qk0
    try clear Lk1
    try clear Fk1
    try clear Qk1
    try clear Lk2
    try clear Fk2
    try clear Qk2
    try clear hb0
    try clear k0
    try clear k1
    try clear k2
    have hb0 := hb0'; clear hb0'
    have k0 := k0'; clear k0'
    have k1 := k1'; clear k1'
    have k2 := k2'; clear k2'
    have Lk0 := k0.later
    have Fk0 := k0.laterF
    have Qk0 := k0.lt
    have Lk1 := k1.later
    have Fk1 := k1.laterF
    have Qk1 := k1.lt
    have Lk2 := k2.later
    have Fk2 := k2.laterF
    have Qk2 := k2.lt
    go_upto_region 6 with fail
    refine wp_any (w0 := wc2) ⟨[], [], [some 33, some 34, some 35, some 36, some 37, some 38, some 39, some 40, some 32, some 41, some 42, some 9, some 10], [[], [0], [], [2], [0, 1, 2, 3], [], [5], [0, 1, 2, 3, 4, 5, 6], [0, 1, 2, 3, 4, 5, 6, 7], [0, 1, 2, 3, 4, 5, 6, 7, 8], [0, 1, 2, 3, 4, 5, 6, 7, 8], [0, 1, 2, 3, 4, 5, 6, 7, 8, 9], [0, 1, 2, 3, 4, 5, 6, 7, 8, 9, 10, 11]], [[], [0], [], [2], [3], [], [5], [1, 4, 6], [1, 4, 7], [1, 4, 7, 8], [1, 4, 7, 8], [1, 4, 7, 9], [1, 4, 7, 10]]⟩ (fun _ => []) (by kernel_rfl) (by kernel_rfl) (by (with_reducible (repeat' (first | assumption | apply jA | apply jB | apply jC | apply jD | apply jE | apply jF | apply hb3 | omega | (simp; done) | (simp; omega) | (dsimp only; omega))))) (fun u => by simp only [putD, Act.put, List.setIfInBounds_toArray, List.set_cons_zero, List.set_cons_succ, Nat.zero_add, Nat.reduceAdd]; rfl) ?_
    apply RGW.on (i := 0) rfl
    · (simp only [gA, gB, gC] <;> rfl)
    · intro γ u W hcur hd
      clear hd
      (try dsimp only)
      refine ⟨rfl, ?_⟩
      go_simp <;> (try go_bits) <;> with_reducible rfl
    · exact fun _ _ _ => rfl
    · rfl
    dsimp only [nA, cA]
    apply RGW.gh (⟨fun γ => vNt n.world (.slice (γ 1).A nl (γ 1).c), fun γ W => NtIn n (γ 1).A (γ 1).c W, fun _ => []⟩) (i := 1) rfl
    · (simp only [gA, gB, gC] <;> rfl)
    · intro γ u W hcur hd
      obtain ⟨⟨h0, -, -⟩, -⟩ := hd
      dsimp only at h0
      (try simp only [h0])
      refine ⟨rfl, fun K hK => ?_⟩
      go_simp
      (go_at_call 13; (with_reducible refine (hcp.out _ (bl_tr hb0 hcur)).mono ?_); rintro e w3 ⟨Ax, cx, rfl, hb3, hox⟩; dsimp only; exact hK.out ⟨0, undef, Ax, cx⟩ _ _ (by simp [up]) hb3 (by simpa [up] using hox) (by simp))
    · intro γ γ' hg
      try dsimp only
      have e1 := hg 1 (by decide)
      simp only [e1]
      try exact ⟨trivial, fun _ h => h⟩
    · intro γ W W' hbl hR
      first | exact hR.below hbl | exact own_below hR hbl | exact trivial | exact ⟨hR.1.below hbl, hR.2⟩
    · rfl
    dsimp only [nA, cA]
    apply RGW.on (i := 2) rfl
    · (simp only [gA, gB, gC] <;> rfl)
    · intro γ u W hcur hd
      clear hd
      (try dsimp only)
      refine ⟨rfl, ?_⟩
      go_simp <;> (try go_bits) <;> with_reducible rfl
    · exact fun _ _ _ => rfl
    · rfl
    dsimp only [nA, cA]
    apply RGW.on (i := 3) rfl
    · (simp only [gA, gB, gC] <;> rfl)
    · intro γ u W hcur hd
      obtain ⟨⟨h2, -, -⟩, -⟩ := hd
      dsimp only at h2
      (try simp only [h2])
      refine ⟨rfl, ?_⟩
      go_simp <;> (try go_bits) <;> with_reducible rfl
    · exact fun _ _ _ => rfl
    · rfl
    dsimp only [nA, cA]
    apply RGW.gh (⟨fun γ => .slice (γ 4).A rl (γ 4).c, fun γ W => Sl cRd 4 W (γ 4).A l, fun _ => []⟩) (i := 4) rfl
    · (simp only [gA, gB, gC] <;> rfl)
    · intro γ u W hcur hd
      obtain ⟨⟨h3, -, -⟩, -⟩ := hd
      dsimp only at h3
      (try simp only [h3])
      refine ⟨rfl, fun K hK => ?_⟩
      go_simp
      (go_at_call 22; (with_reducible refine (hcr.out _ (bl_tr hb0 hcur)).mono ?_); rintro e w3 ⟨Ax, cx, rfl, hb3, hox⟩; dsimp only; exact hK.out ⟨0, undef, Ax, cx⟩ _ _ (by simp [up]) hb3 (by simpa [up] using hox) (by simp))
    · intro γ γ' hg
      try dsimp only
      have e1 := hg 1 (by decide)
      have e4 := hg 4 (by decide)
      simp only [e1, e4]
      try exact ⟨trivial, fun _ h => h⟩
    · intro γ W W' hbl hR
      first | exact hR.below hbl | exact own_below hR hbl | exact trivial | exact ⟨hR.1.below hbl, hR.2⟩
    · rfl
    dsimp only [nA, cA]
    apply RGW.on (i := 5) rfl
    · (simp only [gA, gB, gC] <;> rfl)
    · intro γ u W hcur hd
      clear hd
      (try dsimp only)
      refine ⟨rfl, ?_⟩
      go_simp <;> (try go_bits) <;> with_reducible rfl
    · exact fun _ _ _ => rfl
    · rfl
    dsimp only [nA, cA]
    apply RGW.on (i := 6) rfl
    · (simp only [gA, gB, gC] <;> rfl)
    · intro γ u W hcur hd
      obtain ⟨⟨h5, -, -⟩, -⟩ := hd
      dsimp only at h5
      (try simp only [h5])
      refine ⟨rfl, ?_⟩
      go_simp <;> (try go_bits) <;> with_reducible rfl
    · exact fun _ _ _ => rfl
    · rfl
    dsimp only [nA, cA]
    apply RGW.gh (⟨fun γ => .tuple #[.slice (γ 7).A gl (γ 7).c, .int .i64 gE], fun γ W => Sl cI 1 W (γ 7).A G, fun _ => []⟩) (i := 7) rfl
    · (simp only [gA, gB, gC] <;> rfl)
    · intro γ u W hcur hd
      obtain ⟨⟨h1, r1, -⟩, ⟨h4, r4, -⟩, ⟨h6, -, -⟩, -⟩ := hd
      dsimp only at h1 h4 h6 r1 r4
      (try simp only [h1, h4, h6])
      refine ⟨rfl, fun K hK => ?_⟩
      go_simp
      (go_at_call 38; (with_reducible refine (hag.out _ _ _ _ _ r1 r4).mono ?_); rintro e w3 ⟨Ax, cx, rfl, hb3, hox⟩; dsimp only; exact hK.out ⟨0, undef, Ax, cx⟩ _ _ (by simp [up]) hb3 (by simpa [up] using hox) (by simp))
    · intro γ γ' hg
      try dsimp only
      have e1 := hg 1 (by decide)
      have e4 := hg 4 (by decide)
      have e7 := hg 7 (by decide)
      simp only [e1, e4, e7]
      try exact ⟨trivial, fun _ h => h⟩
    · intro γ W W' hbl hR
      first | exact hR.below hbl | exact own_below hR hbl | exact trivial | exact ⟨hR.1.below hbl, hR.2⟩
    · rfl
    dsimp only [nA, cA]
    apply RGW.on (i := 8) rfl
    · (simp only [gA, gB, gC] <;> rfl)
    · intro γ u W hcur hd
      obtain ⟨⟨h1, r1, -⟩, ⟨h4, r4, -⟩, ⟨h7, r7, -⟩, -⟩ := hd
      dsimp only at h1 h4 h7 r1 r4 r7
      (try simp only [h1, h4, h7])
      refine ⟨rfl, ?_⟩
      go_simp <;> (try go_bits) <;> with_reducible rfl
    · intro γ γ' hg
      try dsimp only
      have e1 := hg 1 (by decide)
      have e4 := hg 4 (by decide)
      have e7 := hg 7 (by decide)
      simp only [e1, e4, e7]
    · rfl
    dsimp only [nA, cA]
    apply RGW.on (i := 9) rfl
    · (simp only [gA, gB, gC] <;> rfl)
    · intro γ u W hcur hd
      obtain ⟨⟨h1, r1, -⟩, ⟨h4, r4, -⟩, ⟨h7, r7, -⟩, ⟨h8, -, -⟩, -⟩ := hd
      dsimp only at h1 h4 h7 h8 r1 r4 r7
      (try simp only [h1, h4, h7, h8])
      refine ⟨rfl, ?_⟩
      go_simp <;> (try go_bits) <;> with_reducible rfl
    · intro γ γ' hg
      try dsimp only
      have e1 := hg 1 (by decide)
      have e4 := hg 4 (by decide)
      have e7 := hg 7 (by decide)
      simp only [e1, e4, e7]
    · rfl
    dsimp only [nA, cA]
    apply RGW.on (i := 10) rfl
    · (simp only [gA, gB, gC] <;> rfl)
    · intro γ u W hcur hd
      obtain ⟨⟨h1, r1, -⟩, ⟨h4, r4, -⟩, ⟨h7, r7, -⟩, ⟨h8, -, -⟩, -⟩ := hd
      dsimp only at h1 h4 h7 h8 r1 r4 r7
      (try simp only [h1, h4, h7, h8])
      refine ⟨rfl, ?_⟩
      go_simp <;> (try go_bits) <;> with_reducible rfl
    · exact fun _ _ _ => rfl
    · rfl
    dsimp only [nA, cA]
    apply RGW.on (i := 11) rfl
    · (simp only [gA, gB, gC] <;> rfl)
    · intro γ u W hcur hd
      obtain ⟨⟨h1, r1, -⟩, ⟨h4, r4, -⟩, ⟨h7, r7, -⟩, ⟨h9, -, -⟩, -⟩ := hd
      dsimp only at h1 h4 h7 h9 r1 r4 r7
      (try simp only [h1, h4, h7, h9])
      refine ⟨rfl, ?_⟩
      go_simp <;> (try go_bits) <;> with_reducible rfl
    · intro γ γ' hg
      try dsimp only
      have e1 := hg 1 (by decide)
      have e4 := hg 4 (by decide)
      have e7 := hg 7 (by decide)
      simp only [e1, e4, e7]
    · rfl
    dsimp only [nA, cA]
    apply RGW.on (i := 12) rfl
    · (simp only [gA, gB, gC] <;> rfl)
    · intro γ u W hcur hd
      obtain ⟨⟨h1, r1, -⟩, ⟨h4, r4, -⟩, ⟨h7, r7, -⟩, ⟨h10, -, -⟩, -⟩ := hd
      dsimp only at h1 h4 h7 h10 r1 r4 r7
      (try simp only [h1, h4, h7, h10])
      refine ⟨rfl, ?_⟩
      go_simp <;> (try go_bits) <;> with_reducible rfl
    · exact fun _ _ _ => rfl
    · rfl
    dsimp only [nA, cA]
    refine RGW.fin (fun γ u wd hwd hd hdis => ?_)
    obtain ⟨⟨h0, -, -⟩, ⟨h1, r1, b1⟩, ⟨h2, -, -⟩, ⟨h3, -, -⟩, ⟨h4, r4, b4⟩, ⟨h5, -, -⟩, ⟨h6, -, -⟩, ⟨h7, r7, b7⟩, ⟨h8, -, -⟩, ⟨h9, -, -⟩, ⟨h10, -, -⟩, ⟨h11, -, -⟩, ⟨h12, -, -⟩, -⟩ := hd
    dsimp only at h0 h1 h2 h3 h4 h5 h6 h7 h8 h9 h10 h11 h12 r1 r4 r7 b1 b4 b7
    clear hdis
    simp only [h0, h1, h2, h3, h4, h5, h6, h7, h8, h9, h10, h11, h12]
    clear h12 h11 h10 h9 h8 h7 h6 h5 h4 h3 h2 h1 h0
    clear u
    simp only [List.map_nil]
    refine PlanW.done ?_
    have hb3 := bl_tt hwd
    clear r1 r4
    generalize (γ 7).A = AG at *
    generalize (γ 7).c = cG at *
    replace k0 := k0.below hwd
    replace k1 := k1.below hwd
    replace k2 := k2.below hwd
    have hbw := hb3 w hb0
    have SG := r7
    clear r7 Lk0 Lk1 Lk2 Fk0 Fk1 Fk2 hb3 hb0
    have hb0 := bl_refl wd
    have Lk0 := k0.later
    have Fk0 := k0.laterF
    have Qk0 := k0.lt
    have Lk1 := k1.later
    have Fk1 := k1.laterF
    have Qk1 := k1.lt
    have Lk2 := k2.later
    have Fk2 := k2.laterF
    have Qk2 := k2.lt
    go_upto_region 7 with fail
    refine wp_any (w0 := wd) ⟨[], [], [some 44, some 45, some 46, some 47, some 48, some 49, some 50, some 43, some 51, some 52, some 11, some 12], [[], [0], [], [], [3], [0, 1, 3, 4], [0, 1, 2, 3, 4, 5], [0, 1, 2, 3, 4, 5, 6], [0, 1, 2, 3, 4, 5, 6, 7], [0, 1, 2, 3, 4, 5, 6, 7], [0, 1, 2, 3, 4, 5, 6, 7, 8], [0, 1, 2, 3, 4, 5, 6, 7, 8, 9, 10]], [[], [0], [], [], [3], [4], [1, 2, 5], [1, 5, 6], [1, 5, 6, 7], [1, 5, 6, 7], [1, 5, 6, 8], [1, 5, 6, 9]]⟩ (fun _ => []) (by kernel_rfl) (by kernel_rfl) (by (with_reducible (repeat' (first | assumption | apply jA | apply jB | apply jC | apply jD | apply jE | apply jF | apply hb3 | omega | (simp; done) | (simp; omega) | (dsimp only; omega))))) (fun u => by simp only [putD, Act.put, List.setIfInBounds_toArray, List.set_cons_zero, List.set_cons_succ, Nat.zero_add, Nat.reduceAdd]; rfl) ?_
    apply RGW.on (i := 0) rfl
    · (simp only [gA, gB, gC] <;> rfl)
    · intro γ u W hcur hd
      clear hd
      (try dsimp only)
      refine ⟨rfl, ?_⟩
      go_simp <;> (try go_bits) <;> with_reducible rfl
    · exact fun _ _ _ => rfl
    · rfl
    dsimp only [nA, cA]
    apply RGW.gh (⟨fun γ => vNt n.world (.slice (γ 1).A nl (γ 1).c), fun γ W => NtIn n (γ 1).A (γ 1).c W, fun _ => []⟩) (i := 1) rfl
    · (simp only [gA, gB, gC] <;> rfl)
    · intro γ u W hcur hd
      obtain ⟨⟨h0, -, -⟩, -⟩ := hd
      dsimp only at h0
      (try simp only [h0])
      refine ⟨rfl, fun K hK => ?_⟩
      go_simp
      (go_at_call 13; (with_reducible refine (hcp.out _ (bl_tr hbw hcur)).mono ?_); rintro e w3 ⟨Ax, cx, rfl, hb3, hox⟩; dsimp only; exact hK.out ⟨0, undef, Ax, cx⟩ _ _ (by simp [up]) hb3 (by simpa [up] using hox) (by simp))
    · intro γ γ' hg
      try dsimp only
      have e1 := hg 1 (by decide)
      simp only [e1]
      try exact ⟨trivial, fun _ h => h⟩
    · intro γ W W' hbl hR
      first | exact hR.below hbl | exact own_below hR hbl | exact trivial | exact ⟨hR.1.below hbl, hR.2⟩
    · rfl
    dsimp only [nA, cA]
    apply RGW.on (i := 2) rfl
    · (simp only [gA, gB, gC] <;> rfl)
    · intro γ u W hcur hd
      clear hd
      (try dsimp only)
      refine ⟨rfl, ?_⟩
      go_simp <;> (try go_bits) <;> with_reducible rfl
    · exact fun _ _ _ => rfl
    · rfl
    dsimp only [nA, cA]
    apply RGW.on (i := 3) rfl
    · (simp only [gA, gB, gC] <;> rfl)
    · intro γ u W hcur hd
      clear hd
      (try dsimp only)
      refine ⟨rfl, ?_⟩
      go_simp <;> (try go_bits) <;> with_reducible rfl
    · exact fun _ _ _ => rfl
    · rfl
    dsimp only [nA, cA]
    apply RGW.on (i := 4) rfl
    · (simp only [gA, gB, gC] <;> rfl)
    · intro γ u W hcur hd
      obtain ⟨⟨h3, -, -⟩, -⟩ := hd
      dsimp only at h3
      (try simp only [h3])
      refine ⟨rfl, ?_⟩
      go_simp <;> (try go_bits) <;> with_reducible rfl
    · exact fun _ _ _ => rfl
    · rfl
    dsimp only [nA, cA]
    apply RGW.gh (⟨fun γ => .slice (γ 5).A rl (γ 5).c, fun γ W => Sl cRd 4 W (γ 5).A l, fun _ => []⟩) (i := 5) rfl
    · (simp only [gA, gB, gC] <;> rfl)
    · intro γ u W hcur hd
      obtain ⟨⟨h4, -, -⟩, -⟩ := hd
      dsimp only at h4
      (try simp only [h4])
      refine ⟨rfl, fun K hK => ?_⟩
      go_simp
      (go_at_call 22; (with_reducible refine (hcr.out _ (bl_tr hbw hcur)).mono ?_); rintro e w3 ⟨Ax, cx, rfl, hb3, hox⟩; dsimp only; exact hK.out ⟨0, undef, Ax, cx⟩ _ _ (by simp [up]) hb3 (by simpa [up] using hox) (by simp))
    · intro γ γ' hg
      try dsimp only
      have e1 := hg 1 (by decide)
      have e5 := hg 5 (by decide)
      simp only [e1, e5]
      try exact ⟨trivial, fun _ h => h⟩
    · intro γ W W' hbl hR
      first | exact hR.below hbl | exact own_below hR hbl | exact trivial | exact ⟨hR.1.below hbl, hR.2⟩
    · rfl
    dsimp only [nA, cA]
    apply RGW.gh (⟨fun γ => .tuple #[.slice (γ 6).A hl (γ 6).c, .int .i64 hE], fun γ W => Sl cI 1 W (γ 6).A H, fun _ => []⟩) (i := 6) rfl
    · (simp only [gA, gB, gC] <;> rfl)
    · intro γ u W hcur hd
      obtain ⟨⟨h1, r1, -⟩, ⟨h2, -, -⟩, ⟨h5, r5, -⟩, -⟩ := hd
      dsimp only at h1 h2 h5 r1 r5
      (try simp only [h1, h2, h5])
      refine ⟨rfl, fun K hK => ?_⟩
      go_simp
      (go_at_call 39; (with_reducible refine (han.out _ _ _ _ _ r1 r5).mono ?_); rintro e w3 ⟨Ax, cx, rfl, hb3, hox⟩; dsimp only; exact hK.out ⟨0, undef, Ax, cx⟩ _ _ (by simp [up]) hb3 (by simpa [up] using hox) (by simp))
    · intro γ γ' hg
      try dsimp only
      have e1 := hg 1 (by decide)
      have e5 := hg 5 (by decide)
      have e6 := hg 6 (by decide)
      simp only [e1, e5, e6]
      try exact ⟨trivial, fun _ h => h⟩
    · intro γ W W' hbl hR
      first | exact hR.below hbl | exact own_below hR hbl | exact trivial | exact ⟨hR.1.below hbl, hR.2⟩
    · rfl
    dsimp only [nA, cA]
    apply RGW.on (i := 7) rfl
    · (simp only [gA, gB, gC] <;> rfl)
    · intro γ u W hcur hd
      obtain ⟨⟨h1, r1, -⟩, ⟨h5, r5, -⟩, ⟨h6, r6, -⟩, -⟩ := hd
      dsimp only at h1 h5 h6 r1 r5 r6
      (try simp only [h1, h5, h6])
      refine ⟨rfl, ?_⟩
      go_simp <;> (try go_bits) <;> with_reducible rfl
    · intro γ γ' hg
      try dsimp only
      have e1 := hg 1 (by decide)
      have e5 := hg 5 (by decide)
      have e6 := hg 6 (by decide)
      simp only [e1, e5, e6]
    · rfl
    dsimp only [nA, cA]
    apply RGW.on (i := 8) rfl
    · (simp only [gA, gB, gC] <;> rfl)
    · intro γ u W hcur hd
      obtain ⟨⟨h1, r1, -⟩, ⟨h5, r5, -⟩, ⟨h6, r6, -⟩, ⟨h7, -, -⟩, -⟩ := hd
      dsimp only at h1 h5 h6 h7 r1 r5 r6
      (try simp only [h1, h5, h6, h7])
      refine ⟨rfl, ?_⟩
      go_simp <;> (try go_bits) <;> with_reducible rfl
    · intro γ γ' hg
      try dsimp only
      have e1 := hg 1 (by decide)
      have e5 := hg 5 (by decide)
      have e6 := hg 6 (by decide)
      simp only [e1, e5, e6]
    · rfl
    dsimp only [nA, cA]
    apply RGW.on (i := 9) rfl
    · (simp only [gA, gB, gC] <;> rfl)
    · intro γ u W hcur hd
      obtain ⟨⟨h1, r1, -⟩, ⟨h5, r5, -⟩, ⟨h6, r6, -⟩, ⟨h7, -, -⟩, -⟩ := hd
      dsimp only at h1 h5 h6 h7 r1 r5 r6
      (try simp only [h1, h5, h6, h7])
      refine ⟨rfl, ?_⟩
      go_simp <;> (try go_bits) <;> with_reducible rfl
    · exact fun _ _ _ => rfl
    · rfl
    dsimp only [nA, cA]
    apply RGW.on (i := 10) rfl
    · (simp only [gA, gB, gC] <;> rfl)
    · intro γ u W hcur hd
      obtain ⟨⟨h1, r1, -⟩, ⟨h5, r5, -⟩, ⟨h6, r6, -⟩, ⟨h8, -, -⟩, -⟩ := hd
      dsimp only at h1 h5 h6 h8 r1 r5 r6
      (try simp only [h1, h5, h6, h8])
      refine ⟨rfl, ?_⟩
      go_simp <;> (try go_bits) <;> with_reducible rfl
    · intro γ γ' hg
      try dsimp only
      have e1 := hg 1 (by decide)
      have e5 := hg 5 (by decide)
      have e6 := hg 6 (by decide)
      simp only [e1, e5, e6]
    · rfl
    dsimp only [nA, cA]
    apply RGW.on (i := 11) rfl
    · (simp only [gA, gB, gC] <;> rfl)
    · intro γ u W hcur hd
      obtain ⟨⟨h1, r1, -⟩, ⟨h5, r5, -⟩, ⟨h6, r6, -⟩, ⟨h9, -, -⟩, -⟩ := hd
      dsimp only at h1 h5 h6 h9 r1 r5 r6
      (try simp only [h1, h5, h6, h9])
      refine ⟨rfl, ?_⟩
      go_simp <;> (try go_bits) <;> with_reducible rfl
    · exact fun _ _ _ => rfl
    · rfl
    dsimp only [nA, cA]
    refine RGW.fin (fun γ u we hwe hd hdis => ?_)
    obtain ⟨⟨h0, -, -⟩, ⟨h1, r1, b1⟩, ⟨h2, -, -⟩, ⟨h3, -, -⟩, ⟨h4, -, -⟩, ⟨h5, r5, b5⟩, ⟨h6, r6, b6⟩, ⟨h7, -, -⟩, ⟨h8, -, -⟩, ⟨h9, -, -⟩, ⟨h10, -, -⟩, ⟨h11, -, -⟩, -⟩ := hd
    dsimp only at h0 h1 h2 h3 h4 h5 h6 h7 h8 h9 h10 h11 r1 r5 r6 b1 b5 b6
    clear hdis
    simp only [h0, h1, h2, h3, h4, h5, h6, h7, h8, h9, h10, h11]
    clear h11 h10 h9 h8 h7 h6 h5 h4 h3 h2 h1 h0
    clear u
    simp only [List.map_nil]
    refine PlanW.done ?_
    have hb3 := bl_tt hwe
    clear r1 r5
    generalize (γ 6).A = AH at *
    generalize (γ 6).c = cH at *
    replace k0 := k0.below hwe
    replace k1 := k1.below hwe
    replace k2 := k2.below hwe
    replace hbw := bl_tr hbw hwe
    replace SG := SG.below hwe
    have SH := r6
    clear r6 Lk0 Lk1 Lk2 Fk0 Fk1 Fk2 hb3 hb0
    have hb0 := bl_refl we
    have Lk0 := k0.later
    have Fk0 := k0.laterF
    have Qk0 := k0.lt
    have Lk1 := k1.later
    have Fk1 := k1.laterF
    have Qk1 := k1.lt
    have Lk2 := k2.later
    have Fk2 := k2.laterF
    have Qk2 := k2.lt
    have TG := Lib.hid fun (W : World) (h : Below we.heap.size we W) => SG.below h
    have TH := Lib.hid fun (W : World) (h : Below we.heap.size we W) => SH.below h
    clear SG SH
    go_upto_region 9 with (go_at_call 40; (with_reducible refine (hne.out _ (bl_tr hbw (bl_tr hb0 (by (with_reducible (repeat' (first | assumption | apply jA | apply jB | apply jC | apply jD | apply jE | apply jF | apply hb3 | omega | (simp; done) | (simp; omega) | (dsimp only; omega)))))))).mono ?_); rintro e w3 ⟨rfl, hb3⟩; replace hb3 := bl_tt hb3)
    apply absB3 (w0 := we) (g0 := w.heap.size) (g1 := w.heap.size + 1) (g2 := w.heap.size + 2)
    iterate 4 (focus ((with_reducible (repeat' (first | assumption | apply jA | apply jB | apply jC | apply jD | apply jE | apply jF | apply hb3 | apply jG | apply jH | apply jI | apply jJ | apply jK | apply hb3x | (apply jL; first | (simp; done) | rfl) | apply jM | apply jN | apply jO | apply jP | apply jQ | apply jR | apply jS | apply jT (hb := hb3 _ (jA _)) | omega | (simp; done) | (simp; omega) | (dsimp only; omega)))); done))
    intro x1 hb0' k0' k1' k2'
    (try simp only [List.setIfInBounds_toArray, List.set_cons_zero, List.set_cons_succ] at k0' k1' k2')
    try clear hb3
    try clear Lk0
    try clear Fk0
    try clear Qk0
    try clear Lk1
    try clear Fk1
    try clear Qk1
    try clear Lk2
    try clear Fk2
    try clear Qk2
    try clear hb0
    try clear k0
    try clear k1
    try clear k2
    have hb0 := hb0'; clear hb0'
    have k0 := k0'; clear k0'
    have k1 := k1'; clear k1'
    have k2 := k2'; clear k2'
    have Lk0 := k0.later
    have Fk0 := k0.laterF
    have Qk0 := k0.lt
    have Lk1 := k1.later
    have Fk1 := k1.laterF
    have Qk1 := k1.lt
    have Lk2 := k2.later
    have Fk2 := k2.laterF
    have Qk2 := k2.lt
    by_cases h0 : ne = 0
    · subst h0
      obtain ⟨rfl, rfl⟩ := fR.out (by simp)
      clear fR fN
      go_upto_region 11 with (go_at_call 25; (with_reducible refine (hrr.out _ (bl_tr hbw (bl_tr hb0 (by (with_reducible (repeat' (first | assumption | apply jA | apply jB | apply jC | apply jD | apply jE | apply jF | apply hb3 | omega | (simp; done) | (simp; omega) | (dsimp only; omega)))))))).mono ?_); rintro e w3 ⟨rfl, hb3⟩; replace hb3 := bl_tt hb3)
      apply absB3 (w0 := we) (g0 := w.heap.size) (g1 := w.heap.size + 1) (g2 := w.heap.size + 2)
      iterate 4 (focus ((with_reducible (repeat' (first | assumption | apply jA | apply jB | apply jC | apply jD | apply jE | apply jF | apply hb3 | apply jG | apply jH | apply jI | apply jJ | apply jK | apply hb3x | (apply jL; first | (simp; done) | rfl) | apply jM | apply jN | apply jO | apply jP | apply jQ | apply jR | apply jS | apply jT (hb := hb3 _ (jA _)) | omega | (simp; done) | (simp; omega) | (dsimp only; omega)))); done))
      intro x2 hb0' k0' k1' k2'
      (try simp only [List.setIfInBounds_toArray, List.set_cons_zero, List.set_cons_succ] at k0' k1' k2')
      try clear hb3
      try clear Lk0
      try clear Fk0
      try clear Qk0
      try clear Lk1
      try clear Fk1
      try clear Qk1
      try clear Lk2
      try clear Fk2
      try clear Qk2
      try clear hb0
      try clear k0
      try clear k1
      try clear k2
      have hb0 := hb0'; clear hb0'
      have k0 := k0'; clear k0'
      have k1 := k1'; clear k1'
      have k2 := k2'; clear k2'
      have Lk0 := k0.later
      have Fk0 := k0.laterF
      have Qk0 := k0.lt
      have Lk1 := k1.later
      have Fk1 := k1.laterF
      have Qk1 := k1.lt
      have Lk2 := k2.later
      have Fk2 := k2.laterF
      have Qk2 := k2.lt
      by_cases h1 : rr = 0
      · subst h1
        cases pin
        · go_upto_region 16 with (go_at_call 30; (with_reducible refine (hin.out _).mono ?_); rintro e w3 ⟨rfl, hb3⟩; replace hb3 := bl_tt hb3)
          apply absB3 (w0 := we) (g0 := w.heap.size) (g1 := w.heap.size + 1) (g2 := w.heap.size + 2)
          iterate 4 (focus ((with_reducible (repeat' (first | assumption | apply jA | apply jB | apply jC | apply jD | apply jE | apply jF | apply hb3 | apply jG | apply jH | apply jI | apply jJ | apply jK | apply hb3x | (apply jL; first | (simp; done) | rfl) | apply jM | apply jN | apply jO | apply jP | apply jQ | apply jR | apply jS | apply jT (hb := hb3 _ (jA _)) | omega | (simp; done) | (simp; omega) | (dsimp only; omega)))); done))
          intro x3 hb0' k0' k1' k2'
          (try simp only [List.setIfInBounds_toArray, List.set_cons_zero, List.set_cons_succ] at k0' k1' k2')
          try clear hb3
          try clear Lk0
          try clear Fk0
          try clear Qk0
          try clear Lk1
          try clear Fk1
          try clear Qk1
          try clear Lk2
          try clear Fk2
          try clear Qk2
          try clear hb0
          try clear k0
          try clear k1
          try clear k2
          have hb0 := hb0'; clear hb0'
          have k0 := k0'; clear k0'
          have k1 := k1'; clear k1'
          have k2 := k2'; clear k2'
          have Lk0 := k0.later
          have Fk0 := k0.laterF
          have Qk0 := k0.lt
          have Lk1 := k1.later
          have Fk1 := k1.laterF
          have Qk1 := k1.lt
          have Lk2 := k2.later
          have Fk2 := k2.laterF
          have Qk2 := k2.lt
          obtain ⟨rfl, rfl⟩ := fP.out (by simp) (by simp) (by simp)
          clear fP fT
          go_upto_region 19 with (go_at_call 17; (with_reducible refine (hbe.out _ (bl_tr hbw (bl_tr hb0 (by (with_reducible (repeat' (first | assumption | apply jA | apply jB | apply jC | apply jD | apply jE | apply jF | apply hb3 | omega | (simp; done) | (simp; omega) | (dsimp only; omega)))))))).mono ?_); rintro e w3 ⟨rfl, hb3⟩; replace hb3 := bl_tt hb3)
          apply absB3 (w0 := we) (g0 := w.heap.size) (g1 := w.heap.size + 1) (g2 := w.heap.size + 2)
          iterate 4 (focus ((with_reducible (repeat' (first | assumption | apply jA | apply jB | apply jC | apply jD | apply jE | apply jF | apply hb3 | apply jG | apply jH | apply jI | apply jJ | apply jK | apply hb3x | (apply jL; first | (simp; done) | rfl) | apply jM | apply jN | apply jO | apply jP | apply jQ | apply jR | apply jS | apply jT (hb := hb3 _ (jA _)) | omega | (simp; done) | (simp; omega) | (dsimp only; omega)))); done))
          intro x5 hb0' k0' k1' k2'
          (try simp only [List.setIfInBounds_toArray, List.set_cons_zero, List.set_cons_succ] at k0' k1' k2')
          try clear hb3
          try clear Lk0
          try clear Fk0
          try clear Qk0
          try clear Lk1
          try clear Fk1
          try clear Qk1
          try clear Lk2
          try clear Fk2
          try clear Qk2
          try clear hb0
          try clear k0
          try clear k1
          try clear k2
          have hb0 := hb0'; clear hb0'
          have k0 := k0'; clear k0'
          have k1 := k1'; clear k1'
          have k2 := k2'; clear k2'
          have Lk0 := k0.later
          have Fk0 := k0.laterF
          have Qk0 := k0.lt
          have Lk1 := k1.later
          have Fk1 := k1.laterF
          have Qk1 := k1.lt
          have Lk2 := k2.later
          have Fk2 := k2.laterF
          have Qk2 := k2.lt
          by_cases hb : be = 0
          · subst hb
            obtain ⟨rfl, hrs⟩ := fA.out (by simp) (by simp) (by simp)
            clear fA
            go_wp2_with (first | (go_at_call 43; (with_reducible refine (hrs _ (bl_tr hbw (bl_tr hb0 (by (with_reducible (repeat' (first | assumption | apply jA | apply jB | apply jC | apply jD | apply jE | apply jF | apply hb3 | omega | (simp; done) | (simp; omega) | (dsimp only; omega)))))))).mono ?_); rintro e w3 ⟨Aq, cq, rfl, hb3, hoq⟩; replace hb3 := bl_tt hb3) | (go_at_call 41; (with_reducible refine (hiH.out _ _ _ _ _ _ (TH.out _ (bl_tr hb0 (hb3 _ (by (with_reducible (repeat' (first | assumption | apply jA | apply jB | apply jC | apply jD | apply jE | apply jF | apply hb3 | omega | (simp; done) | (simp; omega) | (dsimp only; omega)))))))) hoq).mono ?_); rintro e w4 ⟨rfl, hb4⟩; replace hb3 := fun w h => bl_tt hb4 w (hb3 w h)))
            go_ret
            exact ⟨rfl, bl_tr hbw (hb3 _ hb0)⟩
          · obtain ⟨rfl, rfl⟩ := fB.out hb
            clear fB
            have hb' := bne_ne' hb
            replace hb := Lib.hid hb
            go_wp2
            go_ret
            exact ⟨by simp, bl_tr hbw hb0⟩
        · go_upto_region 16 with (go_at_call 30; (with_reducible refine (hin.out _).mono ?_); rintro e w3 ⟨rfl, hb3⟩; replace hb3 := bl_tt hb3)
          apply absB3 (w0 := we) (g0 := w.heap.size) (g1 := w.heap.size + 1) (g2 := w.heap.size + 2)
          iterate 4 (focus ((with_reducible (repeat' (first | assumption | apply jA | apply jB | apply jC | apply jD | apply jE | apply jF | apply hb3 | apply jG | apply jH | apply jI | apply jJ | apply jK | apply hb3x | (apply jL; first | (simp; done) | rfl) | apply jM | apply jN | apply jO | apply jP | apply jQ | apply jR | apply jS | apply jT (hb := hb3 _ (jA _)) | omega | (simp; done) | (simp; omega) | (dsimp only; omega)))); done))
          intro x3 hb0' k0' k1' k2'
          (try simp only [List.setIfInBounds_toArray, List.set_cons_zero, List.set_cons_succ] at k0' k1' k2')
          try clear hb3
          try clear Lk0
          try clear Fk0
          try clear Qk0
          try clear Lk1
          try clear Fk1
          try clear Qk1
          try clear Lk2
          try clear Fk2
          try clear Qk2
          try clear hb0
          try clear k0
          try clear k1
          try clear k2
          have hb0 := hb0'; clear hb0'
          have k0 := k0'; clear k0'
          have k1 := k1'; clear k1'
          have k2 := k2'; clear k2'
          have Lk0 := k0.later
          have Fk0 := k0.laterF
          have Qk0 := k0.lt
          have Lk1 := k1.later
          have Fk1 := k1.laterF
          have Qk1 := k1.lt
          have Lk2 := k2.later
          have Fk2 := k2.laterF
          have Qk2 := k2.lt
          obtain ⟨rfl, hra⟩ := fT.out (by simp) (by simp) (by simp)
          clear fP fT
          go_upto_region 18 with (first | (go_at_call 42; (with_reducible refine (hra _ (bl_tr hbw (bl_tr hb0 (by (with_reducible (repeat' (first | assumption | apply jA | apply jB | apply jC | apply jD | apply jE | apply jF | apply hb3 | omega | (simp; done) | (simp; omega) | (dsimp only; omega)))))))).mono ?_); rintro e w3 ⟨Aq, cq, rfl, hb3, hoq⟩; replace hb3 := bl_tt hb3) | (go_at_call 41; (with_reducible refine (hiG.out _ _ _ _ _ _ (TG.out _ (bl_tr hb0 (hb3 _ (by (with_reducible (repeat' (first | assumption | apply jA | apply jB | apply jC | apply jD | apply jE | apply jF | apply hb3 | omega | (simp; done) | (simp; omega) | (dsimp only; omega)))))))) hoq).mono ?_); rintro e w4 ⟨rfl, hb4⟩; replace hb3 := fun w h => bl_tt hb4 w (hb3 w h)))
          clear hoq
          apply absB3 (w0 := we) (g0 := w.heap.size) (g1 := w.heap.size + 1) (g2 := w.heap.size + 2)
          iterate 4 (focus ((with_reducible (repeat' (first | assumption | apply jA | apply jB | apply jC | apply jD | apply jE | apply jF | apply hb3 | apply jG | apply jH | apply jI | apply jJ | apply jK | apply hb3x | (apply jL; first | (simp; done) | rfl) | apply jM | apply jN | apply jO | apply jP | apply jQ | apply jR | apply jS | apply jT (hb := hb3 _ (jA _)) | omega | (simp; done) | (simp; omega) | (dsimp only; omega)))); done))
          intro x4 hb0' k0' k1' k2'
          (try simp only [List.setIfInBounds_toArray, List.set_cons_zero, List.set_cons_succ] at k0' k1' k2')
          try clear hb3
          try clear Lk0
          try clear Fk0
          try clear Qk0
          try clear Lk1
          try clear Fk1
          try clear Qk1
          try clear Lk2
          try clear Fk2
          try clear Qk2
          try clear hb0
          try clear k0
          try clear k1
          try clear k2
          have hb0 := hb0'; clear hb0'
          have k0 := k0'; clear k0'
          have k1 := k1'; clear k1'
          have k2 := k2'; clear k2'
          have Lk0 := k0.later
          have Fk0 := k0.laterF
          have Qk0 := k0.lt
          have Lk1 := k1.later
          have Fk1 := k1.laterF
          have Qk1 := k1.lt
          have Lk2 := k2.later
          have Fk2 := k2.laterF
          have Qk2 := k2.lt
          go_upto_region 19 with (go_at_call 17; (with_reducible refine (hbe.out _ (bl_tr hbw (bl_tr hb0 (by (with_reducible (repeat' (first | assumption | apply jA | apply jB | apply jC | apply jD | apply jE | apply jF | apply hb3 | omega | (simp; done) | (simp; omega) | (dsimp only; omega)))))))).mono ?_); rintro e w3 ⟨rfl, hb3⟩; replace hb3 := bl_tt hb3)
          apply absB3 (w0 := we) (g0 := w.heap.size) (g1 := w.heap.size + 1) (g2 := w.heap.size + 2)
          iterate 4 (focus ((with_reducible (repeat' (first | assumption | apply jA | apply jB | apply jC | apply jD | apply jE | apply jF | apply hb3 | apply jG | apply jH | apply jI | apply jJ | apply jK | apply hb3x | (apply jL; first | (simp; done) | rfl) | apply jM | apply jN | apply jO | apply jP | apply jQ | apply jR | apply jS | apply jT (hb := hb3 _ (jA _)) | omega | (simp; done) | (simp; omega) | (dsimp only; omega)))); done))
          intro x5 hb0' k0' k1' k2'
          (try simp only [List.setIfInBounds_toArray, List.set_cons_zero, List.set_cons_succ] at k0' k1' k2')
          try clear hb3
          try clear Lk0
          try clear Fk0
          try clear Qk0
          try clear Lk1
          try clear Fk1
          try clear Qk1
          try clear Lk2
          try clear Fk2
          try clear Qk2
          try clear hb0
          try clear k0
          try clear k1
          try clear k2
          have hb0 := hb0'; clear hb0'
          have k0 := k0'; clear k0'
          have k1 := k1'; clear k1'
          have k2 := k2'; clear k2'
          have Lk0 := k0.later
          have Fk0 := k0.laterF
          have Qk0 := k0.lt
          have Lk1 := k1.later
          have Fk1 := k1.laterF
          have Qk1 := k1.lt
          have Lk2 := k2.later
          have Fk2 := k2.laterF
          have Qk2 := k2.lt
          by_cases hb : be = 0
          · subst hb
            obtain ⟨rfl, hrs⟩ := fA.out (by simp) (by simp) (by simp)
            clear fA
            go_wp2_with (first | (go_at_call 43; (with_reducible refine (hrs _ (bl_tr hbw (bl_tr hb0 (by (with_reducible (repeat' (first | assumption | apply jA | apply jB | apply jC | apply jD | apply jE | apply jF | apply hb3 | omega | (simp; done) | (simp; omega) | (dsimp only; omega)))))))).mono ?_); rintro e w3 ⟨Aq, cq, rfl, hb3, hoq⟩; replace hb3 := bl_tt hb3) | (go_at_call 41; (with_reducible refine (hiH.out _ _ _ _ _ _ (TH.out _ (bl_tr hb0 (hb3 _ (by (with_reducible (repeat' (first | assumption | apply jA | apply jB | apply jC | apply jD | apply jE | apply jF | apply hb3 | omega | (simp; done) | (simp; omega) | (dsimp only; omega)))))))) hoq).mono ?_); rintro e w4 ⟨rfl, hb4⟩; replace hb3 := fun w h => bl_tt hb4 w (hb3 w h)))
            go_ret
            exact ⟨rfl, bl_tr hbw (hb3 _ hb0)⟩
          · obtain ⟨rfl, rfl⟩ := fB.out hb
            clear fB
            have hb' := bne_ne' hb
            replace hb := Lib.hid hb
            go_wp2
            go_ret
            exact ⟨by simp, bl_tr hbw hb0⟩
      · obtain ⟨rfl, rfl⟩ := fR2.out (by simp) h1
        clear fR2 fP fT fA
        have h1' := bne_ne' h1
        go_upto_region 19 with (go_at_call 17; (with_reducible refine (hbe.out _ (bl_tr hbw (bl_tr hb0 (by (with_reducible (repeat' (first | assumption | apply jA | apply jB | apply jC | apply jD | apply jE | apply jF | apply hb3 | omega | (simp; done) | (simp; omega) | (dsimp only; omega)))))))).mono ?_); rintro e w3 ⟨rfl, hb3⟩; replace hb3 := bl_tt hb3)
        apply absB3 (w0 := we) (g0 := w.heap.size) (g1 := w.heap.size + 1) (g2 := w.heap.size + 2)
        iterate 4 (focus ((with_reducible (repeat' (first | assumption | apply jA | apply jB | apply jC | apply jD | apply jE | apply jF | apply hb3 | apply jG | apply jH | apply jI | apply jJ | apply jK | apply hb3x | (apply jL; first | (simp; done) | rfl) | apply jM | apply jN | apply jO | apply jP | apply jQ | apply jR | apply jS | apply jT (hb := hb3 _ (jA _)) | omega | (simp; done) | (simp; omega) | (dsimp only; omega)))); done))
        intro x5 hb0' k0' k1' k2'
        (try simp only [List.setIfInBounds_toArray, List.set_cons_zero, List.set_cons_succ] at k0' k1' k2')
        try clear hb3
        try clear Lk0
        try clear Fk0
        try clear Qk0
        try clear Lk1
        try clear Fk1
        try clear Qk1
        try clear Lk2
        try clear Fk2
        try clear Qk2
        try clear hb0
        try clear k0
        try clear k1
        try clear k2
        have hb0 := hb0'; clear hb0'
        have k0 := k0'; clear k0'
        have k1 := k1'; clear k1'
        have k2 := k2'; clear k2'
        have Lk0 := k0.later
        have Fk0 := k0.laterF
        have Qk0 := k0.lt
        have Lk1 := k1.later
        have Fk1 := k1.laterF
        have Qk1 := k1.lt
        have Lk2 := k2.later
        have Fk2 := k2.laterF
        have Qk2 := k2.lt
        by_cases hb : be = 0
        · subst hb
          obtain ⟨rfl, rfl⟩ := fR3.out (by simp) (by simp) h1
          clear fR3
          replace h1 := Lib.hid h1
          go_wp2
          go_ret
          exact ⟨by simp, bl_tr hbw hb0⟩
        · obtain ⟨rfl, rfl⟩ := fB.out hb
          clear fB
          have hb' := bne_ne' hb
          replace hb := Lib.hid hb
          go_wp2
          go_ret
          exact ⟨by simp, bl_tr hbw hb0⟩
    · obtain ⟨rfl, rfl, rfl, rfl, rfl, rfl, rfl⟩ := fN.out h0
      clear fN fR fR2 fR3 fB fP fT fA
      have h0' := bne_ne' h0
      replace h0 := Lib.hid h0
      go_upto_region 19 with (go_at_call 17; (with_reducible refine (hbe.out _ (bl_tr hbw (bl_tr hb0 (by (with_reducible (repeat' (first | assumption | apply jA | apply jB | apply jC | apply jD | apply jE | apply jF | apply hb3 | omega | (simp; done) | (simp; omega) | (dsimp only; omega)))))))).mono ?_); rintro e w3 ⟨rfl, hb3⟩; replace hb3 := bl_tt hb3)
      apply absB3 (w0 := we) (g0 := w.heap.size) (g1 := w.heap.size + 1) (g2 := w.heap.size + 2)
      iterate 4 (focus ((with_reducible (repeat' (first | assumption | apply jA | apply jB | apply jC | apply jD | apply jE | apply jF | apply hb3 | apply jG | apply jH | apply jI | apply jJ | apply jK | apply hb3x | (apply jL; first | (simp; done) | rfl) | apply jM | apply jN | apply jO | apply jP | apply jQ | apply jR | apply jS | apply jT (hb := hb3 _ (jA _)) | omega | (simp; done) | (simp; omega) | (dsimp only; omega)))); done))
      intro x5 hb0' k0' k1' k2'
      (try simp only [List.setIfInBounds_toArray, List.set_cons_zero, List.set_cons_succ] at k0' k1' k2')
      try clear hb3
      try clear Lk0
      try clear Fk0
      try clear Qk0
      try clear Lk1
      try clear Fk1
      try clear Qk1
      try clear Lk2
      try clear Fk2
      try clear Qk2
      try clear hb0
      try clear k0
      try clear k1
      try clear k2
      have hb0 := hb0'; clear hb0'
      have k0 := k0'; clear k0'
      have k1 := k1'; clear k1'
      have k2 := k2'; clear k2'
      have Lk0 := k0.later
      have Fk0 := k0.laterF
      have Qk0 := k0.lt
      have Lk1 := k1.later
      have Fk1 := k1.laterF
      have Qk1 := k1.lt
      have Lk2 := k2.later
      have Fk2 := k2.laterF
      have Qk2 := k2.lt
      go_wp2
      go_ret
      exact ⟨by simp, bl_tr hbw hb0⟩
end Go.Proofs.Ytephimmamkafoaa
