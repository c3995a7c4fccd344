/-
  Walk: the law of wrong readings.
-/
import Derived.Test.YtephimmamkafoaaH22
import Derived.Test.YtephimmamkafoaaH23
namespace Go.Proofs.Ytephimmamkafoaa
set_option linter.unusedSimpArgs false
set_option linter.unusedVariables false
open Go.RowKit Go.Shelf
attribute [local go_sem] bl_al bl_drew bl_drewN bl_refl bx_al bx_drew bx_drewN bx_refl
set_option maxRecDepth 20000
theorem bne_ne'' {x : Int} (h : x ≠ 0) : (x != 0) = true := by simp [h]
theorem fst_ne3 {x : Int} {l : List Int} (h : x ≠ 0) : fstE (x :: l) = x := by simp [fstE, h]
theorem fst_eq3 {l : List Int} : fstE (0 :: l) = fstE l := by simp [fstE]
theorem wrongL_le (bs : List Bc) (l : List Rd) (p : Pl) : (wrongL bs l p).length ≤ l.length := by
  have := wrongL_len bs l p
  omega
/-- A valid box's positions lie in the world. -/
theorem box_has {n : Nt} {b : Bx} (h : boxErr n b = 0) {p : Pl} (hp : b.has p = true) : n.world.has p = true := by
  obtain ⟨-, -, h3⟩ := box_zero h
  rw [Bx.holds_iff] at h3
  rw [has_iff] at hp ⊢
  omega
/-- A vote for the readings that are wrong at one position of the box. -/
theorem voted_at {n : Nt} {b : Bx} {l : List Rd} {p : Pl} {k : Int} (h0 : boxErr n b = 0) (h1 : readsErr n l = 0) (hs : b.size ≤ 20000) (hk : 0 ≤ k ∧ k ≤ l.length) (hp : p ∈ b.pts) (hok : okB n.bs l k p = true) :
    (votedS n b ⟨l, k⟩).2.2 = 0 ∧ (votedS n b ⟨l, k⟩).1.has p = true := by
  have hE : votedE n b ⟨l, k⟩ = 0 := by
    unfold votedE voteE
    rw [h0, h1, inR_iff.2 hk]
    rfl
  have hi := votes_inv (okB n.bs l k) b.pts
  have hne : (votesB n b ⟨l, k⟩).2 ≠ 0 := by
    show (votesOf (okB n.bs l k) b.pts).2 ≠ 0
    rw [hi.1]
    intro h
    exact List.countP_eq_zero.1 h p hp hok
  rw [votedS, if_pos hE, if_pos hs, if_neg hne]
  exact ⟨rfl, (hi.2 hne).1 p hp hok⟩
theorem voted_none {n : Nt} {b : Bx} {l : List Rd} {k : Int} (h0 : boxErr n b = 0) (h1 : readsErr n l = 0) (hs : b.size ≤ 20000) (hk : 0 ≤ k ∧ k ≤ l.length) (hok : ∀ p ∈ b.pts, okB n.bs l k p = false) :
    votedS n b ⟨l, k⟩ = (bx0, 0, 12) := by
  have hE : votedE n b ⟨l, k⟩ = 0 := by
    unfold votedE voteE
    rw [h0, h1, inR_iff.2 hk]
    rfl
  have hi := votes_inv (okB n.bs l k) b.pts
  have hne : (votesB n b ⟨l, k⟩).2 = 0 := by
    show (votesOf (okB n.bs l k) b.pts).2 = 0
    rw [hi.1]
    exact List.countP_eq_zero.2 fun p hp h => by rw [hok p hp] at h; cases h
  rw [votedS, if_pos hE, if_pos hs, if_pos hne]
theorem okB_at {bs : List Bc} {l : List Rd} {k : Int} {p : Pl} (h : l.length ≤ 8) : okB bs l k p = decide (((wrongL bs l p).length : Int) ≤ k) := by
  rw [okB_ref bs l k p h, Bool.eq_iff_iff]
  have := wrongL_len bs l p
  simp
  omega
set_option maxHeartbeats 16000000 in
theorem l_FixWrong (n : Nt) (b : Bx) (l : List Rd) (A A' : Option Addr) (c c' : Nat) (w : World) (hs : Sl cBc 4 w A n.bs) (hc : n.bs.length ≤ c) (hnm : ∀ b ∈ n.bs, b.name.size ≤ maxLen) (hl : Sl cRd 4 w A' l) :
    Calls Try.prog 7 #[vNt n.world (.slice A n.bs.length c), vBx b, .slice A' l.length c'] w (Ret (.bool true) w) := by
  have hfw := Lib.hid fun W : World => r_few n A A' c c' l.length W
  obtain ⟨F, hF⟩ : ∃ F, (decide (n.bs.length ≤ 8) && decide (l.length ≤ 10)) = F := ⟨_, rfl⟩
  rw [hF] at hfw
  cases F
  · clear hF hs hc hnm hl
    generalize n.bs.length = nl at *
    generalize l.length = rl at *
    go_enter Try.func7, Try.ntmps7
    go_upto_region 3 with (go_at_call 10; (with_reducible refine (r_awake _).mono ?_); rintro e w3 ⟨rfl, hb3⟩; replace hb3 := bl_tt hb3)
    apply absB2 (w0 := w) (g0 := w.heap.size) (g1 := w.heap.size + 1)
    iterate 3 (focus ((with_reducible (repeat' (first | assumption | apply jA | apply jB | apply jC | apply jD | apply jE | apply jF | apply hb3 | apply jG | apply jH | apply jI | apply jJ | apply jK | apply hb3x | (apply jL; first | (simp; done) | rfl) | apply jM | apply jN | apply jO | apply jP | apply jQ | apply jR | apply jS | apply jT (hb := hb3 _ (jA _)) | omega | (simp; done) | (simp; omega) | (dsimp only; omega)))); done))
    intro wa hb0' k0' k1'
    (try simp only [List.setIfInBounds_toArray, List.set_cons_zero, List.set_cons_succ] at k0' k1')
    try clear hb3
    try clear hb0
    try clear k0
    try clear k1
    have hb0 := hb0'; clear hb0'
    have k0 := k0'; clear k0'
    have k1 := k1'; clear k1'
    have Lk0 := k0.later
    have Fk0 := k0.laterF
    have Qk0 := k0.lt
    have Lk1 := k1.later
    have Fk1 := k1.laterF
    have Qk1 := k1.lt
    go_wp2_with (go_at_call 11; (with_reducible refine (hfw.out _).mono ?_); rintro e w3 ⟨rfl, hb3⟩; replace hb3 := bl_tt hb3)
    go_ret
    exact ⟨rfl, hb3 _ hb0⟩
  · simp only [Bool.and_eq_true, decide_eq_true_eq] at hF
    have hn : NtIn n A c w := ⟨by omega, hc, hnm, hs⟩
    have hll : l.length ≤ 1000 := by omega
    have hli := Lib.hid fun (W : World) (hb : Below w.heap.size w W) => r_light n b A c W (hn.below hb)
    obtain ⟨L, hL⟩ : ∃ L, lightB n b = L := ⟨_, rfl⟩
    rw [hL] at hli
    cases L
    · clear hF hs hc hnm hl hL hn hll
      generalize n.bs.length = nl at *
      generalize l.length = rl at *
      go_enter Try.func7, Try.ntmps7
      go_upto_region 3 with (go_at_call 10; (with_reducible refine (r_awake _).mono ?_); rintro e w3 ⟨rfl, hb3⟩; replace hb3 := bl_tt hb3)
      apply absB2 (w0 := w) (g0 := w.heap.size) (g1 := w.heap.size + 1)
      iterate 3 (focus ((with_reducible (repeat' (first | assumption | apply jA | apply jB | apply jC | apply jD | apply jE | apply jF | apply hb3 | apply jG | apply jH | apply jI | apply jJ | apply jK | apply hb3x | (apply jL; first | (simp; done) | rfl) | apply jM | apply jN | apply jO | apply jP | apply jQ | apply jR | apply jS | apply jT (hb := hb3 _ (jA _)) | omega | (simp; done) | (simp; omega) | (dsimp only; omega)))); done))
      intro wa hb0' k0' k1'
      (try simp only [List.setIfInBounds_toArray, List.set_cons_zero, List.set_cons_succ] at k0' k1')
      try clear hb3
      try clear hb0
      try clear k0
      try clear k1
      have hb0 := hb0'; clear hb0'
      have k0 := k0'; clear k0'
      have k1 := k1'; clear k1'
      have Lk0 := k0.later
      have Fk0 := k0.laterF
      have Qk0 := k0.lt
      have Lk1 := k1.later
      have Fk1 := k1.laterF
      have Qk1 := k1.lt
      go_wp2_with (first | (go_at_call 11; (with_reducible refine (hfw.out _).mono ?_); rintro e w3 ⟨rfl, hb3⟩; replace hb3 := bl_tt hb3; have hv := hb3 wa (by (with_reducible (repeat' (first | assumption | apply jA | apply jB | apply jC | apply jD | apply jE | apply jF | apply hb3 | omega | (simp; done) | (simp; omega) | (dsimp only; omega)))))) | (go_at_call 20; (with_reducible refine (hli.out _ (bl_tr hb0 hv)).mono ?_); rintro e w3 ⟨rfl, hb4⟩; replace hb3 := fun w h => bl_tt hb4 w (hb3 w h)))
      go_ret
      exact ⟨rfl, hb3 _ hb0⟩
    · have hcp := Lib.hid fun (W : World) (hb : Below w.heap.size w W) => r_CopyNet n A c W (hn.below hb)
      have hcr : Hid (∀ W : World, Below w.heap.size w W → Calls Try.prog 22 #[.slice A' l.length c'] W (fun x w' => ∃ A2 c2, x = .returned (.slice A2 l.length c2) ∧ Below W.heap.size W w' ∧ Sl cRd 4 w' A2 l)) := fun W hb => (r_CopyReadings l A' c' W (hl.below hb) hll).mono fun x w' ⟨A2, c2, e, h1, h2⟩ => ⟨A2, c2, e, h1, own_slC (cs := cRd) (fun _ => rfl) (by decide) h2⟩
      have hbe := Lib.hid fun (W : World) (hb : Below w.heap.size w W) => r_BoxErr n b A c W (hn.below hb)
      have hrr := Lib.hid fun (W : World) (hb : Below w.heap.size w W) => r_CheckReadings n.world n.bs.length l A A' c c' W (hl.below hb) hll (by omega)
      have hil := Lib.hid fun (h : boxErr n b = 0) (W : World) => r_IsLarge b W (box_ok h)
      obtain ⟨S, hS⟩ : ∃ S, wrongS n b l = S := ⟨_, rfl⟩
      obtain ⟨wl, wp, we⟩ := S
      have hwr : Hid (∀ (W : World) (A A' : Option Addr) (c c' : Nat), NtIn n A c W → Sl cRd 4 W A' l → Calls Try.prog 44 #[vNt n.world (.slice A n.bs.length c), vBx b, .slice A' l.length c'] W (fun e w' => ∃ A2 c2, e = .returned (.tuple #[.slice A2 wl.length c2, vPl wp, .int .i64 we]) ∧ Below W.heap.size W w' ∧ w'.ownsRow W.heap.size 3 1 (.slice A2 wl.length c2) wl.length (wl.map (.int .i64)))) := fun W A A' c c' h h' => by
        have := c_WrongOf n b l A A' c c' W h h' hll (by omega)
        rw [hS] at this
        exact this
      have hrf : boxErr n b = 0 → (refReads n.bs.length l).2 = readsErr n l := fun h0 => by rw [refReads_eq (box_zero h0).1]; rfl
      have fB : Hid (boxErr n b ≠ 0 → we = boxErr n b ∧ wl.length = 0 ∧ wp = ⟨0, 0, 0⟩) := fun h0 => by
        have e : wrongE n b l = boxErr n b := fst_ne3 h0
        rw [wrongS, if_neg (by rw [e]; exact h0), e] at hS
        injection hS with h1 h2
        injection h2 with h2 h3
        exact ⟨h3.symm, by rw [← h1]; rfl, h2.symm⟩
      have fR : Hid (boxErr n b = 0 → (refReads n.bs.length l).2 ≠ 0 → we = (refReads n.bs.length l).2 ∧ wl.length = 0 ∧ wp = ⟨0, 0, 0⟩) := fun h0 h1 => by
        rw [hrf h0] at h1 ⊢
        have e : wrongE n b l = readsErr n l := by rw [wrongE, h0, fst_eq3, fst_ne3 h1]
        rw [wrongS, if_neg (by rw [e]; exact h1), e] at hS
        injection hS with h1 h2
        injection h2 with h2 h3
        exact ⟨h3.symm, by rw [← h1]; rfl, h2.symm⟩
      have hE : boxErr n b = 0 → (refReads n.bs.length l).2 = 0 → wrongE n b l = 0 := fun h0 h1 => by
        rw [hrf h0] at h1
        rw [wrongE, h0, h1]
        rfl
      have fL : Hid (boxErr n b = 0 → (refReads n.bs.length l).2 = 0 → decide (20000 < b.size) = true → we = 8 ∧ wl.length = 0 ∧ wp = ⟨0, 0, 0⟩) := fun h0 h1 h2 => by
        rw [wrongS, if_pos (hE h0 h1), if_neg (by simpa using h2)] at hS
        injection hS with h1 h2
        injection h2 with h2 h3
        exact ⟨h3.symm, by rw [← h1]; rfl, h2.symm⟩
      obtain ⟨al, hal⟩ : ∃ k, (agrL n.bs l wp).length = k := ⟨_, rfl⟩
      have fK : Hid (boxErr n b = 0 → (refReads n.bs.length l).2 = 0 → decide (20000 < b.size) = false → we = 0
          ∧ (∀ W : World, Below w.heap.size w W → Calls Try.prog 45 #[vNt n.world (.slice A n.bs.length c), vBx b, .slice A' l.length c'] W (fun e w' => ∃ A2 c2, e = .returned (.tuple #[.slice A2 wl.length c2, vPl wp]) ∧ Below W.heap.size W w' ∧ w'.ownsRow W.heap.size 3 1 (.slice A2 wl.length c2) wl.length (wl.map (.int .i64))))
          ∧ (∀ (W : World) (A A' : Option Addr) (c c' : Nat), NtIn n A c W → Sl cRd 4 W A' l → Calls Try.prog 38 #[vNt n.world (.slice A n.bs.length c), .slice A' l.length c', vPl wp] W (fun e w' => ∃ A2 c2, e = .returned (.tuple #[.slice A2 al c2, .int .i64 0]) ∧ Below W.heap.size W w'))
          ∧ al + wl.length = l.length
          ∧ (∀ (W : World) (A A' : Option Addr) (c c' : Nat), NtIn n A c W → Sl cRd 4 W A' l → Calls Try.prog 23 #[vNt n.world (.slice A n.bs.length c), vBx b, vVt A' l.length c' (wl.length : Int)] W (Ret (.tuple #[vBx (votedS n b ⟨l, (wl.length : Int)⟩).1, .int .i64 (votedS n b ⟨l, (wl.length : Int)⟩).2.1, .int .i64 0]) W))
          ∧ (∀ W : World, Calls Try.prog 30 #[vBx (votedS n b ⟨l, (wl.length : Int)⟩).1, vPl wp] W (Ret (.bool true) W))
          ∧ (wl.length ≠ 0 → ∀ (W : World) (A A' : Option Addr) (c c' : Nat), NtIn n A c W → Sl cRd 4 W A' l → Calls Try.prog 23 #[vNt n.world (.slice A n.bs.length c), vBx b, vVt A' l.length c' ((wl.length : Int) - 1)] W (Ret (.tuple #[vBx bx0, .int .i64 0, .int .i64 12]) W))) := fun h0 h1 h2 => by
        have hsz : b.size ≤ 20000 := by simpa using h2
        have hw0 := hE h0 h1
        have h1' : readsErr n l = 0 := by rw [← hrf h0]; exact h1
        rw [wrongS, if_pos hw0, if_pos hsz] at hS
        injection hS with e1 e2
        injection e2 with e2 e3
        obtain ⟨hbo, hl8, hro⟩ := wrong_ok hw0
        obtain ⟨hi1, hi2⟩ := best_inv (wrongL n.bs l) b.pts
        obtain ⟨hm, hg, hmin⟩ := hi2 (pts_ne (box_zero h0).2.1)
        have hwl : wl = wrongL n.bs l wp := by rw [← e1, ← e2]; exact hg
        have hwp : wp ∈ b.pts := by rw [← e2]; exact hm
        have hlen := wrongL_len n.bs l wp
        rw [← hwl, hal] at hlen
        have hk : 0 ≤ (wl.length : Int) ∧ (wl.length : Int) ≤ l.length := by omega
        have hv := voted_at (k := (wl.length : Int)) h0 h1' hsz hk hwp (by rw [okB_at hl8, ← hwl]; simp)
        have hhas := mem_pts.1 hwp
        refine ⟨e3.symm, fun W hb => ?_, fun W A A' c c' h h' => ?_, hlen, fun W A A' c c' h h' => ?_, fun W => ?_, fun hne W A A' c c' h h' => ?_⟩
        · have := r_Wrong0 n.world b n.bs.length l.length A A' c c' (agrL n.bs l) (wrongL n.bs l) W
            (Lib.hid fun W' hb' p hp => r_Agreeing n.world n.bs A A' c c' l p W' (hn.sl.below (bl_tr hb hb')) (by omega) (hl.below (bl_tr hb hb')) hll hp hro)
            (Lib.hid fun p W' Ax cx hx => by
              have := r_others l.length (agrL n.bs l p) Ax cx W' hx (agrL_le n.bs l p hl8) hll
              rw [others_wrong] at this
              exact this)
            (Lib.hid fun p => Nat.le_trans (wrongL_le n.bs l p) hll) (Lib.hid fun p hp => pts_in hbo hp) hbo.in
          have e1' : (bestOf (wrongL n.bs l) b.pts).1 = wl := e1
          have e2' : (bestOf (wrongL n.bs l) b.pts).2.1 = wp := e2
          rw [e1', e2'] at this
          exact this
        · have hag : agreeE n l wp = 0 := by
            unfold agreeE
            rw [(box_zero h0).1, h1', box_has h0 hhas]
            rfl
          have := c_AgreeingWith n l wp A A' c c' W h h' hll (by omega) agree_ok
          refine this.mono fun x w' ⟨A2, c2, e, h1, h2⟩ => ⟨A2, c2, ?_, h1⟩
          rw [e, hag, agreeS, if_pos hag, agrL_idxs, hal]
        · have := c_VotedIn n b ⟨l, (wl.length : Int)⟩ A A' c c' W h h' hll (by omega)
          rw [hv.1] at this
          exact this
        · have := r_IsIn (votedS n b ⟨l, (wl.length : Int)⟩).1 wp W
          rw [hv.2] at this
          exact this
        · have := c_VotedIn n b ⟨l, (wl.length : Int) - 1⟩ A A' c c' W h h' hll (by omega)
          rw [voted_none h0 h1' hsz (by omega) (fun p hp => by
            rw [okB_at hl8]
            have h5 := hmin p hp
            have e1' : (bestOf (wrongL n.bs l) b.pts).1 = wl := e1
            rw [e1'] at h5
            simp
            omega)] at this
          exact this
      have hgl8 : wl.length ≤ 1000 := by
        have h1 : (wrongS n b l).1.length ≤ l.length := by
          unfold wrongS
          split
          · split
            · exact bestOf_len (fun p => wrongL_le n.bs l p) b.pts
            · simp
          · simp
        rw [hS] at h1
        exact Nat.le_trans h1 hll
      have hi : Hid (∀ (W : World) (A B : Option Addr) (c d : Nat), Sl cI 1 W A wl → Sl cI 1 W B wl → Calls Try.prog 41 #[.slice A wl.length c, .slice B wl.length d] W (Ret (.bool true) W)) := fun W A B c d h1 h2 => by
        have := r_Ints wl wl A B c d W h1 h2 hgl8 hgl8
        simpa [intsB] using this
      have hrl : l.length ≤ 10 := by omega
      have hog : Hid (∀ (W w' : World) (A : Option Addr) (c : Nat), w'.ownsRow W.heap.size 3 1 (.slice A wl.length c) wl.length (wl.map (.int .i64)) → ∃ n, OwnG wl ⟨n, undef, A, c⟩ w' ∧ ∀ x ∈ blG wl ⟨n, undef, A, c⟩, W.heap.size ≤ x ∧ x < w'.heap.size) := fun W w' A c h => own_gh h
      have hos : Hid (∀ (w' : World) (b : Nat) (A : Option Addr) (c : Nat), w'.ownsRow b 3 1 (.slice A wl.length c) wl.length (wl.map (.int .i64)) → Sl cI 1 w' A wl) := fun w' b A c h => own_sl h
      clear hF hs hc hnm hl hL hn hll hE hrf hS hal
      generalize votedS n b ⟨l, (wl.length : Int)⟩ = V1 at *
      obtain ⟨vb, vk, ve⟩ := V1
      dsimp only [bx0] at fK
      generalize (refReads n.bs.length l).1 = ri at *
      generalize (refReads n.bs.length l).2 = rr at *
      generalize decide (20000 < b.size) = lg at *
      generalize boxErr n b = be at *
      generalize wl.length = gl at *
      generalize n.bs.length = nl at *
      generalize l.length = rl at *
      go_enter Try.func7, Try.ntmps7
      go_upto_region 3 with (go_at_call 10; (with_reducible refine (r_awake _).mono ?_); rintro e w3 ⟨rfl, hb3⟩; replace hb3 := bl_tt hb3)
      apply absB2 (w0 := w) (g0 := w.heap.size) (g1 := w.heap.size + 1)
      iterate 3 (focus ((with_reducible (repeat' (first | assumption | apply jA | apply jB | apply jC | apply jD | apply jE | apply jF | apply hb3 | apply jG | apply jH | apply jI | apply jJ | apply jK | apply hb3x | (apply jL; first | (simp; done) | rfl) | apply jM | apply jN | apply jO | apply jP | apply jQ | apply jR | apply jS | apply jT (hb := hb3 _ (jA _)) | omega | (simp; done) | (simp; omega) | (dsimp only; omega)))); done))
      intro wa hb0' k0' k1'
      (try simp only [List.setIfInBounds_toArray, List.set_cons_zero, List.set_cons_succ] at k0' k1')
      try clear hb3
      try clear hb0
      try clear k0
      try clear k1
      have hb0 := hb0'; clear hb0'
      have k0 := k0'; clear k0'
      have k1 := k1'; clear k1'
      have Lk0 := k0.later
      have Fk0 := k0.laterF
      have Qk0 := k0.lt
      have Lk1 := k1.later
      have Fk1 := k1.laterF
      have Qk1 := k1.lt
      go_upto_region 5 with (first | (go_at_call 11; (with_reducible refine (hfw.out _).mono ?_); rintro e w3 ⟨rfl, hb3⟩; replace hb3 := bl_tt hb3; have hv := hb3 wa (by (with_reducible (repeat' (first | assumption | apply jA | apply jB | apply jC | apply jD | apply jE | apply jF | apply hb3 | omega | (simp; done) | (simp; omega) | (dsimp only; omega)))))) | (go_at_call 20; (with_reducible refine (hli.out _ (bl_tr hb0 hv)).mono ?_); rintro e w3 ⟨rfl, hb4⟩; replace hb3 := fun w h => bl_tt hb4 w (hb3 w h)))
      apply absB2 (w0 := w) (g0 := w.heap.size) (g1 := w.heap.size + 1)
      iterate 3 (focus ((with_reducible (repeat' (first | assumption | apply jA | apply jB | apply jC | apply jD | apply jE | apply jF | apply hb3 | apply jG | apply jH | apply jI | apply jJ | apply jK | apply hb3x | (apply jL; first | (simp; done) | rfl) | apply jM | apply jN | apply jO | apply jP | apply jQ | apply jR | apply jS | apply jT (hb := hb3 _ (jA _)) | omega | (simp; done) | (simp; omega) | (dsimp only; omega)))); done))
      intro wb hb0' k0' k1'
      (try simp only [List.setIfInBounds_toArray, List.set_cons_zero, List.set_cons_succ] at k0' k1')
      try clear hb3
      try clear Lk0
      try clear Fk0
      try clear Qk0
      try clear Lk1
      try clear Fk1
      try clear Qk1
      try clear hb0
      try clear k0
      try clear k1
      have hb0 := hb0'; clear hb0'
      have k0 := k0'; clear k0'
      have k1 := k1'; clear k1'
      have Lk0 := k0.later
      have Fk0 := k0.laterF
      have Qk0 := k0.lt
      have Lk1 := k1.later
      have Fk1 := k1.laterF
      have Qk1 := k1.lt
      refine wp_any (w0 := wb) ⟨[12, 13], [9], [some 34, some 35, some 36, some 37, some 38, some 39, some 33, some 40, some 41, some 42, some 8, some 7, none, none], [[], [0], [], [], [0, 1, 3], [0, 1, 2, 3, 4], [0, 1, 2, 3, 4, 5], [0, 1, 2, 3, 4, 5, 6], [0, 1, 2, 3, 4, 5, 6], [0, 1, 2, 3, 4, 5, 6], [], [0, 1, 2, 3, 4, 5, 6, 7, 10], [0, 1, 2, 3, 4, 5, 6, 7, 8, 10, 11], [0, 1, 2, 3, 4, 5, 6, 7, 8, 9, 10, 11, 12]], [[], [0], [], [], [3], [1, 2, 4], [1, 4, 5], [1, 4, 5, 6], [1, 4, 5, 6], [1, 4, 5, 6], [], [1, 4, 5, 7], [], []]⟩ (fun γ => [(γ 10).n]) (by kernel_rfl) (by kernel_rfl) (by (with_reducible (repeat' (first | assumption | apply jA | apply jB | apply jC | apply jD | apply jE | apply jF | apply hb3 | omega | (simp; done) | (simp; omega) | (dsimp only; omega))))) (fun u => by simp only [putD, Act.put, List.setIfInBounds_toArray, List.set_cons_zero, List.set_cons_succ, Nat.zero_add, Nat.reduceAdd]; rfl) ?_
      apply RGW.on (i := 0) rfl
      · (simp only [gA, gB, gC] <;> rfl)
      · intro γ u W hcur hd
        clear hd
        (try dsimp only)
        refine ⟨rfl, ?_⟩
        go_simp <;> (try go_bits) <;> with_reducible rfl
      · exact fun _ _ _ => rfl
      · rfl
      dsimp only [nA, cA]
      apply RGW.gh (⟨fun γ => vNt n.world (.slice (γ 1).A nl (γ 1).c), fun γ W => NtIn n (γ 1).A (γ 1).c W, fun _ => []⟩) (i := 1) rfl
      · (simp only [gA, gB, gC] <;> rfl)
      · intro γ u W hcur hd
        obtain ⟨⟨h0, -, -⟩, -⟩ := hd
        dsimp only at h0
        (try simp only [h0])
        refine ⟨rfl, fun K hK => ?_⟩
        go_simp
        (go_at_call 13; (with_reducible refine (hcp.out _ (bl_tr hb0 hcur)).mono ?_); rintro e w3 ⟨Ax, cx, rfl, hb3, hox⟩; dsimp only; exact hK.out ⟨0, undef, Ax, cx⟩ _ _ (by simp [up]) hb3 (by simpa [up] using hox) (by simp))
      · intro γ γ' hg
        try dsimp only
        have e1 := hg 1 (by decide)
        simp only [e1]
        try exact ⟨trivial, fun _ h => h⟩
      · intro γ W W' hbl hR
        first | exact hR.below hbl | exact own_below hR hbl | exact trivial | exact ⟨hR.1.below hbl, hR.2⟩
      · rfl
      dsimp only [nA, cA]
      apply RGW.on (i := 2) rfl
      · (simp only [gA, gB, gC] <;> rfl)
      · intro γ u W hcur hd
        clear hd
        (try dsimp only)
        refine ⟨rfl, ?_⟩
        go_simp <;> (try go_bits) <;> with_reducible rfl
      · exact fun _ _ _ => rfl
      · rfl
      dsimp only [nA, cA]
      apply RGW.on (i := 3) rfl
      · (simp only [gA, gB, gC] <;> rfl)
      · intro γ u W hcur hd
        clear hd
        (try dsimp only)
        refine ⟨rfl, ?_⟩
        go_simp <;> (try go_bits) <;> with_reducible rfl
      · exact fun _ _ _ => rfl
      · rfl
      dsimp only [nA, cA]
      apply RGW.gh (⟨fun γ => .slice (γ 4).A rl (γ 4).c, fun γ W => Sl cRd 4 W (γ 4).A l, fun _ => []⟩) (i := 4) rfl
      · (simp only [gA, gB, gC] <;> rfl)
      · intro γ u W hcur hd
        obtain ⟨⟨h3, -, -⟩, -⟩ := hd
        dsimp only at h3
        (try simp only [h3])
        refine ⟨rfl, fun K hK => ?_⟩
        go_simp
        (go_at_call 22; (with_reducible refine (hcr.out _ (bl_tr hb0 hcur)).mono ?_); rintro e w3 ⟨Ax, cx, rfl, hb3, hox⟩; dsimp only; exact hK.out ⟨0, undef, Ax, cx⟩ _ _ (by simp [up]) hb3 (by simpa [up] using hox) (by simp))
      · intro γ γ' hg
        try dsimp only
        have e1 := hg 1 (by decide)
        have e4 := hg 4 (by decide)
        simp only [e1, e4]
        try exact ⟨trivial, fun _ h => h⟩
      · intro γ W W' hbl hR
        first | exact hR.below hbl | exact own_below hR hbl | exact trivial | exact ⟨hR.1.below hbl, hR.2⟩
      · rfl
      dsimp only [nA, cA]
      apply RGW.gh (⟨fun γ => .tuple #[.slice (γ 5).A gl (γ 5).c, vPl wp, .int .i64 we], fun γ W => OwnG wl (γ 5) W, blG wl⟩) (i := 5) rfl
      · (simp only [gA, gB, gC] <;> rfl)
      · intro γ u W hcur hd
        obtain ⟨⟨h1, r1, -⟩, ⟨h2, -, -⟩, ⟨h4, r4, -⟩, -⟩ := hd
        dsimp only at h1 h2 h4 r1 r4
        (try simp only [h1, h2, h4])
        refine ⟨rfl, fun K hK => ?_⟩
        go_simp
        (go_at_call 44; (with_reducible refine (hwr.out _ _ _ _ _ r1 r4).mono ?_); rintro e w3 ⟨Ax, cx, rfl, hb3, hox⟩; dsimp only; obtain ⟨n0, hg1, hg2⟩ := hog.out _ _ _ _ hox; exact hK.out ⟨n0, undef, Ax, cx⟩ _ _ (by simp [up]) hb3 (by simpa [up] using hg1) hg2)
      · intro γ γ' hg
        try dsimp only
        have e1 := hg 1 (by decide)
        have e4 := hg 4 (by decide)
        have e5 := hg 5 (by decide)
        simp only [e1, e4, e5]
        try exact ⟨trivial, fun _ h => h⟩
      · intro γ W W' hbl hR
        first | exact hR.below hbl | exact own_below hR hbl | exact trivial | exact ⟨hR.1.below hbl, hR.2⟩
      · rfl
      dsimp only [nA, cA]
      apply RGW.on (i := 6) rfl
      · (simp only [gA, gB, gC] <;> rfl)
      · intro γ u W hcur hd
        obtain ⟨⟨h1, r1, -⟩, ⟨h4, r4, -⟩, ⟨h5, r5, -⟩, -⟩ := hd
        dsimp only at h1 h4 h5 r1 r4 r5
        (try simp only [h1, h4, h5])
        refine ⟨rfl, ?_⟩
        go_simp <;> (try go_bits) <;> with_reducible rfl
      · intro γ γ' hg
        try dsimp only
        have e1 := hg 1 (by decide)
        have e4 := hg 4 (by decide)
        have e5 := hg 5 (by decide)
        simp only [e1, e4, e5]
      · rfl
      dsimp only [nA, cA]
      apply RGW.on (i := 7) rfl
      · (simp only [gA, gB, gC] <;> rfl)
      · intro γ u W hcur hd
        obtain ⟨⟨h1, r1, -⟩, ⟨h4, r4, -⟩, ⟨h5, r5, -⟩, ⟨h6, -, -⟩, -⟩ := hd
        dsimp only at h1 h4 h5 h6 r1 r4 r5
        (try simp only [h1, h4, h5, h6])
        refine ⟨rfl, ?_⟩
        go_simp <;> (try go_bits) <;> with_reducible rfl
      · intro γ γ' hg
        try dsimp only
        have e1 := hg 1 (by decide)
        have e4 := hg 4 (by decide)
        have e5 := hg 5 (by decide)
        simp only [e1, e4, e5]
      · rfl
      dsimp only [nA, cA]
      apply RGW.on (i := 8) rfl
      · (simp only [gA, gB, gC] <;> rfl)
      · intro γ u W hcur hd
        obtain ⟨⟨h1, r1, -⟩, ⟨h4, r4, -⟩, ⟨h5, r5, -⟩, ⟨h6, -, -⟩, -⟩ := hd
        dsimp only at h1 h4 h5 h6 r1 r4 r5
        (try simp only [h1, h4, h5, h6])
        refine ⟨rfl, ?_⟩
        go_simp <;> (try go_bits) <;> with_reducible rfl
      · exact fun _ _ _ => rfl
      · rfl
      dsimp only [nA, cA]
      apply RGW.onL (i := 9) rfl
      · (simp only [gA, gB, gC] <;> rfl)
      · intro γ u Wm W hcur hd hX
        obtain ⟨⟨h1, r1, -⟩, ⟨h4, r4, -⟩, ⟨h5, r5, -⟩, ⟨h6, -, -⟩, -⟩ := hd
        dsimp only at h1 h4 h5 h6 r1 r4 r5
        (try simp only [h1, h4, h5, h6])
        refine ⟨rfl, ?_⟩
        go_simp <;> (try go_bits) <;> with_reducible rfl
      · exact fun _ _ _ => rfl
      dsimp only [nA, cA]
      apply RGW.alloc (i := 10) rfl
      · (simp only [gA, gB, gC] <;> rfl)
      · intro γ u W hcur hd
        clear hd
        (try dsimp only)
        refine ⟨rfl, fun K hK => ?_⟩
        go_simp
        exact hK.out _ _ rfl rfl
      · exact fun _ _ _ => rfl
      · rfl
      · rfl
      dsimp only [nA, cA]
      apply RGW.on (i := 11) rfl
      · (simp only [gA, gB, gC] <;> rfl)
      · intro γ u W hcur hd
        obtain ⟨⟨h1, r1, -⟩, ⟨h4, r4, -⟩, ⟨h5, r5, -⟩, ⟨h7, -, -⟩, -⟩ := hd
        dsimp only at h1 h4 h5 h7 r1 r4 r5
        (try simp only [h1, h4, h5, h7])
        refine ⟨rfl, ?_⟩
        go_simp <;> (try go_bits) <;> with_reducible rfl
      · intro γ γ' hg
        try dsimp only
        have e1 := hg 1 (by decide)
        have e4 := hg 4 (by decide)
        have e5 := hg 5 (by decide)
        have e10 := hg 10 (by decide)
        simp only [e1, e4, e5, e10]
      · rfl
      dsimp only [nA, cA]
      refine RGW.skip (i := 12) rfl rfl ?_
      dsimp only [nA, cA]
      refine RGW.skip (i := 13) rfl rfl ?_
      dsimp only [nA, cA]
      refine RGW.fin (fun γ u wd hwd hd hdis => ?_)
      obtain ⟨⟨h0, -, -⟩, ⟨h1, r1, b1⟩, ⟨h2, -, -⟩, ⟨h3, -, -⟩, ⟨h4, r4, b4⟩, ⟨h5, r5, b5⟩, ⟨h6, -, -⟩, ⟨h7, -, -⟩, ⟨h8, -, -⟩, ⟨h9, -, -⟩, ⟨h10, r10, b10⟩, ⟨h11, -, -⟩, -⟩ := hd
      dsimp only at h0 h1 h2 h3 h4 h5 h6 h7 h8 h9 h10 h11 r1 r4 r5 r10 b1 b4 b5 b10
      have n5_10 : ∀ x ∈ blG wl (γ 5), x ≠ (γ 10).n := fun x hx => hdis 5 10 rfl rfl (Nat.lt_of_lt_of_eq (by decide : 5 < 14) (by kernel_rfl)) (Nat.lt_of_lt_of_eq (by decide : 10 < 14) (by kernel_rfl)) (by decide) x hx _ (List.mem_singleton.2 rfl)
      clear hdis
      simp only [h0, h1, h2, h3, h4, h5, h6, h7, h8, h9, h10, h11]
      clear h11 h10 h9 h8 h7 h6 h5 h4 h3 h2 h1 h0
      replace b10 := b10 _ (List.mem_singleton.2 rfl)
      generalize hγ10 : (γ 10).n = g10 at *
      clear hγ10
      clear u
      simp only [List.map_cons, List.map_nil]
      apply PlanW.step
      · (simp only [gA, gB, gC] <;> rfl)
      · rfl
      intro K hK
      refine wp_store_keep (X := [g10]) (w0 := wd) rfl rfl rfl (by with_reducible first | exact bx_refl _ _ | assumption) (by with_reducible first | assumption | (apply Blk.below (hb := hwd); assumption)) (by simp) (by kernel_rfl) (by rfl) (by simp [Value.oneCell']) (fun hres1 hcur => ?_)
      refine hK.out _ _ hcur (fun _ => ?_)
      clear hK K
      try simp only [Act.put, List.setIfInBounds_toArray, List.set_cons_zero, List.set_cons_succ]
      apply PlanW.step
      · (simp only [gA, gB, gC] <;> rfl)
      · rfl
      intro K hK
      go_simp
      refine hK.out _ _ (by (with_reducible (repeat' (first | assumption | apply jG | apply jH | apply jI | apply jJ | apply jK | apply hb3x | omega | (simp; done) | (simp; omega) | (dsimp only; omega))))) (fun hcur => ?_)
      clear hK K
      try simp only [Act.put, List.setIfInBounds_toArray, List.set_cons_zero, List.set_cons_succ]
      refine PlanW.done ?_
      have hb3 := bl_tt hwd
      clear r1 r4
      replace k0 := k0.below hwd
      replace k1 := k1.below hwd
      have hbw := bl_tr hb0 hwd
      clear Lk0 Lk1 Fk0 Fk1 hb3 hb0
      apply absTK3 (X := [g10]) (w0 := wd) (g0 := w.heap.size) (g1 := w.heap.size + 1) (g2 := g10)
      iterate 4 (focus ((with_reducible (repeat' (first | assumption | apply jA | apply jB | apply jC | apply jD | apply jE | apply jF | apply hb3 | apply jG | apply jH | apply jI | apply jJ | apply jK | apply hb3x | (apply jL; first | (simp; done) | rfl) | apply jM | apply jN | apply jO | apply jP | apply jQ | apply jR | apply jS | apply jT (hb := hb3 _ (jA _)) | omega | (simp; done) | (simp; omega) | (dsimp only; omega)))); done))
      intro we1 hb0' k0' k1' k3'
      (try simp only [List.setIfInBounds_toArray, List.set_cons_zero, List.set_cons_succ] at k0' k1' k3')
      try clear hb3
      try clear hb3x
      try clear hb0
      try clear k0
      try clear k1
      try clear k3
      have hb0 := hb0'; clear hb0'
      have k0 := k0'; clear k0'
      have k1 := k1'; clear k1'
      have k3 := k3'; clear k3'
      have SW := r5.bx hb0 n5_10
      clear r5 n5_10
      have hqa := hbw.size
      replace hbw := bx_below hbw hb0 (by simp; omega)
      clear hb0
      have hb0 := bl_refl we1
      generalize (γ 5).A = AW at *
      generalize (γ 5).c = cW at *
      have Lk0 := k0.later
      have Fk0 := k0.laterF
      have Qk0 := k0.lt
      have Lk1 := k1.later
      have Fk1 := k1.laterF
      have Qk1 := k1.lt
      have Lk3 := k3.later
      have Fk3 := k3.laterF
      have Qk3 := k3.lt
      replace SW := Lib.hid fun (W : World) (h : Below we1.heap.size we1 W) => SW.below h
      clear hwr
      go_upto_region 7 with (go_at_call 17; (with_reducible refine (hbe.out _ (bl_tr hbw (bl_tr hb0 (by (with_reducible (repeat' (first | assumption | apply jA | apply jB | apply jC | apply jD | apply jE | apply jF | apply hb3 | omega | (simp; done) | (simp; omega) | (dsimp only; omega)))))))).mono ?_); rintro e w3 ⟨rfl, hb3⟩; replace hb3 := bl_tt hb3)
      apply absB3 (w0 := we1) (g0 := w.heap.size) (g1 := w.heap.size + 1) (g2 := g10)
      iterate 4 (focus ((with_reducible (repeat' (first | assumption | apply jA | apply jB | apply jC | apply jD | apply jE | apply jF | apply hb3 | apply jG | apply jH | apply jI | apply jJ | apply jK | apply hb3x | (apply jL; first | (simp; done) | rfl) | apply jM | apply jN | apply jO | apply jP | apply jQ | apply jR | apply jS | apply jT (hb := hb3 _ (jA _)) | omega | (simp; done) | (simp; omega) | (dsimp only; omega)))); done))
      intro x1 hb0' k0' k1' k3'
      (try simp only [List.setIfInBounds_toArray, List.set_cons_zero, List.set_cons_succ] at k0' k1' k3')
      try clear hb3
      try clear Lk0
      try clear Fk0
      try clear Qk0
      try clear Lk1
      try clear Fk1
      try clear Qk1
      try clear Lk3
      try clear Fk3
      try clear Qk3
      try clear hb0
      try clear k0
      try clear k1
      try clear k3
      have hb0 := hb0'; clear hb0'
      have k0 := k0'; clear k0'
      have k1 := k1'; clear k1'
      have k3 := k3'; clear k3'
      have Lk0 := k0.later
      have Fk0 := k0.laterF
      have Qk0 := k0.lt
      have Lk1 := k1.later
      have Fk1 := k1.laterF
      have Qk1 := k1.lt
      have Lk3 := k3.later
      have Fk3 := k3.laterF
      have Qk3 := k3.lt
      by_cases h0 : be = 0
      · subst h0
        go_upto_region 9 with (go_at_call 25; (with_reducible refine (hrr.out _ (bl_tr hbw (bl_tr hb0 (by (with_reducible (repeat' (first | assumption | apply jA | apply jB | apply jC | apply jD | apply jE | apply jF | apply hb3 | omega | (simp; done) | (simp; omega) | (dsimp only; omega)))))))).mono ?_); rintro e w3 ⟨rfl, hb3⟩; replace hb3 := bl_tt hb3)
        apply absB3 (w0 := we1) (g0 := w.heap.size) (g1 := w.heap.size + 1) (g2 := g10)
        iterate 4 (focus ((with_reducible (repeat' (first | assumption | apply jA | apply jB | apply jC | apply jD | apply jE | apply jF | apply hb3 | apply jG | apply jH | apply jI | apply jJ | apply jK | apply hb3x | (apply jL; first | (simp; done) | rfl) | apply jM | apply jN | apply jO | apply jP | apply jQ | apply jR | apply jS | apply jT (hb := hb3 _ (jA _)) | omega | (simp; done) | (simp; omega) | (dsimp only; omega)))); done))
        intro x2 hb0' k0' k1' k3'
        (try simp only [List.setIfInBounds_toArray, List.set_cons_zero, List.set_cons_succ] at k0' k1' k3')
        try clear hb3
        try clear Lk0
        try clear Fk0
        try clear Qk0
        try clear Lk1
        try clear Fk1
        try clear Qk1
        try clear Lk3
        try clear Fk3
        try clear Qk3
        try clear hb0
        try clear k0
        try clear k1
        try clear k3
        have hb0 := hb0'; clear hb0'
        have k0 := k0'; clear k0'
        have k1 := k1'; clear k1'
        have k3 := k3'; clear k3'
        have Lk0 := k0.later
        have Fk0 := k0.laterF
        have Qk0 := k0.lt
        have Lk1 := k1.later
        have Fk1 := k1.laterF
        have Qk1 := k1.lt
        have Lk3 := k3.later
        have Fk3 := k3.laterF
        have Qk3 := k3.lt
        by_cases h1 : rr = 0
        · subst h1
          replace hil := hil.out (by simp)
          cases lg
          · go_upto_region 11 with (go_at_call 27; (with_reducible refine (hil _).mono ?_); rintro e w3 ⟨rfl, hb3⟩; replace hb3 := bl_tt hb3)
            apply absB3 (w0 := we1) (g0 := w.heap.size) (g1 := w.heap.size + 1) (g2 := g10)
            iterate 4 (focus ((with_reducible (repeat' (first | assumption | apply jA | apply jB | apply jC | apply jD | apply jE | apply jF | apply hb3 | apply jG | apply jH | apply jI | apply jJ | apply jK | apply hb3x | (apply jL; first | (simp; done) | rfl) | apply jM | apply jN | apply jO | apply jP | apply jQ | apply jR | apply jS | apply jT (hb := hb3 _ (jA _)) | omega | (simp; done) | (simp; omega) | (dsimp only; omega)))); done))
            intro x3 hb0' k0' k1' k3'
            (try simp only [List.setIfInBounds_toArray, List.set_cons_zero, List.set_cons_succ] at k0' k1' k3')
            try clear hb3
            try clear Lk0
            try clear Fk0
            try clear Qk0
            try clear Lk1
            try clear Fk1
            try clear Qk1
            try clear Lk3
            try clear Fk3
            try clear Qk3
            try clear hb0
            try clear k0
            try clear k1
            try clear k3
            have hb0 := hb0'; clear hb0'
            have k0 := k0'; clear k0'
            have k1 := k1'; clear k1'
            have k3 := k3'; clear k3'
            have Lk0 := k0.later
            have Fk0 := k0.laterF
            have Qk0 := k0.lt
            have Lk1 := k1.later
            have Fk1 := k1.laterF
            have Qk1 := k1.lt
            have Lk3 := k3.later
            have Fk3 := k3.laterF
            have Qk3 := k3.lt
            obtain ⟨rfl, hrw, hag, hsum, hv1, hin, hv2⟩ := fK.out (by simp) (by simp) (by simp)
            clear fB fR fL fK hbe hrr hil
            go_upto_region 14 with (go_at_call 45; (with_reducible refine (hrw _ (bl_tr hbw (bl_tr hb0 (by (with_reducible (repeat' (first | assumption | apply jA | apply jB | apply jC | apply jD | apply jE | apply jF | apply hb3 | omega | (simp; done) | (simp; omega) | (dsimp only; omega)))))))).mono ?_); rintro e w3 ⟨AQ, cQ, rfl, hb3, hoq⟩; replace hb3 := bl_tt hb3)
            have hbx := hb3 we1 hb0
            replace k0 := k0.below (hb3 _ (bl_refl _))
            replace k1 := k1.below (hb3 _ (bl_refl _))
            replace k3 := k3.below (hb3 _ (bl_refl _))
            clear hb0 hrw
            have hb0 := bl_refl w3
            apply absB4 (w0 := w3) (g0 := w.heap.size) (g1 := w.heap.size + 1) (g2 := g10) (g3 := w3.heap.size)
            iterate 5 (focus ((with_reducible (repeat' (first | assumption | apply jA | apply jB | apply jC | apply jD | apply jE | apply jF | apply hb3 | apply jG | apply jH | apply jI | apply jJ | apply jK | apply hb3x | (apply jL; first | (simp; done) | rfl) | apply jM | apply jN | apply jO | apply jP | apply jQ | apply jR | apply jS | apply jT (hb := hb3 _ (jA _)) | omega | (simp; done) | (simp; omega) | (dsimp only; omega)))); done))
            intro y1 hb0' k0' k1' k3' k4'
            (try simp only [List.setIfInBounds_toArray, List.set_cons_zero, List.set_cons_succ] at k0' k1' k3' k4')
            try clear hb3
            try clear hb0
            try clear k0
            try clear k1
            try clear k3
            try clear k4
            have hb0 := hb0'; clear hb0'
            have k0 := k0'; clear k0'
            have k1 := k1'; clear k1'
            have k3 := k3'; clear k3'
            have k4 := k4'; clear k4'
            have SQ := (hos.out _ _ _ _ hoq).below hb0
            replace hbx := bl_tr hbx hb0
            have SW1 := SW.out y1 hbx
            replace hbw := bl_tr hbw hbx
            clear hb0 hoq SW hbx
            have hb0 := bl_refl y1
            have Lk0 := k0.later
            have Fk0 := k0.laterF
            have Qk0 := k0.lt
            have Lk1 := k1.later
            have Fk1 := k1.laterF
            have Qk1 := k1.lt
            have Lk3 := k3.later
            have Fk3 := k3.laterF
            have Qk3 := k3.lt
            have Lk4 := k4.later
            have Fk4 := k4.laterF
            have Qk4 := k4.lt
            have SW := Lib.hid fun (W : World) (h : Below y1.heap.size y1 W) => SW1.below h
            replace SQ := Lib.hid fun (W : World) (h : Below y1.heap.size y1 W) => SQ.below h
            clear SW1
            go_upto_region 16 with (go_at_call 41; (with_reducible refine (hi.out _ _ _ _ _ (SW.out _ (by (with_reducible (repeat' (first | assumption | apply jA | apply jB | apply jC | apply jD | apply jE | apply jF | apply hb3 | omega | (simp; done) | (simp; omega) | (dsimp only; omega)))))) (SQ.out _ (by (with_reducible (repeat' (first | assumption | apply jA | apply jB | apply jC | apply jD | apply jE | apply jF | apply hb3 | omega | (simp; done) | (simp; omega) | (dsimp only; omega))))))).mono ?_); rintro e w3 ⟨rfl, hb3⟩; replace hb3 := bl_tt hb3)
            apply absB3 (w0 := y1) (g0 := w.heap.size) (g1 := w.heap.size + 1) (g2 := g10)
            iterate 4 (focus ((with_reducible (repeat' (first | assumption | apply jA | apply jB | apply jC | apply jD | apply jE | apply jF | apply hb3 | apply jG | apply jH | apply jI | apply jJ | apply jK | apply hb3x | (apply jL; first | (simp; done) | rfl) | apply jM | apply jN | apply jO | apply jP | apply jQ | apply jR | apply jS | apply jT (hb := hb3 _ (jA _)) | omega | (simp; done) | (simp; omega) | (dsimp only; omega)))); done))
            intro y2 hb0' k0' k1' k3'
            (try simp only [List.setIfInBounds_toArray, List.set_cons_zero, List.set_cons_succ] at k0' k1' k3')
            try clear hb3
            try clear Lk0
            try clear Fk0
            try clear Qk0
            try clear Lk1
            try clear Fk1
            try clear Qk1
            try clear Lk3
            try clear Fk3
            try clear Qk3
            try clear Lk4
            try clear Fk4
            try clear Qk4
            try clear hb0
            try clear k0
            try clear k1
            try clear k3
            have hb0 := hb0'; clear hb0'
            have k0 := k0'; clear k0'
            have k1 := k1'; clear k1'
            have k3 := k3'; clear k3'
            have Lk0 := k0.later
            have Fk0 := k0.laterF
            have Qk0 := k0.lt
            have Lk1 := k1.later
            have Fk1 := k1.laterF
            have Qk1 := k1.lt
            have Lk3 := k3.later
            have Fk3 := k3.laterF
            have Qk3 := k3.lt
            clear hi SW SQ
            refine wp_any (w0 := y2) ⟨[], [], [some 96, some 97, some 98, some 99, some 100, some 101, some 95, some 102, some 103, some 13, some 14], [[], [0], [], [0, 1, 2], [], [0, 1, 2, 3, 4], [0, 1, 2, 3, 4, 5], [0, 1, 2, 3, 4, 5, 6], [0, 1, 2, 3, 4, 5, 6], [0, 1, 2, 3, 4, 5, 6, 7], [0, 1, 2, 3, 4, 5, 6, 7, 8, 9]], [[], [0], [], [2], [], [1, 3, 4], [1, 3, 5], [1, 3, 5, 6], [1, 3, 5, 6], [1, 3, 5, 7], [1, 3, 5, 8]]⟩ (fun _ => []) (by kernel_rfl) (by kernel_rfl) (by (with_reducible (repeat' (first | assumption | apply jA | apply jB | apply jC | apply jD | apply jE | apply jF | apply hb3 | omega | (simp; done) | (simp; omega) | (dsimp only; omega))))) (fun u => by simp only [putD, Act.put, List.setIfInBounds_toArray, List.set_cons_zero, List.set_cons_succ, Nat.zero_add, Nat.reduceAdd]; rfl) ?_
            apply RGW.on (i := 0) rfl
            · (simp only [gA, gB, gC] <;> rfl)
            · intro γ u W hcur hd
              clear hd
              (try dsimp only)
              refine ⟨rfl, ?_⟩
              go_simp <;> (try go_bits) <;> with_reducible rfl
            · exact fun _ _ _ => rfl
            · rfl
            dsimp only [nA, cA]
            apply RGW.gh (⟨fun γ => vNt n.world (.slice (γ 1).A nl (γ 1).c), fun γ W => NtIn n (γ 1).A (γ 1).c W, fun _ => []⟩) (i := 1) rfl
            · (simp only [gA, gB, gC] <;> rfl)
            · intro γ u W hcur hd
              obtain ⟨⟨h0, -, -⟩, -⟩ := hd
              dsimp only at h0
              (try simp only [h0])
              refine ⟨rfl, fun K hK => ?_⟩
              go_simp
              (go_at_call 13; (with_reducible refine (hcp.out _ (bl_tr hbw (bl_tr hb0 hcur))).mono ?_); rintro e w3 ⟨Ax, cx, rfl, hb3, hox⟩; dsimp only; exact hK.out ⟨0, undef, Ax, cx⟩ _ _ (by simp [up]) hb3 (by simpa [up] using hox) (by simp))
            · intro γ γ' hg
              try dsimp only
              have e1 := hg 1 (by decide)
              simp only [e1]
              try exact ⟨trivial, fun _ h => h⟩
            · intro γ W W' hbl hR
              first | exact hR.below hbl | exact own_below hR hbl | exact trivial | exact ⟨hR.1.below hbl, hR.2⟩
            · rfl
            dsimp only [nA, cA]
            apply RGW.on (i := 2) rfl
            · (simp only [gA, gB, gC] <;> rfl)
            · intro γ u W hcur hd
              clear hd
              (try dsimp only)
              refine ⟨rfl, ?_⟩
              go_simp <;> (try go_bits) <;> with_reducible rfl
            · exact fun _ _ _ => rfl
            · rfl
            dsimp only [nA, cA]
            apply RGW.gh (⟨fun γ => .slice (γ 3).A rl (γ 3).c, fun γ W => Sl cRd 4 W (γ 3).A l, fun _ => []⟩) (i := 3) rfl
            · (simp only [gA, gB, gC] <;> rfl)
            · intro γ u W hcur hd
              obtain ⟨⟨h2, -, -⟩, -⟩ := hd
              dsimp only at h2
              (try simp only [h2])
              refine ⟨rfl, fun K hK => ?_⟩
              go_simp
              (go_at_call 22; (with_reducible refine (hcr.out _ (bl_tr hbw (bl_tr hb0 hcur))).mono ?_); rintro e w3 ⟨Ax, cx, rfl, hb3, hox⟩; dsimp only; exact hK.out ⟨0, undef, Ax, cx⟩ _ _ (by simp [up]) hb3 (by simpa [up] using hox) (by simp))
            · intro γ γ' hg
              try dsimp only
              have e1 := hg 1 (by decide)
              have e3 := hg 3 (by decide)
              simp only [e1, e3]
              try exact ⟨trivial, fun _ h => h⟩
            · intro γ W W' hbl hR
              first | exact hR.below hbl | exact own_below hR hbl | exact trivial | exact ⟨hR.1.below hbl, hR.2⟩
            · rfl
            dsimp only [nA, cA]
            apply RGW.on (i := 4) rfl
            · (simp only [gA, gB, gC] <;> rfl)
            · intro γ u W hcur hd
              clear hd
              (try dsimp only)
              refine ⟨rfl, ?_⟩
              go_simp <;> (try go_bits) <;> with_reducible rfl
            · exact fun _ _ _ => rfl
            · rfl
            dsimp only [nA, cA]
            apply RGW.gh (⟨fun γ => .tuple #[.slice (γ 5).A al (γ 5).c, .int .i64 0], fun γ W => True, fun _ => []⟩) (i := 5) rfl
            · (simp only [gA, gB, gC] <;> rfl)
            · intro γ u W hcur hd
              obtain ⟨⟨h1, r1, -⟩, ⟨h3, r3, -⟩, ⟨h4, -, -⟩, -⟩ := hd
              dsimp only at h1 h3 h4 r1 r3
              (try simp only [h1, h3, h4])
              refine ⟨rfl, fun K hK => ?_⟩
              go_simp
              (go_at_call 38; (with_reducible refine (hag _ _ _ _ _ r1 r3).mono ?_); rintro e w3 ⟨Ax, cx, rfl, hb3⟩; dsimp only; exact hK.out ⟨0, undef, Ax, cx⟩ _ _ (by simp [up]) hb3 trivial (by simp))
            · intro γ γ' hg
              try dsimp only
              have e1 := hg 1 (by decide)
              have e3 := hg 3 (by decide)
              have e5 := hg 5 (by decide)
              simp only [e1, e3, e5]
              try exact ⟨trivial, fun _ h => h⟩
            · intro γ W W' hbl hR
              first | exact hR.below hbl | exact own_below hR hbl | exact trivial | exact ⟨hR.1.below hbl, hR.2⟩
            · rfl
            dsimp only [nA, cA]
            apply RGW.on (i := 6) rfl
            · (simp only [gA, gB, gC] <;> rfl)
            · intro γ u W hcur hd
              obtain ⟨⟨h1, r1, -⟩, ⟨h3, r3, -⟩, ⟨h5, r5, -⟩, -⟩ := hd
              dsimp only at h1 h3 h5 r1 r3 r5
              (try simp only [h1, h3, h5])
              refine ⟨rfl, ?_⟩
              go_simp <;> (try go_bits) <;> with_reducible rfl
            · intro γ γ' hg
              try dsimp only
              have e1 := hg 1 (by decide)
              have e3 := hg 3 (by decide)
              have e5 := hg 5 (by decide)
              simp only [e1, e3, e5]
            · rfl
            dsimp only [nA, cA]
            apply RGW.on (i := 7) rfl
            · (simp only [gA, gB, gC] <;> rfl)
            · intro γ u W hcur hd
              obtain ⟨⟨h1, r1, -⟩, ⟨h3, r3, -⟩, ⟨h5, r5, -⟩, ⟨h6, -, -⟩, -⟩ := hd
              dsimp only at h1 h3 h5 h6 r1 r3 r5
              (try simp only [h1, h3, h5, h6])
              refine ⟨rfl, ?_⟩
              go_simp <;> (try go_bits) <;> with_reducible rfl
            · intro γ γ' hg
              try dsimp only
              have e1 := hg 1 (by decide)
              have e3 := hg 3 (by decide)
              have e5 := hg 5 (by decide)
              simp only [e1, e3, e5]
            · rfl
            dsimp only [nA, cA]
            apply RGW.on (i := 8) rfl
            · (simp only [gA, gB, gC] <;> rfl)
            · intro γ u W hcur hd
              obtain ⟨⟨h1, r1, -⟩, ⟨h3, r3, -⟩, ⟨h5, r5, -⟩, ⟨h6, -, -⟩, -⟩ := hd
              dsimp only at h1 h3 h5 h6 r1 r3 r5
              (try simp only [h1, h3, h5, h6])
              refine ⟨rfl, ?_⟩
              go_simp <;> (try go_bits) <;> with_reducible rfl
            · exact fun _ _ _ => rfl
            · rfl
            dsimp only [nA, cA]
            apply RGW.on (i := 9) rfl
            · (simp only [gA, gB, gC] <;> rfl)
            · intro γ u W hcur hd
              obtain ⟨⟨h1, r1, -⟩, ⟨h3, r3, -⟩, ⟨h5, r5, -⟩, ⟨h7, -, -⟩, -⟩ := hd
              dsimp only at h1 h3 h5 h7 r1 r3 r5
              (try simp only [h1, h3, h5, h7])
              refine ⟨rfl, ?_⟩
              go_simp <;> (try go_bits) <;> with_reducible rfl
            · intro γ γ' hg
              try dsimp only
              have e1 := hg 1 (by decide)
              have e3 := hg 3 (by decide)
              have e5 := hg 5 (by decide)
              simp only [e1, e3, e5]
            · rfl
            dsimp only [nA, cA]
            apply RGW.on (i := 10) rfl
            · (simp only [gA, gB, gC] <;> rfl)
            · intro γ u W hcur hd
              obtain ⟨⟨h1, r1, -⟩, ⟨h3, r3, -⟩, ⟨h5, r5, -⟩, ⟨h8, -, -⟩, -⟩ := hd
              dsimp only at h1 h3 h5 h8 r1 r3 r5
              (try simp only [h1, h3, h5, h8])
              refine ⟨rfl, ?_⟩
              go_simp <;> (try go_bits) <;> with_reducible rfl
            · exact fun _ _ _ => rfl
            · rfl
            dsimp only [nA, cA]
            refine RGW.fin (fun γ u y3 hy3 hd hdis => ?_)
            obtain ⟨⟨h0, -, -⟩, ⟨h1, r1, b1⟩, ⟨h2, -, -⟩, ⟨h3, r3, b3⟩, ⟨h4, -, -⟩, ⟨h5, r5, b5⟩, ⟨h6, -, -⟩, ⟨h7, -, -⟩, ⟨h8, -, -⟩, ⟨h9, -, -⟩, ⟨h10, -, -⟩, -⟩ := hd
            dsimp only at h0 h1 h2 h3 h4 h5 h6 h7 h8 h9 h10 r1 r3 r5 b1 b3 b5
            clear hdis
            simp only [h0, h1, h2, h3, h4, h5, h6, h7, h8, h9, h10]
            clear h10 h9 h8 h7 h6 h5 h4 h3 h2 h1 h0
            clear u
            simp only [List.map_nil]
            refine PlanW.done ?_
            have hb3 := bl_tt hy3
            clear r1 r3 r5
            apply absTB3 (w0 := y1) (g0 := w.heap.size) (g1 := w.heap.size + 1) (g2 := g10)
            iterate 4 (focus ((with_reducible (repeat' (first | assumption | apply jA | apply jB | apply jC | apply jD | apply jE | apply jF | apply hb3 | apply jG | apply jH | apply jI | apply jJ | apply jK | apply hb3x | (apply jL; first | (simp; done) | rfl) | apply jM | apply jN | apply jO | apply jP | apply jQ | apply jR | apply jS | apply jT (hb := hb3 _ (jA _)) | omega | (simp; done) | (simp; omega) | (dsimp only; omega)))); done))
            intro y4 hb0' k0' k1' k3'
            (try simp only [List.setIfInBounds_toArray, List.set_cons_zero, List.set_cons_succ] at k0' k1' k3')
            try clear hb3
            try clear Lk0
            try clear Fk0
            try clear Qk0
            try clear Lk1
            try clear Fk1
            try clear Qk1
            try clear Lk3
            try clear Fk3
            try clear Qk3
            try clear hb0
            try clear k0
            try clear k1
            try clear k3
            have hb0 := hb0'; clear hb0'
            have k0 := k0'; clear k0'
            have k1 := k1'; clear k1'
            have k3 := k3'; clear k3'
            have Lk0 := k0.later
            have Fk0 := k0.laterF
            have Qk0 := k0.lt
            have Lk1 := k1.later
            have Fk1 := k1.laterF
            have Qk1 := k1.lt
            have Lk3 := k3.later
            have Fk3 := k3.laterF
            have Qk3 := k3.lt
            have hz1 := hb0.size
            have hse : ((al : Int) + (gl : Int) != (rl : Int)) = false := by simp; omega
            go_upto_region 19 with fail
            refine wp_any (w0 := y4) ⟨[14, 15, 16], [11, 12], [some 117, some 118, some 119, some 120, some 121, some 122, some 123, some 124, some 125, some 116, some 126, some 127, some 128, some 15, none, none, none], [[], [0], [], [], [0, 1, 3], [], [5], [0, 1, 3, 4, 5, 6], [0, 1, 2, 3, 4, 5, 6, 7], [0, 1, 2, 3, 4, 5, 6, 7, 8], [0, 1, 2, 3, 4, 5, 6, 7, 8, 9], [0, 1, 2, 3, 4, 5, 6, 7, 8, 9], [0, 1, 2, 3, 4, 5, 6, 7, 8, 9], [], [0, 1, 2, 3, 4, 5, 6, 7, 8, 9, 10, 13], [0, 1, 2, 3, 4, 5, 6, 7, 8, 9, 10, 11, 13, 14], [0, 1, 2, 3, 4, 5, 6, 7, 8, 9, 10, 11, 12, 13, 14, 15]], [[], [0], [], [], [3], [], [5], [4, 6], [1, 2, 4, 7], [1, 4, 8], [1, 4, 9], [1, 4, 9], [1, 4, 9], [], [], [], []]⟩ (fun γ => [(γ 13).n]) (by kernel_rfl) (by kernel_rfl) (by (with_reducible (repeat' (first | assumption | apply jA | apply jB | apply jC | apply jD | apply jE | apply jF | apply hb3 | omega | (simp; done) | (simp; omega) | (dsimp only; omega))))) (fun u => by simp only [putD, Act.put, List.setIfInBounds_toArray, List.set_cons_zero, List.set_cons_succ, Nat.zero_add, Nat.reduceAdd]; rfl) ?_
            apply RGW.on (i := 0) rfl
            · (simp only [gA, gB, gC] <;> rfl)
            · intro γ u W hcur hd
              clear hd
              (try dsimp only)
              refine ⟨rfl, ?_⟩
              go_simp <;> (try go_bits) <;> with_reducible rfl
            · exact fun _ _ _ => rfl
            · rfl
            dsimp only [nA, cA]
            apply RGW.gh (⟨fun γ => vNt n.world (.slice (γ 1).A nl (γ 1).c), fun γ W => NtIn n (γ 1).A (γ 1).c W, fun _ => []⟩) (i := 1) rfl
            · (simp only [gA, gB, gC] <;> rfl)
            · intro γ u W hcur hd
              obtain ⟨⟨h0, -, -⟩, -⟩ := hd
              dsimp only at h0
              (try simp only [h0])
              refine ⟨rfl, fun K hK => ?_⟩
              go_simp
              (go_at_call 13; (with_reducible refine (hcp.out _ (bl_tr hbw (bl_tr hb0 hcur))).mono ?_); rintro e w3 ⟨Ax, cx, rfl, hb3, hox⟩; dsimp only; exact hK.out ⟨0, undef, Ax, cx⟩ _ _ (by simp [up]) hb3 (by simpa [up] using hox) (by simp))
            · intro γ γ' hg
              try dsimp only
              have e1 := hg 1 (by decide)
              simp only [e1]
              try exact ⟨trivial, fun _ h => h⟩
            · intro γ W W' hbl hR
              first | exact hR.below hbl | exact own_below hR hbl | exact trivial | exact ⟨hR.1.below hbl, hR.2⟩
            · rfl
            dsimp only [nA, cA]
            apply RGW.on (i := 2) rfl
            · (simp only [gA, gB, gC] <;> rfl)
            · intro γ u W hcur hd
              clear hd
              (try dsimp only)
              refine ⟨rfl, ?_⟩
              go_simp <;> (try go_bits) <;> with_reducible rfl
            · exact fun _ _ _ => rfl
            · rfl
            dsimp only [nA, cA]
            apply RGW.on (i := 3) rfl
            · (simp only [gA, gB, gC] <;> rfl)
            · intro γ u W hcur hd
              clear hd
              (try dsimp only)
              refine ⟨rfl, ?_⟩
              go_simp <;> (try go_bits) <;> with_reducible rfl
            · exact fun _ _ _ => rfl
            · rfl
            dsimp only [nA, cA]
            apply RGW.gh (⟨fun γ => .slice (γ 4).A rl (γ 4).c, fun γ W => Sl cRd 4 W (γ 4).A l, fun _ => []⟩) (i := 4) rfl
            · (simp only [gA, gB, gC] <;> rfl)
            · intro γ u W hcur hd
              obtain ⟨⟨h3, -, -⟩, -⟩ := hd
              dsimp only at h3
              (try simp only [h3])
              refine ⟨rfl, fun K hK => ?_⟩
              go_simp
              (go_at_call 22; (with_reducible refine (hcr.out _ (bl_tr hbw (bl_tr hb0 hcur))).mono ?_); rintro e w3 ⟨Ax, cx, rfl, hb3, hox⟩; dsimp only; exact hK.out ⟨0, undef, Ax, cx⟩ _ _ (by simp [up]) hb3 (by simpa [up] using hox) (by simp))
            · intro γ γ' hg
              try dsimp only
              have e1 := hg 1 (by decide)
              have e4 := hg 4 (by decide)
              simp only [e1, e4]
              try exact ⟨trivial, fun _ h => h⟩
            · intro γ W W' hbl hR
              first | exact hR.below hbl | exact own_below hR hbl | exact trivial | exact ⟨hR.1.below hbl, hR.2⟩
            · rfl
            dsimp only [nA, cA]
            apply RGW.on (i := 5) rfl
            · (simp only [gA, gB, gC] <;> rfl)
            · intro γ u W hcur hd
              clear hd
              (try dsimp only)
              refine ⟨rfl, ?_⟩
              go_simp <;> (try go_bits) <;> with_reducible rfl
            · exact fun _ _ _ => rfl
            · rfl
            dsimp only [nA, cA]
            apply RGW.on (i := 6) rfl
            · (simp only [gA, gB, gC] <;> rfl)
            · intro γ u W hcur hd
              obtain ⟨⟨h5, -, -⟩, -⟩ := hd
              dsimp only at h5
              (try simp only [h5])
              refine ⟨rfl, ?_⟩
              go_simp <;> (try go_bits) <;> with_reducible rfl
            · exact fun _ _ _ => rfl
            · rfl
            dsimp only [nA, cA]
            apply RGW.on (i := 7) rfl
            · (simp only [gA, gB, gC] <;> rfl)
            · intro γ u W hcur hd
              obtain ⟨⟨h4, r4, -⟩, ⟨h6, -, -⟩, -⟩ := hd
              dsimp only at h4 h6 r4
              (try simp only [h4, h6])
              refine ⟨rfl, ?_⟩
              go_simp <;> (try go_bits) <;> with_reducible rfl
            · intro γ γ' hg
              try dsimp only
              have e1 := hg 1 (by decide)
              have e4 := hg 4 (by decide)
              simp only [e1, e4]
            · rfl
            dsimp only [nA, cA]
            apply RGW.call (i := 8) rfl
            · (simp only [gA, gB, gC] <;> rfl)
            · intro γ u W hcur hd
              obtain ⟨⟨h1, r1, -⟩, ⟨h2, -, -⟩, ⟨h4, r4, -⟩, ⟨h7, -, -⟩, -⟩ := hd
              dsimp only at h1 h2 h4 h7 r1 r4
              (try simp only [h1, h2, h4, h7])
              refine ⟨rfl, fun K hK => ?_⟩
              go_simp
              (go_at_call 23; (with_reducible refine (hv1 _ _ _ _ _ r1 r4).mono ?_); rintro e w3 ⟨rfl, hb3⟩; replace hb3 := bl_tt hb3)
              (try dsimp only)
              exact hK.out _ _ rfl (by (with_reducible (repeat' (first | assumption | apply jA | apply jB | apply jC | apply jD | apply jE | apply jF | apply hb3 | omega | (simp; done) | (simp; omega) | (dsimp only; omega)))))
            · exact fun _ _ _ => rfl
            · rfl
            dsimp only [nA, cA]
            apply RGW.on (i := 9) rfl
            · (simp only [gA, gB, gC] <;> rfl)
            · intro γ u W hcur hd
              obtain ⟨⟨h1, r1, -⟩, ⟨h4, r4, -⟩, ⟨h8, -, -⟩, -⟩ := hd
              dsimp only at h1 h4 h8 r1 r4
              (try simp only [h1, h4, h8])
              refine ⟨rfl, ?_⟩
              go_simp <;> (try go_bits) <;> with_reducible rfl
            · exact fun _ _ _ => rfl
            · rfl
            dsimp only [nA, cA]
            apply RGW.on (i := 10) rfl
            · (simp only [gA, gB, gC] <;> rfl)
            · intro γ u W hcur hd
              obtain ⟨⟨h1, r1, -⟩, ⟨h4, r4, -⟩, ⟨h9, -, -⟩, -⟩ := hd
              dsimp only at h1 h4 h9 r1 r4
              (try simp only [h1, h4, h9])
              refine ⟨rfl, ?_⟩
              go_simp <;> (try go_bits) <;> with_reducible rfl
            · exact fun _ _ _ => rfl
            · rfl
            dsimp only [nA, cA]
            apply RGW.onL (i := 11) rfl
            · (simp only [gA, gB, gC] <;> rfl)
            · intro γ u Wm W hcur hd hX
              obtain ⟨⟨h1, r1, -⟩, ⟨h4, r4, -⟩, ⟨h9, -, -⟩, -⟩ := hd
              dsimp only at h1 h4 h9 r1 r4
              (try simp only [h1, h4, h9])
              refine ⟨rfl, ?_⟩
              go_simp <;> (try go_bits) <;> with_reducible rfl
            · exact fun _ _ _ => rfl
            dsimp only [nA, cA]
            apply RGW.onL (i := 12) rfl
            · (simp only [gA, gB, gC] <;> rfl)
            · intro γ u Wm W hcur hd hX
              obtain ⟨⟨h1, r1, -⟩, ⟨h4, r4, -⟩, ⟨h9, -, -⟩, -⟩ := hd
              dsimp only at h1 h4 h9 r1 r4
              (try simp only [h1, h4, h9])
              refine ⟨rfl, ?_⟩
              go_simp <;> (try go_bits) <;> with_reducible rfl
            · exact fun _ _ _ => rfl
            dsimp only [nA, cA]
            apply RGW.alloc (i := 13) rfl
            · (simp only [gA, gB, gC] <;> rfl)
            · intro γ u W hcur hd
              clear hd
              (try dsimp only)
              refine ⟨rfl, fun K hK => ?_⟩
              go_simp
              exact hK.out _ _ rfl rfl
            · exact fun _ _ _ => rfl
            · rfl
            · rfl
            dsimp only [nA, cA]
            refine RGW.skip (i := 14) rfl rfl ?_
            dsimp only [nA, cA]
            refine RGW.skip (i := 15) rfl rfl ?_
            dsimp only [nA, cA]
            refine RGW.skip (i := 16) rfl rfl ?_
            dsimp only [nA, cA]
            refine RGW.fin (fun γ u y5 hy5 hd hdis => ?_)
            obtain ⟨⟨h0, -, -⟩, ⟨h1, r1, b1⟩, ⟨h2, -, -⟩, ⟨h3, -, -⟩, ⟨h4, r4, b4⟩, ⟨h5, -, -⟩, ⟨h6, -, -⟩, ⟨h7, -, -⟩, ⟨h8, -, -⟩, ⟨h9, -, -⟩, ⟨h10, -, -⟩, ⟨h11, -, -⟩, ⟨h12, -, -⟩, ⟨h13, r13, b13⟩, -⟩ := hd
            dsimp only at h0 h1 h2 h3 h4 h5 h6 h7 h8 h9 h10 h11 h12 h13 r1 r4 r13 b1 b4 b13
            clear hdis
            simp only [h0, h1, h2, h3, h4, h5, h6, h7, h8, h9, h10, h11, h12, h13]
            clear h13 h12 h11 h10 h9 h8 h7 h6 h5 h4 h3 h2 h1 h0
            replace b13 := b13 _ (List.mem_singleton.2 rfl)
            generalize hγ13 : (γ 13).n = g13 at *
            clear hγ13
            clear u
            simp only [List.map_cons, List.map_nil]
            apply PlanW.step
            · (simp only [gA, gB, gC] <;> rfl)
            · rfl
            intro K hK
            refine wp_store_keep (X := [g13]) (w0 := y5) rfl rfl rfl (by with_reducible first | exact bx_refl _ _ | assumption) (by with_reducible first | assumption | (apply Blk.below (hb := hy5); assumption)) (by simp) (by kernel_rfl) (by rfl) (by simp [Value.oneCell']) (fun hres1 hcur => ?_)
            refine hK.out _ _ hcur (fun _ => ?_)
            clear hK K
            try simp only [Act.put, List.setIfInBounds_toArray, List.set_cons_zero, List.set_cons_succ]
            apply PlanW.step
            · (simp only [gA, gB, gC] <;> rfl)
            · rfl
            intro K hK
            go_simp
            refine hK.out _ _ (by (with_reducible (repeat' (first | assumption | apply jG | apply jH | apply jI | apply jJ | apply jK | apply hb3x | omega | (simp; done) | (simp; omega) | (dsimp only; omega))))) (fun hcur => ?_)
            clear hK K
            try simp only [Act.put, List.setIfInBounds_toArray, List.set_cons_zero, List.set_cons_succ]
            apply PlanW.step
            · (simp only [gA, gB, gC] <;> rfl)
            · rfl
            intro K hK
            go_simp
            refine hK.out _ _ (by (with_reducible (repeat' (first | assumption | apply jG | apply jH | apply jI | apply jJ | apply jK | apply hb3x | omega | (simp; done) | (simp; omega) | (dsimp only; omega))))) (fun hcur => ?_)
            clear hK K
            try simp only [Act.put, List.setIfInBounds_toArray, List.set_cons_zero, List.set_cons_succ]
            refine PlanW.done ?_
            have hb3 := bl_tt hy5
            clear r1 r4
            apply absTB4 (w0 := y1) (g0 := w.heap.size) (g1 := w.heap.size + 1) (g2 := g10) (g3 := g13)
            iterate 5 (focus ((with_reducible (repeat' (first | assumption | apply jA | apply jB | apply jC | apply jD | apply jE | apply jF | apply hb3 | apply jG | apply jH | apply jI | apply jJ | apply jK | apply hb3x | (apply jL; first | (simp; done) | rfl) | apply jM | apply jN | apply jO | apply jP | apply jQ | apply jR | apply jS | apply jT (hb := hb3 _ (jA _)) | omega | (simp; done) | (simp; omega) | (dsimp only; omega)))); done))
            intro y6 hb0' k0' k1' k3' k5'
            (try simp only [List.setIfInBounds_toArray, List.set_cons_zero, List.set_cons_succ] at k0' k1' k3' k5')
            try clear hb3
            try clear Lk0
            try clear Fk0
            try clear Qk0
            try clear Lk1
            try clear Fk1
            try clear Qk1
            try clear Lk3
            try clear Fk3
            try clear Qk3
            try clear hb0
            try clear k0
            try clear k1
            try clear k3
            try clear k5
            have hb0 := hb0'; clear hb0'
            have k0 := k0'; clear k0'
            have k1 := k1'; clear k1'
            have k3 := k3'; clear k3'
            have k5 := k5'; clear k5'
            have Lk0 := k0.later
            have Fk0 := k0.laterF
            have Qk0 := k0.lt
            have Lk1 := k1.later
            have Fk1 := k1.laterF
            have Qk1 := k1.lt
            have Lk3 := k3.later
            have Fk3 := k3.laterF
            have Qk3 := k3.lt
            have Lk5 := k5.later
            have Fk5 := k5.laterF
            have Qk5 := k5.lt
            go_upto_region 22 with (go_at_call 30; (with_reducible refine (hin _).mono ?_); rintro e w3 ⟨rfl, hb3⟩; replace hb3 := bl_tt hb3)
            apply absB4 (w0 := y1) (g0 := w.heap.size) (g1 := w.heap.size + 1) (g2 := g10) (g3 := g13)
            iterate 5 (focus ((with_reducible (repeat' (first | assumption | apply jA | apply jB | apply jC | apply jD | apply jE | apply jF | apply hb3 | apply jG | apply jH | apply jI | apply jJ | apply jK | apply hb3x | (apply jL; first | (simp; done) | rfl) | apply jM | apply jN | apply jO | apply jP | apply jQ | apply jR | apply jS | apply jT (hb := hb3 _ (jA _)) | omega | (simp; done) | (simp; omega) | (dsimp only; omega)))); done))
            intro y7 hb0' k0' k1' k3' k5'
            (try simp only [List.setIfInBounds_toArray, List.set_cons_zero, List.set_cons_succ] at k0' k1' k3' k5')
            try clear hb3
            try clear Lk0
            try clear Fk0
            try clear Qk0
            try clear Lk1
            try clear Fk1
            try clear Qk1
            try clear Lk3
            try clear Fk3
            try clear Qk3
            try clear Lk5
            try clear Fk5
            try clear Qk5
            try clear hb0
            try clear k0
            try clear k1
            try clear k3
            try clear k5
            have hb0 := hb0'; clear hb0'
            have k0 := k0'; clear k0'
            have k1 := k1'; clear k1'
            have k3 := k3'; clear k3'
            have k5 := k5'; clear k5'
            have Lk0 := k0.later
            have Fk0 := k0.laterF
            have Qk0 := k0.lt
            have Lk1 := k1.later
            have Fk1 := k1.laterF
            have Qk1 := k1.lt
            have Lk3 := k3.later
            have Fk3 := k3.laterF
            have Qk3 := k3.lt
            have Lk5 := k5.later
            have Fk5 := k5.laterF
            have Qk5 := k5.lt
            by_cases hgl : gl = 0
            · subst hgl
              go_wp2
              go_ret
              exact ⟨rfl, bl_tr hbw hb0⟩
            · have hz2 := hb0.size
              replace hv2 := hv2 hgl
              have hgd : ((gl : Int) == 0) = false := by simp [hgl]
              go_upto_region 24 with fail
              refine wp_any (w0 := y7) ⟨[15, 16, 17], [12, 13], [some 141, some 142, some 143, some 144, some 145, some 146, some 147, some 148, some 149, some 150, some 140, some 151, some 152, some 153, some 18, none, none, none], [[], [0], [], [], [0, 1, 3], [], [5], [5, 6], [0, 1, 3, 4, 5, 6, 7], [0, 1, 2, 3, 4, 5, 6, 7, 8], [0, 1, 2, 3, 4, 5, 6, 7, 8, 9], [0, 1, 2, 3, 4, 5, 6, 7, 8, 9, 10], [0, 1, 2, 3, 4, 5, 6, 7, 8, 9, 10], [0, 1, 2, 3, 4, 5, 6, 7, 8, 9, 10], [], [0, 1, 2, 3, 4, 5, 6, 7, 8, 9, 10, 11, 14], [0, 1, 2, 3, 4, 5, 6, 7, 8, 9, 10, 11, 12, 14, 15], [0, 1, 2, 3, 4, 5, 6, 7, 8, 9, 10, 11, 12, 13, 14, 15, 16]], [[], [0], [], [], [3], [], [5], [6], [4, 7], [1, 2, 4, 8], [1, 4, 9], [1, 4, 10], [1, 4, 10], [1, 4, 10], [], [], [], []]⟩ (fun γ => [(γ 14).n]) (by kernel_rfl) (by kernel_rfl) (by (with_reducible (repeat' (first | assumption | apply jA | apply jB | apply jC | apply jD | apply jE | apply jF | apply hb3 | omega | (simp; done) | (simp; omega) | (dsimp only; omega))))) (fun u => by simp only [putD, Act.put, List.setIfInBounds_toArray, List.set_cons_zero, List.set_cons_succ, Nat.zero_add, Nat.reduceAdd]; rfl) ?_
              apply RGW.on (i := 0) rfl
              · (simp only [gA, gB, gC] <;> rfl)
              · intro γ u W hcur hd
                clear hd
                (try dsimp only)
                refine ⟨rfl, ?_⟩
                go_simp <;> (try go_bits) <;> with_reducible rfl
              · exact fun _ _ _ => rfl
              · rfl
              dsimp only [nA, cA]
              apply RGW.gh (⟨fun γ => vNt n.world (.slice (γ 1).A nl (γ 1).c), fun γ W => NtIn n (γ 1).A (γ 1).c W, fun _ => []⟩) (i := 1) rfl
              · (simp only [gA, gB, gC] <;> rfl)
              · intro γ u W hcur hd
                obtain ⟨⟨h0, -, -⟩, -⟩ := hd
                dsimp only at h0
                (try simp only [h0])
                refine ⟨rfl, fun K hK => ?_⟩
                go_simp
                (go_at_call 13; (with_reducible refine (hcp.out _ (bl_tr hbw (bl_tr hb0 hcur))).mono ?_); rintro e w3 ⟨Ax, cx, rfl, hb3, hox⟩; dsimp only; exact hK.out ⟨0, undef, Ax, cx⟩ _ _ (by simp [up]) hb3 (by simpa [up] using hox) (by simp))
              · intro γ γ' hg
                try dsimp only
                have e1 := hg 1 (by decide)
                simp only [e1]
                try exact ⟨trivial, fun _ h => h⟩
              · intro γ W W' hbl hR
                first | exact hR.below hbl | exact own_below hR hbl | exact trivial | exact ⟨hR.1.below hbl, hR.2⟩
              · rfl
              dsimp only [nA, cA]
              apply RGW.on (i := 2) rfl
              · (simp only [gA, gB, gC] <;> rfl)
              · intro γ u W hcur hd
                clear hd
                (try dsimp only)
                refine ⟨rfl, ?_⟩
                go_simp <;> (try go_bits) <;> with_reducible rfl
              · exact fun _ _ _ => rfl
              · rfl
              dsimp only [nA, cA]
              apply RGW.on (i := 3) rfl
              · (simp only [gA, gB, gC] <;> rfl)
              · intro γ u W hcur hd
                clear hd
                (try dsimp only)
                refine ⟨rfl, ?_⟩
                go_simp <;> (try go_bits) <;> with_reducible rfl
              · exact fun _ _ _ => rfl
              · rfl
              dsimp only [nA, cA]
              apply RGW.gh (⟨fun γ => .slice (γ 4).A rl (γ 4).c, fun γ W => Sl cRd 4 W (γ 4).A l, fun _ => []⟩) (i := 4) rfl
              · (simp only [gA, gB, gC] <;> rfl)
              · intro γ u W hcur hd
                obtain ⟨⟨h3, -, -⟩, -⟩ := hd
                dsimp only at h3
                (try simp only [h3])
                refine ⟨rfl, fun K hK => ?_⟩
                go_simp
                (go_at_call 22; (with_reducible refine (hcr.out _ (bl_tr hbw (bl_tr hb0 hcur))).mono ?_); rintro e w3 ⟨Ax, cx, rfl, hb3, hox⟩; dsimp only; exact hK.out ⟨0, undef, Ax, cx⟩ _ _ (by simp [up]) hb3 (by simpa [up] using hox) (by simp))
              · intro γ γ' hg
                try dsimp only
                have e1 := hg 1 (by decide)
                have e4 := hg 4 (by decide)
                simp only [e1, e4]
                try exact ⟨trivial, fun _ h => h⟩
              · intro γ W W' hbl hR
                first | exact hR.below hbl | exact own_below hR hbl | exact trivial | exact ⟨hR.1.below hbl, hR.2⟩
              · rfl
              dsimp only [nA, cA]
              apply RGW.on (i := 5) rfl
              · (simp only [gA, gB, gC] <;> rfl)
              · intro γ u W hcur hd
                clear hd
                (try dsimp only)
                refine ⟨rfl, ?_⟩
                go_simp <;> (try go_bits) <;> with_reducible rfl
              · exact fun _ _ _ => rfl
              · rfl
              dsimp only [nA, cA]
              apply RGW.on (i := 6) rfl
              · (simp only [gA, gB, gC] <;> rfl)
              · intro γ u W hcur hd
                obtain ⟨⟨h5, -, -⟩, -⟩ := hd
                dsimp only at h5
                (try simp only [h5])
                refine ⟨rfl, ?_⟩
                go_simp <;> (try go_bits) <;> with_reducible rfl
              · exact fun _ _ _ => rfl
              · rfl
              dsimp only [nA, cA]
              apply RGW.on (i := 7) rfl
              · (simp only [gA, gB, gC] <;> rfl)
              · intro γ u W hcur hd
                obtain ⟨⟨h6, -, -⟩, -⟩ := hd
                dsimp only at h6
                (try simp only [h6])
                refine ⟨rfl, ?_⟩
                go_simp <;> (try go_bits) <;> with_reducible rfl
              · exact fun _ _ _ => rfl
              · rfl
              dsimp only [nA, cA]
              apply RGW.on (i := 8) rfl
              · (simp only [gA, gB, gC] <;> rfl)
              · intro γ u W hcur hd
                obtain ⟨⟨h4, r4, -⟩, ⟨h7, -, -⟩, -⟩ := hd
                dsimp only at h4 h7 r4
                (try simp only [h4, h7])
                refine ⟨rfl, ?_⟩
                go_simp <;> (try go_bits) <;> with_reducible rfl
              · intro γ γ' hg
                try dsimp only
                have e1 := hg 1 (by decide)
                have e4 := hg 4 (by decide)
                simp only [e1, e4]
              · rfl
              dsimp only [nA, cA]
              apply RGW.call (i := 9) rfl
              · (simp only [gA, gB, gC] <;> rfl)
              · intro γ u W hcur hd
                obtain ⟨⟨h1, r1, -⟩, ⟨h2, -, -⟩, ⟨h4, r4, -⟩, ⟨h8, -, -⟩, -⟩ := hd
                dsimp only at h1 h2 h4 h8 r1 r4
                (try simp only [h1, h2, h4, h8])
                refine ⟨rfl, fun K hK => ?_⟩
                go_simp
                (go_at_call 23; (with_reducible refine (hv2 _ _ _ _ _ r1 r4).mono ?_); rintro e w3 ⟨rfl, hb3⟩; replace hb3 := bl_tt hb3)
                (try dsimp only)
                exact hK.out _ _ rfl (by (with_reducible (repeat' (first | assumption | apply jA | apply jB | apply jC | apply jD | apply jE | apply jF | apply hb3 | omega | (simp; done) | (simp; omega) | (dsimp only; omega)))))
              · exact fun _ _ _ => rfl
              · rfl
              dsimp only [nA, cA]
              apply RGW.on (i := 10) rfl
              · (simp only [gA, gB, gC] <;> rfl)
              · intro γ u W hcur hd
                obtain ⟨⟨h1, r1, -⟩, ⟨h4, r4, -⟩, ⟨h9, -, -⟩, -⟩ := hd
                dsimp only at h1 h4 h9 r1 r4
                (try simp only [h1, h4, h9])
                refine ⟨rfl, ?_⟩
                go_simp <;> (try go_bits) <;> with_reducible rfl
              · exact fun _ _ _ => rfl
              · rfl
              dsimp only [nA, cA]
              apply RGW.on (i := 11) rfl
              · (simp only [gA, gB, gC] <;> rfl)
              · intro γ u W hcur hd
                obtain ⟨⟨h1, r1, -⟩, ⟨h4, r4, -⟩, ⟨h10, -, -⟩, -⟩ := hd
                dsimp only at h1 h4 h10 r1 r4
                (try simp only [h1, h4, h10])
                refine ⟨rfl, ?_⟩
                go_simp <;> (try go_bits) <;> with_reducible rfl
              · exact fun _ _ _ => rfl
              · rfl
              dsimp only [nA, cA]
              apply RGW.onL (i := 12) rfl
              · (simp only [gA, gB, gC] <;> rfl)
              · intro γ u Wm W hcur hd hX
                obtain ⟨⟨h1, r1, -⟩, ⟨h4, r4, -⟩, ⟨h10, -, -⟩, -⟩ := hd
                dsimp only at h1 h4 h10 r1 r4
                (try simp only [h1, h4, h10])
                refine ⟨rfl, ?_⟩
                go_simp <;> (try go_bits) <;> with_reducible rfl
              · exact fun _ _ _ => rfl
              dsimp only [nA, cA]
              apply RGW.onL (i := 13) rfl
              · (simp only [gA, gB, gC] <;> rfl)
              · intro γ u Wm W hcur hd hX
                obtain ⟨⟨h1, r1, -⟩, ⟨h4, r4, -⟩, ⟨h10, -, -⟩, -⟩ := hd
                dsimp only at h1 h4 h10 r1 r4
                (try simp only [h1, h4, h10])
                refine ⟨rfl, ?_⟩
                go_simp <;> (try go_bits) <;> with_reducible rfl
              · exact fun _ _ _ => rfl
              dsimp only [nA, cA]
              apply RGW.alloc (i := 14) rfl
              · (simp only [gA, gB, gC] <;> rfl)
              · intro γ u W hcur hd
                clear hd
                (try dsimp only)
                refine ⟨rfl, fun K hK => ?_⟩
                go_simp
                exact hK.out _ _ rfl rfl
              · exact fun _ _ _ => rfl
              · rfl
              · rfl
              dsimp only [nA, cA]
              refine RGW.skip (i := 15) rfl rfl ?_
              dsimp only [nA, cA]
              refine RGW.skip (i := 16) rfl rfl ?_
              dsimp only [nA, cA]
              refine RGW.skip (i := 17) rfl rfl ?_
              dsimp only [nA, cA]
              refine RGW.fin (fun γ u y8 hy8 hd hdis => ?_)
              obtain ⟨⟨h0, -, -⟩, ⟨h1, r1, b1⟩, ⟨h2, -, -⟩, ⟨h3, -, -⟩, ⟨h4, r4, b4⟩, ⟨h5, -, -⟩, ⟨h6, -, -⟩, ⟨h7, -, -⟩, ⟨h8, -, -⟩, ⟨h9, -, -⟩, ⟨h10, -, -⟩, ⟨h11, -, -⟩, ⟨h12, -, -⟩, ⟨h13, -, -⟩, ⟨h14, r14, b14⟩, -⟩ := hd
              dsimp only at h0 h1 h2 h3 h4 h5 h6 h7 h8 h9 h10 h11 h12 h13 h14 r1 r4 r14 b1 b4 b14
              clear hdis
              simp only [h0, h1, h2, h3, h4, h5, h6, h7, h8, h9, h10, h11, h12, h13, h14]
              clear h14 h13 h12 h11 h10 h9 h8 h7 h6 h5 h4 h3 h2 h1 h0
              replace b14 := b14 _ (List.mem_singleton.2 rfl)
              generalize hγ14 : (γ 14).n = g14 at *
              clear hγ14
              clear u
              simp only [List.map_cons, List.map_nil]
              apply PlanW.step
              · (simp only [gA, gB, gC] <;> rfl)
              · rfl
              intro K hK
              refine wp_store_keep (X := [g14]) (w0 := y8) rfl rfl rfl (by with_reducible first | exact bx_refl _ _ | assumption) (by with_reducible first | assumption | (apply Blk.below (hb := hy8); assumption)) (by simp) (by kernel_rfl) (by rfl) (by simp [Value.oneCell']) (fun hres1 hcur => ?_)
              refine hK.out _ _ hcur (fun _ => ?_)
              clear hK K
              try simp only [Act.put, List.setIfInBounds_toArray, List.set_cons_zero, List.set_cons_succ]
              apply PlanW.step
              · (simp only [gA, gB, gC] <;> rfl)
              · rfl
              intro K hK
              go_simp
              refine hK.out _ _ (by (with_reducible (repeat' (first | assumption | apply jG | apply jH | apply jI | apply jJ | apply jK | apply hb3x | omega | (simp; done) | (simp; omega) | (dsimp only; omega))))) (fun hcur => ?_)
              clear hK K
              try simp only [Act.put, List.setIfInBounds_toArray, List.set_cons_zero, List.set_cons_succ]
              apply PlanW.step
              · (simp only [gA, gB, gC] <;> rfl)
              · rfl
              intro K hK
              go_simp
              refine hK.out _ _ (by (with_reducible (repeat' (first | assumption | apply jG | apply jH | apply jI | apply jJ | apply jK | apply hb3x | omega | (simp; done) | (simp; omega) | (dsimp only; omega))))) (fun hcur => ?_)
              clear hK K
              try simp only [Act.put, List.setIfInBounds_toArray, List.set_cons_zero, List.set_cons_succ]
              refine PlanW.done ?_
              have hb3 := bl_tt hy8
              clear r1 r4
              apply absTB5 (w0 := y1) (g0 := w.heap.size) (g1 := w.heap.size + 1) (g2 := g10) (g3 := g13) (g4 := g14)
              iterate 6 (focus ((with_reducible (repeat' (first | assumption | apply jA | apply jB | apply jC | apply jD | apply jE | apply jF | apply hb3 | apply jG | apply jH | apply jI | apply jJ | apply jK | apply hb3x | (apply jL; first | (simp; done) | rfl) | apply jM | apply jN | apply jO | apply jP | apply jQ | apply jR | apply jS | apply jT (hb := hb3 _ (jA _)) | omega | (simp; done) | (simp; omega) | (dsimp only; omega)))); done))
              intro y9 hb0' k0' k1' k3' k5' k6'
              (try simp only [List.setIfInBounds_toArray, List.set_cons_zero, List.set_cons_succ] at k0' k1' k3' k5' k6')
              try clear hb3
              try clear Lk0
              try clear Fk0
              try clear Qk0
              try clear Lk1
              try clear Fk1
              try clear Qk1
              try clear Lk3
              try clear Fk3
              try clear Qk3
              try clear Lk5
              try clear Fk5
              try clear Qk5
              try clear hb0
              try clear k0
              try clear k1
              try clear k3
              try clear k5
              try clear k6
              have hb0 := hb0'; clear hb0'
              have k0 := k0'; clear k0'
              have k1 := k1'; clear k1'
              have k3 := k3'; clear k3'
              have k5 := k5'; clear k5'
              have k6 := k6'; clear k6'
              have Lk0 := k0.later
              have Fk0 := k0.laterF
              have Qk0 := k0.lt
              have Lk1 := k1.later
              have Fk1 := k1.laterF
              have Qk1 := k1.lt
              have Lk3 := k3.later
              have Fk3 := k3.laterF
              have Qk3 := k3.lt
              have Lk5 := k5.later
              have Fk5 := k5.laterF
              have Qk5 := k5.lt
              have Lk6 := k6.later
              have Fk6 := k6.laterF
              have Qk6 := k6.lt
              go_wp2
              go_ret
              exact ⟨rfl, bl_tr hbw hb0⟩
          · skip
            go_upto_region 11 with (go_at_call 27; (with_reducible refine (hil _).mono ?_); rintro e w3 ⟨rfl, hb3⟩; replace hb3 := bl_tt hb3)
            apply absB3 (w0 := we1) (g0 := w.heap.size) (g1 := w.heap.size + 1) (g2 := g10)
            iterate 4 (focus ((with_reducible (repeat' (first | assumption | apply jA | apply jB | apply jC | apply jD | apply jE | apply jF | apply hb3 | apply jG | apply jH | apply jI | apply jJ | apply jK | apply hb3x | (apply jL; first | (simp; done) | rfl) | apply jM | apply jN | apply jO | apply jP | apply jQ | apply jR | apply jS | apply jT (hb := hb3 _ (jA _)) | omega | (simp; done) | (simp; omega) | (dsimp only; omega)))); done))
            intro x3 hb0' k0' k1' k3'
            (try simp only [List.setIfInBounds_toArray, List.set_cons_zero, List.set_cons_succ] at k0' k1' k3')
            try clear hb3
            try clear hb0
            try clear k0
            try clear k1
            try clear k3
            have hb0 := hb0'; clear hb0'
            have k0 := k0'; clear k0'
            have k1 := k1'; clear k1'
            have k3 := k3'; clear k3'
            have Lk0 := k0.later
            have Fk0 := k0.laterF
            have Qk0 := k0.lt
            have Lk1 := k1.later
            have Fk1 := k1.laterF
            have Qk1 := k1.lt
            have Lk3 := k3.later
            have Fk3 := k3.laterF
            have Qk3 := k3.lt
            obtain ⟨rfl, rfl, rfl⟩ := fL.out (by simp) (by simp) (by simp)
            clear fB fR fL fK
            go_wp2
            go_ret
            exact ⟨by simp, bl_tr hbw hb0⟩
        · obtain ⟨rfl, rfl, rfl⟩ := fR.out (by simp) h1
          clear fB fR fL fK
          have h1' := bne_ne'' h1
          replace h1 := Lib.hid h1
          go_wp2
          go_ret
          exact ⟨by simp, bl_tr hbw hb0⟩
      · obtain ⟨rfl, rfl, rfl⟩ := fB.out h0
        clear fB fR fL fK
        have h0' := bne_ne'' h0
        replace h0 := Lib.hid h0
        go_wp2
        go_ret
        exact ⟨by simp, bl_tr hbw hb0⟩
end Go.Proofs.Ytephimmamkafoaa
