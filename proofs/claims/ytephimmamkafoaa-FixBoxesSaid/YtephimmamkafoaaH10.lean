/-
  Walk: the law of boxes.
-/
import Derived.Test.YtephimmamkafoaaH9
namespace Go.Proofs.Ytephimmamkafoaa
set_option linter.unusedSimpArgs false
set_option linter.unusedVariables false
open Go.RowKit Go.Shelf
attribute [local go_sem] bl_al bl_drew bl_drewN bl_refl bx_al bx_drew bx_drewN bx_refl
set_option maxRecDepth 20000
theorem fst_ne {x : Int} {l : List Int} (h : x ≠ 0) : fstE (x :: l) = x := by simp [fstE, h]
theorem fst_eq {l : List Int} : fstE (0 :: l) = fstE l := by simp [fstE]
theorem voted_A {n : Nt} {b : Bx} {v : Vt} (h : boxErr n b ≠ 0) : votedE n b v = boxErr n b := fst_ne h
theorem voted_B {n : Nt} {b : Bx} {v : Vt} (h0 : boxErr n b = 0) (h : readsErr n v.rs ≠ 0) : votedE n b v = readsErr n v.rs := by
  rw [votedE, h0, fst_eq, fst_one, voteE, fst_ne h]
theorem voted_C {n : Nt} {b : Bx} {v : Vt} (h0 : boxErr n b = 0) (h1 : readsErr n v.rs = 0) : votedE n b v = unl (inR v.wrong 0 v.rs.length) 2 := by
  rw [votedE, h0, fst_eq, fst_one, voteE, h1, fst_eq, fst_one]
theorem voted_ne {n : Nt} {b : Bx} {v : Vt} {x : Int} (h : votedE n b v = x) (hx : x ≠ 0) : votedS n b v = (bx0, 0, x) := by rw [votedS, if_neg (by rw [h]; exact hx), h]
theorem voted_big {n : Nt} {b : Bx} {v : Vt} (h : votedE n b v = 0) (hb : 20000 < b.size) : votedS n b v = (bx0, 0, 8) := by rw [votedS, if_pos h, if_neg (by omega)]
theorem reads_ref {n : Nt} {b : Bx} {l : List Rd} (h : boxErr n b = 0) : (refReads n.bs.length l).2 = readsErr n l := by rw [refReads_eq (box_zero h).1]; rfl
theorem inR_len (n : Nat) : inR 0 0 n = true := by rw [inR_iff]; omega
set_option maxHeartbeats 16000000 in
theorem l_FixBoxes (n : Nt) (b : Bx) (v : Vt) (A A' : Option Addr) (c c' : Nat) (w : World) (hs : Sl cBc 4 w A n.bs) (hc : n.bs.length ≤ c) (hnm : ∀ b ∈ n.bs, b.name.size ≤ maxLen) (hl : Sl cRd 4 w A' v.rs) :
    Calls Try.prog 4 #[vNt n.world (.slice A n.bs.length c), vBx b, vVt A' v.rs.length c' v.wrong] w (Ret (.bool true) w) := by
  have hfw := Lib.hid fun W : World => r_few n A A' c c' v.rs.length W
  obtain ⟨F, hF⟩ : ∃ F, (decide (n.bs.length ≤ 8) && decide (v.rs.length ≤ 10)) = F := ⟨_, rfl⟩
  rw [hF] at hfw
  cases F
  · clear hF hs hc hnm hl
    generalize n.bs.length = nl at *
    generalize v.rs.length = rl at *
    go_enter Try.func4, Try.ntmps4
    go_upto_region 3 with (go_at_call 10; (with_reducible refine (r_awake _).mono ?_); rintro e w3 ⟨rfl, hb3⟩; replace hb3 := bl_tt hb3)
    apply absB3 (w0 := w) (g0 := w.heap.size) (g1 := w.heap.size + 1) (g2 := w.heap.size + 2)
    iterate 4 (focus ((with_reducible (repeat' (first | assumption | apply jA | apply jB | apply jC | apply jD | apply jE | apply jF | apply hb3 | apply jG | apply jH | apply jI | apply jJ | apply jK | apply hb3x | (apply jL; first | (simp; done) | rfl) | apply jM | apply jN | apply jO | apply jP | apply jQ | apply jR | apply jS | apply jT (hb := hb3 _ (jA _)) | omega | (simp; done) | (simp; omega) | (dsimp only; omega)))); done))
    intro wa hb0' k0' k1' k2'
    (try simp only [List.setIfInBounds_toArray, List.set_cons_zero, List.set_cons_succ] at k0' k1' k2')
    try clear hb3
    try clear hb0
    try clear k0
    try clear k1
    try clear k2
    have hb0 := hb0'; clear hb0'
    have k0 := k0'; clear k0'
    have k1 := k1'; clear k1'
    have k2 := k2'; clear k2'
    have Lk0 := k0.later
    have Fk0 := k0.laterF
    have Qk0 := k0.lt
    have Lk1 := k1.later
    have Fk1 := k1.laterF
    have Qk1 := k1.lt
    have Lk2 := k2.later
    have Fk2 := k2.laterF
    have Qk2 := k2.lt
    go_wp2_with (go_at_call 11; (with_reducible refine (hfw.out _).mono ?_); rintro e w3 ⟨rfl, hb3⟩; replace hb3 := bl_tt hb3)
    go_ret
    exact ⟨rfl, hb3 _ hb0⟩
  · simp only [Bool.and_eq_true, decide_eq_true_eq] at hF
    have hn : NtIn n A c w := ⟨by omega, hc, hnm, hs⟩
    have hll : v.rs.length ≤ 1000 := by omega
    have hli := Lib.hid fun (W : World) (hb : Below w.heap.size w W) => r_light n b A c W (hn.below hb)
    obtain ⟨L, hL⟩ : ∃ L, lightB n b = L := ⟨_, rfl⟩
    rw [hL] at hli
    cases L
    · clear hF hs hc hnm hl hL hn hll
      generalize n.bs.length = nl at *
      generalize v.rs.length = rl at *
      go_enter Try.func4, Try.ntmps4
      go_upto_region 3 with (go_at_call 10; (with_reducible refine (r_awake _).mono ?_); rintro e w3 ⟨rfl, hb3⟩; replace hb3 := bl_tt hb3)
      apply absB3 (w0 := w) (g0 := w.heap.size) (g1 := w.heap.size + 1) (g2 := w.heap.size + 2)
      iterate 4 (focus ((with_reducible (repeat' (first | assumption | apply jA | apply jB | apply jC | apply jD | apply jE | apply jF | apply hb3 | apply jG | apply jH | apply jI | apply jJ | apply jK | apply hb3x | (apply jL; first | (simp; done) | rfl) | apply jM | apply jN | apply jO | apply jP | apply jQ | apply jR | apply jS | apply jT (hb := hb3 _ (jA _)) | omega | (simp; done) | (simp; omega) | (dsimp only; omega)))); done))
      intro wa hb0' k0' k1' k2'
      (try simp only [List.setIfInBounds_toArray, List.set_cons_zero, List.set_cons_succ] at k0' k1' k2')
      try clear hb3
      try clear hb0
      try clear k0
      try clear k1
      try clear k2
      have hb0 := hb0'; clear hb0'
      have k0 := k0'; clear k0'
      have k1 := k1'; clear k1'
      have k2 := k2'; clear k2'
      have Lk0 := k0.later
      have Fk0 := k0.laterF
      have Qk0 := k0.lt
      have Lk1 := k1.later
      have Fk1 := k1.laterF
      have Qk1 := k1.lt
      have Lk2 := k2.later
      have Fk2 := k2.laterF
      have Qk2 := k2.lt
      go_wp2_with (first | (go_at_call 11; (with_reducible refine (hfw.out _).mono ?_); rintro e w3 ⟨rfl, hb3⟩; replace hb3 := bl_tt hb3; have hv := hb3 wa (by (with_reducible (repeat' (first | assumption | apply jA | apply jB | apply jC | apply jD | apply jE | apply jF | apply hb3 | omega | (simp; done) | (simp; omega) | (dsimp only; omega)))))) | (go_at_call 20; (with_reducible refine (hli.out _ (bl_tr hb0 hv)).mono ?_); rintro e w3 ⟨rfl, hb4⟩; replace hb3 := fun w h => bl_tt hb4 w (hb3 w h)))
      go_ret
      exact ⟨rfl, hb3 _ hb0⟩
    · have hcp := Lib.hid fun (W : World) (hb : Below w.heap.size w W) => r_CopyNet n A c W (hn.below hb)
      have hcr : Hid (∀ W : World, Below w.heap.size w W → Calls Try.prog 22 #[.slice A' v.rs.length c'] W (fun x w' => ∃ A2 c2, x = .returned (.slice A2 v.rs.length c2) ∧ Below W.heap.size W w' ∧ Sl cRd 4 w' A2 v.rs)) := fun W hb => (r_CopyReadings v.rs A' c' W (hl.below hb) hll).mono fun x w' ⟨A2, c2, e, h1, h2⟩ => ⟨A2, c2, e, h1, own_slC (cs := cRd) (fun _ => rfl) (by decide) h2⟩
      have hcv := Lib.hid fun (W : World) (hb : Below w.heap.size w W) => r_CopyVote v A' c' W (hl.below hb) hll
      have hfi := Lib.hid fun (W : World) (A A' : Option Addr) (c c' : Nat) (h : NtIn n A c W) (h' : Sl cRd 4 W A' v.rs) => c_FixIn n b v.rs A A' c c' W h h' hll (by omega)
      have hvi := Lib.hid fun (W : World) (A A' : Option Addr) (c c' : Nat) (h : NtIn n A c W) (h' : Sl cRd 4 W A' v.rs) => c_VotedIn n b v A A' c c' W h h' hll (by omega)
      have hbe := Lib.hid fun (W : World) (hb : Below w.heap.size w W) => r_BoxErr n b A c W (hn.below hb)
      have hrr := Lib.hid fun (W : World) (hb : Below w.heap.size w W) => r_CheckReadings n.world n.bs.length v.rs A A' c c' W (hl.below hb) hll (by omega)
      have hve := Lib.hid fun (W : World) (hb : Below w.heap.size w W) => r_VoteErr n.world n.bs.length v A A' c c' W (hl.below hb) hll (by omega)
      have hma := Lib.hid fun (v' : Vt) (hv : v'.rs = v.rs) (x : Int) (h1 : x ≠ 0 → votedS n b v' = (bx0, 0, x)) (h0 : x = 0 → votedE n b v' = 0 ∧ b.size ≤ 20000) (W : World) (hb : Below w.heap.size w W) => r_matches n b v' x A A' c c' W (hn.below hb) (by rw [hv]; exact hl.below hb) h1 h0
      have mA : Hid (boxErr n b ≠ 0 → (∀ W : World, Below w.heap.size w W → Calls Try.prog 28 #[vNt n.world (.slice A n.bs.length c), vBx b, vVt A' v.rs.length c' 0, .int .i64 (boxErr n b), vBx (votedS n b ⟨v.rs, 0⟩).1, .int .i64 (votedS n b ⟨v.rs, 0⟩).2.1, .int .i64 (votedS n b ⟨v.rs, 0⟩).2.2] W (Ret (.bool true) W)) ∧ (∀ W : World, Below w.heap.size w W → Calls Try.prog 28 #[vNt n.world (.slice A n.bs.length c), vBx b, vVt A' v.rs.length c' v.wrong, .int .i64 (boxErr n b), vBx (votedS n b v).1, .int .i64 (votedS n b v).2.1, .int .i64 (votedS n b v).2.2] W (Ret (.bool true) W))) := fun h0 =>
        ⟨hma.out ⟨v.rs, 0⟩ rfl (boxErr n b) (fun hx => voted_ne (voted_A h0) hx) (fun hx => absurd hx h0), hma.out v rfl (boxErr n b) (fun hx => voted_ne (voted_A h0) hx) (fun hx => absurd hx h0)⟩
      have mB : Hid (boxErr n b = 0 → (refReads n.bs.length v.rs).2 ≠ 0 → (∀ W : World, Below w.heap.size w W → Calls Try.prog 28 #[vNt n.world (.slice A n.bs.length c), vBx b, vVt A' v.rs.length c' 0, .int .i64 (refReads n.bs.length v.rs).2, vBx (votedS n b ⟨v.rs, 0⟩).1, .int .i64 (votedS n b ⟨v.rs, 0⟩).2.1, .int .i64 (votedS n b ⟨v.rs, 0⟩).2.2] W (Ret (.bool true) W)) ∧ (∀ W : World, Below w.heap.size w W → Calls Try.prog 28 #[vNt n.world (.slice A n.bs.length c), vBx b, vVt A' v.rs.length c' v.wrong, .int .i64 (refReads n.bs.length v.rs).2, vBx (votedS n b v).1, .int .i64 (votedS n b v).2.1, .int .i64 (votedS n b v).2.2] W (Ret (.bool true) W))) := fun h0 h1 => by
        rw [reads_ref h0] at h1 ⊢
        exact ⟨hma.out ⟨v.rs, 0⟩ rfl (readsErr n v.rs) (fun hx => voted_ne (voted_B h0 h1) hx) (fun hx => absurd hx h1), hma.out v rfl (readsErr n v.rs) (fun hx => voted_ne (voted_B h0 h1) hx) (fun hx => absurd hx h1)⟩
      have hE0 : Hid (boxErr n b = 0 → readsErr n v.rs = 0 → votedE n b ⟨v.rs, 0⟩ = 0) := fun h0 h1 => by rw [voted_C (v := ⟨v.rs, 0⟩) h0 h1, inR_len]; rfl
      have hE1 : Hid (boxErr n b = 0 → readsErr n v.rs = 0 → votedE n b v = refVote n.bs.length v) := fun h0 h1 => by rw [voted_C (v := v) h0 h1, refVote, if_pos (by rw [reads_ref h0, h1])]
      have mC : Hid (boxErr n b = 0 → (refReads n.bs.length v.rs).2 = 0 → refVote n.bs.length v ≠ 0 → (∀ W : World, Below w.heap.size w W → Calls Try.prog 28 #[vNt n.world (.slice A n.bs.length c), vBx b, vVt A' v.rs.length c' v.wrong, .int .i64 (refVote n.bs.length v), vBx (votedS n b v).1, .int .i64 (votedS n b v).2.1, .int .i64 (votedS n b v).2.2] W (Ret (.bool true) W))) := fun h0 h1 h2 => by
        rw [reads_ref h0] at h1
        exact hma.out v rfl (refVote n.bs.length v) (fun hx => voted_ne (hE1.out h0 h1) hx) (fun hx => absurd hx h2)
      have mS : Hid (boxErr n b = 0 → (refReads n.bs.length v.rs).2 = 0 → decide (20000 < b.size) = false → (∀ W : World, Below w.heap.size w W → Calls Try.prog 28 #[vNt n.world (.slice A n.bs.length c), vBx b, vVt A' v.rs.length c' 0, .int .i64 0, vBx (votedS n b ⟨v.rs, 0⟩).1, .int .i64 (votedS n b ⟨v.rs, 0⟩).2.1, .int .i64 (votedS n b ⟨v.rs, 0⟩).2.2] W (Ret (.bool true) W)) ∧ (refVote n.bs.length v = 0 → (∀ W : World, Below w.heap.size w W → Calls Try.prog 28 #[vNt n.world (.slice A n.bs.length c), vBx b, vVt A' v.rs.length c' v.wrong, .int .i64 0, vBx (votedS n b v).1, .int .i64 (votedS n b v).2.1, .int .i64 (votedS n b v).2.2] W (Ret (.bool true) W)))) := fun h0 h1 h2 => by
        rw [reads_ref h0] at h1
        have hle : b.size ≤ 20000 := by simpa using h2
        exact ⟨hma.out ⟨v.rs, 0⟩ rfl 0 (fun hx => absurd rfl hx) (fun _ => ⟨hE0.out h0 h1, hle⟩), fun h3 => hma.out v rfl 0 (fun hx => absurd rfl hx) (fun _ => ⟨(hE1.out h0 h1).trans h3, hle⟩)⟩
      have mL : Hid (boxErr n b = 0 → (refReads n.bs.length v.rs).2 = 0 → decide (20000 < b.size) = true → (∀ W : World, Below w.heap.size w W → Calls Try.prog 28 #[vNt n.world (.slice A n.bs.length c), vBx b, vVt A' v.rs.length c' 0, .int .i64 8, vBx (votedS n b ⟨v.rs, 0⟩).1, .int .i64 (votedS n b ⟨v.rs, 0⟩).2.1, .int .i64 (votedS n b ⟨v.rs, 0⟩).2.2] W (Ret (.bool true) W)) ∧ (refVote n.bs.length v = 0 → (∀ W : World, Below w.heap.size w W → Calls Try.prog 28 #[vNt n.world (.slice A n.bs.length c), vBx b, vVt A' v.rs.length c' v.wrong, .int .i64 8, vBx (votedS n b v).1, .int .i64 (votedS n b v).2.1, .int .i64 (votedS n b v).2.2] W (Ret (.bool true) W)))) := fun h0 h1 h2 => by
        rw [reads_ref h0] at h1
        have hlt : 20000 < b.size := by simpa using h2
        exact ⟨hma.out ⟨v.rs, 0⟩ rfl 8 (fun hx => voted_big (hE0.out h0 h1) hlt) (fun hx => absurd hx (by decide)), fun h3 => hma.out v rfl 8 (fun hx => voted_big ((hE1.out h0 h1).trans h3) hlt) (fun hx => absurd hx (by decide))⟩
      have hil := Lib.hid fun (h : boxErr n b = 0) (W : World) => r_IsLarge b W (box_ok h)
      clear hma hE0 hE1 hF hs hc hnm hl hL hn hll
      generalize refVote n.bs.length v = ve at *
      generalize (refReads n.bs.length v.rs).1 = ri at *
      generalize (refReads n.bs.length v.rs).2 = rr at *
      generalize votedS n b ⟨v.rs, 0⟩ = S0 at *
      generalize votedS n b v = S1 at *
      obtain ⟨o0, m0, e0⟩ := S0
      obtain ⟨o1, m1, e1⟩ := S1
      dsimp only at mA mB mC mS mL hfi hvi
      generalize decide (20000 < b.size) = lg at *
      generalize boxErr n b = be at *
      generalize n.bs.length = nl at *
      generalize v.rs.length = rl at *
      go_enter Try.func4, Try.ntmps4
      go_upto_region 3 with (go_at_call 10; (with_reducible refine (r_awake _).mono ?_); rintro e w3 ⟨rfl, hb3⟩; replace hb3 := bl_tt hb3)
      apply absB3 (w0 := w) (g0 := w.heap.size) (g1 := w.heap.size + 1) (g2 := w.heap.size + 2)
      iterate 4 (focus ((with_reducible (repeat' (first | assumption | apply jA | apply jB | apply jC | apply jD | apply jE | apply jF | apply hb3 | apply jG | apply jH | apply jI | apply jJ | apply jK | apply hb3x | (apply jL; first | (simp; done) | rfl) | apply jM | apply jN | apply jO | apply jP | apply jQ | apply jR | apply jS | apply jT (hb := hb3 _ (jA _)) | omega | (simp; done) | (simp; omega) | (dsimp only; omega)))); done))
      intro wa hb0' k0' k1' k2'
      (try simp only [List.setIfInBounds_toArray, List.set_cons_zero, List.set_cons_succ] at k0' k1' k2')
      try clear hb3
      try clear hb0
      try clear k0
      try clear k1
      try clear k2
      have hb0 := hb0'; clear hb0'
      have k0 := k0'; clear k0'
      have k1 := k1'; clear k1'
      have k2 := k2'; clear k2'
      have Lk0 := k0.later
      have Fk0 := k0.laterF
      have Qk0 := k0.lt
      have Lk1 := k1.later
      have Fk1 := k1.laterF
      have Qk1 := k1.lt
      have Lk2 := k2.later
      have Fk2 := k2.laterF
      have Qk2 := k2.lt
      go_upto_region 5 with (first | (go_at_call 11; (with_reducible refine (hfw.out _).mono ?_); rintro e w3 ⟨rfl, hb3⟩; replace hb3 := bl_tt hb3; have hv := hb3 wa (by (with_reducible (repeat' (first | assumption | apply jA | apply jB | apply jC | apply jD | apply jE | apply jF | apply hb3 | omega | (simp; done) | (simp; omega) | (dsimp only; omega)))))) | (go_at_call 20; (with_reducible refine (hli.out _ (bl_tr hb0 hv)).mono ?_); rintro e w3 ⟨rfl, hb4⟩; replace hb3 := fun w h => bl_tt hb4 w (hb3 w h)))
      apply absB3 (w0 := w) (g0 := w.heap.size) (g1 := w.heap.size + 1) (g2 := w.heap.size + 2)
      iterate 4 (focus ((with_reducible (repeat' (first | assumption | apply jA | apply jB | apply jC | apply jD | apply jE | apply jF | apply hb3 | apply jG | apply jH | apply jI | apply jJ | apply jK | apply hb3x | (apply jL; first | (simp; done) | rfl) | apply jM | apply jN | apply jO | apply jP | apply jQ | apply jR | apply jS | apply jT (hb := hb3 _ (jA _)) | omega | (simp; done) | (simp; omega) | (dsimp only; omega)))); done))
      intro wb hb0' k0' k1' k2'
      (try simp only [List.setIfInBounds_toArray, List.set_cons_zero, List.set_cons_succ] at k0' k1' k2')
      try clear hb3
      try clear Lk0
      try clear Fk0
      try clear Qk0
      try clear Lk1
      try clear Fk1
      try clear Qk1
      try clear Lk2
      try clear Fk2
      try clear Qk2
      try clear hb0
      try clear k0
      try clear k1
      try clear k2
      have hb0 := hb0'; clear hb0'
      have k0 := k0'; clear k0'
      have k1 := k1'; clear k1'
      have k2 := k2'; clear k2'
      have Lk0 := k0.later
      have Fk0 := k0.laterF
      have Qk0 := k0.lt
      have Lk1 := k1.later
      have Fk1 := k1.laterF
      have Qk1 := k1.lt
      have Lk2 := k2.later
      have Fk2 := k2.laterF
      have Qk2 := k2.lt
      refine wp_any (w0 := wb) ⟨[12, 13, 14], [9, 10], [some 29, some 30, some 31, some 32, some 33, some 34, some 35, some 28, some 36, some 37, some 38, some 7, none, none, none], [[], [0], [], [], [3], [0, 1, 3, 4], [0, 1, 2, 3, 4, 5], [0, 1, 2, 3, 4, 5, 6], [0, 1, 2, 3, 4, 5, 6, 7], [0, 1, 2, 3, 4, 5, 6, 7], [0, 1, 2, 3, 4, 5, 6, 7], [], [0, 1, 2, 3, 4, 5, 6, 7, 8, 11], [0, 1, 2, 3, 4, 5, 6, 7, 8, 9, 11, 12], [0, 1, 2, 3, 4, 5, 6, 7, 8, 9, 10, 11, 12, 13]], [[], [0], [], [], [3], [4], [1, 2, 5], [1, 5, 6], [1, 5, 7], [1, 5, 7], [1, 5, 7], [], [], [], []]⟩ (fun γ => [(γ 11).n]) (by kernel_rfl) (by kernel_rfl) (by (with_reducible (repeat' (first | assumption | apply jA | apply jB | apply jC | apply jD | apply jE | apply jF | apply hb3 | omega | (simp; done) | (simp; omega) | (dsimp only; omega))))) (fun u => by simp only [putD, Act.put, List.setIfInBounds_toArray, List.set_cons_zero, List.set_cons_succ, Nat.zero_add, Nat.reduceAdd]; rfl) ?_
      apply RGW.on (i := 0) rfl
      · (simp only [gA, gB, gC] <;> rfl)
      · intro γ u W hcur hd
        clear hd
        (try dsimp only)
        refine ⟨rfl, ?_⟩
        go_simp <;> (try go_bits) <;> with_reducible rfl
      · exact fun _ _ _ => rfl
      · rfl
      dsimp only [nA, cA]
      apply RGW.gh (⟨fun γ => vNt n.world (.slice (γ 1).A nl (γ 1).c), fun γ W => NtIn n (γ 1).A (γ 1).c W, fun _ => []⟩) (i := 1) rfl
      · (simp only [gA, gB, gC] <;> rfl)
      · intro γ u W hcur hd
        obtain ⟨⟨h0, -, -⟩, -⟩ := hd
        dsimp only at h0
        (try simp only [h0])
        refine ⟨rfl, fun K hK => ?_⟩
        go_simp
        (go_at_call 13; (with_reducible refine (hcp.out _ (bl_tr hb0 hcur)).mono ?_); rintro e w3 ⟨Ax, cx, rfl, hb3, hox⟩; dsimp only; exact hK.out ⟨0, undef, Ax, cx⟩ _ _ (by simp [up]) hb3 (by simpa [up] using hox) (by simp))
      · intro γ γ' hg
        try dsimp only
        have e1 := hg 1 (by decide)
        simp only [e1]
        try exact ⟨trivial, fun _ h => h⟩
      · intro γ W W' hbl hR
        first | exact hR.below hbl | exact own_below hR hbl | exact trivial | exact ⟨hR.1.below hbl, hR.2⟩
      · rfl
      dsimp only [nA, cA]
      apply RGW.on (i := 2) rfl
      · (simp only [gA, gB, gC] <;> rfl)
      · intro γ u W hcur hd
        clear hd
        (try dsimp only)
        refine ⟨rfl, ?_⟩
        go_simp <;> (try go_bits) <;> with_reducible rfl
      · exact fun _ _ _ => rfl
      · rfl
      dsimp only [nA, cA]
      apply RGW.on (i := 3) rfl
      · (simp only [gA, gB, gC] <;> rfl)
      · intro γ u W hcur hd
        clear hd
        (try dsimp only)
        refine ⟨rfl, ?_⟩
        go_simp <;> (try go_bits) <;> with_reducible rfl
      · exact fun _ _ _ => rfl
      · rfl
      dsimp only [nA, cA]
      apply RGW.on (i := 4) rfl
      · (simp only [gA, gB, gC] <;> rfl)
      · intro γ u W hcur hd
        obtain ⟨⟨h3, -, -⟩, -⟩ := hd
        dsimp only at h3
        (try simp only [h3])
        refine ⟨rfl, ?_⟩
        go_simp <;> (try go_bits) <;> with_reducible rfl
      · exact fun _ _ _ => rfl
      · rfl
      dsimp only [nA, cA]
      apply RGW.gh (⟨fun γ => .slice (γ 5).A rl (γ 5).c, fun γ W => Sl cRd 4 W (γ 5).A v.rs, fun _ => []⟩) (i := 5) rfl
      · (simp only [gA, gB, gC] <;> rfl)
      · intro γ u W hcur hd
        obtain ⟨⟨h4, -, -⟩, -⟩ := hd
        dsimp only at h4
        (try simp only [h4])
        refine ⟨rfl, fun K hK => ?_⟩
        go_simp
        (go_at_call 22; (with_reducible refine (hcr.out _ (bl_tr hb0 hcur)).mono ?_); rintro e w3 ⟨Ax, cx, rfl, hb3, hox⟩; dsimp only; exact hK.out ⟨0, undef, Ax, cx⟩ _ _ (by simp [up]) hb3 (by simpa [up] using hox) (by simp))
      · intro γ γ' hg
        try dsimp only
        have e1 := hg 1 (by decide)
        have e5 := hg 5 (by decide)
        simp only [e1, e5]
        try exact ⟨trivial, fun _ h => h⟩
      · intro γ W W' hbl hR
        first | exact hR.below hbl | exact own_below hR hbl | exact trivial | exact ⟨hR.1.below hbl, hR.2⟩
      · rfl
      dsimp only [nA, cA]
      apply RGW.call (i := 6) rfl
      · (simp only [gA, gB, gC] <;> rfl)
      · intro γ u W hcur hd
        obtain ⟨⟨h1, r1, -⟩, ⟨h2, -, -⟩, ⟨h5, r5, -⟩, -⟩ := hd
        dsimp only at h1 h2 h5 r1 r5
        (try simp only [h1, h2, h5])
        refine ⟨rfl, fun K hK => ?_⟩
        go_simp
        (go_at_call 21; (with_reducible refine (hfi.out _ _ _ _ _ r1 r5).mono ?_); rintro e w3 ⟨rfl, hb3⟩; replace hb3 := bl_tt hb3)
        (try dsimp only)
        exact hK.out _ _ rfl (by (with_reducible (repeat' (first | assumption | apply jA | apply jB | apply jC | apply jD | apply jE | apply jF | apply hb3 | omega | (simp; done) | (simp; omega) | (dsimp only; omega)))))
      · exact fun _ _ _ => rfl
      · rfl
      dsimp only [nA, cA]
      apply RGW.on (i := 7) rfl
      · (simp only [gA, gB, gC] <;> rfl)
      · intro γ u W hcur hd
        obtain ⟨⟨h1, r1, -⟩, ⟨h5, r5, -⟩, ⟨h6, -, -⟩, -⟩ := hd
        dsimp only at h1 h5 h6 r1 r5
        (try simp only [h1, h5, h6])
        refine ⟨rfl, ?_⟩
        go_simp <;> (try go_bits) <;> with_reducible rfl
      · exact fun _ _ _ => rfl
      · rfl
      dsimp only [nA, cA]
      apply RGW.on (i := 8) rfl
      · (simp only [gA, gB, gC] <;> rfl)
      · intro γ u W hcur hd
        obtain ⟨⟨h1, r1, -⟩, ⟨h5, r5, -⟩, ⟨h7, -, -⟩, -⟩ := hd
        dsimp only at h1 h5 h7 r1 r5
        (try simp only [h1, h5, h7])
        refine ⟨rfl, ?_⟩
        go_simp <;> (try go_bits) <;> with_reducible rfl
      · exact fun _ _ _ => rfl
      · rfl
      dsimp only [nA, cA]
      apply RGW.onL (i := 9) rfl
      · (simp only [gA, gB, gC] <;> rfl)
      · intro γ u Wm W hcur hd hX
        obtain ⟨⟨h1, r1, -⟩, ⟨h5, r5, -⟩, ⟨h7, -, -⟩, -⟩ := hd
        dsimp only at h1 h5 h7 r1 r5
        (try simp only [h1, h5, h7])
        refine ⟨rfl, ?_⟩
        go_simp <;> (try go_bits) <;> with_reducible rfl
      · exact fun _ _ _ => rfl
      dsimp only [nA, cA]
      apply RGW.onL (i := 10) rfl
      · (simp only [gA, gB, gC] <;> rfl)
      · intro γ u Wm W hcur hd hX
        obtain ⟨⟨h1, r1, -⟩, ⟨h5, r5, -⟩, ⟨h7, -, -⟩, -⟩ := hd
        dsimp only at h1 h5 h7 r1 r5
        (try simp only [h1, h5, h7])
        refine ⟨rfl, ?_⟩
        go_simp <;> (try go_bits) <;> with_reducible rfl
      · exact fun _ _ _ => rfl
      dsimp only [nA, cA]
      apply RGW.alloc (i := 11) rfl
      · (simp only [gA, gB, gC] <;> rfl)
      · intro γ u W hcur hd
        clear hd
        (try dsimp only)
        refine ⟨rfl, fun K hK => ?_⟩
        go_simp
        exact hK.out _ _ rfl rfl
      · exact fun _ _ _ => rfl
      · rfl
      · rfl
      dsimp only [nA, cA]
      refine RGW.skip (i := 12) rfl rfl ?_
      dsimp only [nA, cA]
      refine RGW.skip (i := 13) rfl rfl ?_
      dsimp only [nA, cA]
      refine RGW.skip (i := 14) rfl rfl ?_
      dsimp only [nA, cA]
      refine RGW.fin (fun γ u wc hwc hd hdis => ?_)
      obtain ⟨⟨h0, -, -⟩, ⟨h1, r1, b1⟩, ⟨h2, -, -⟩, ⟨h3, -, -⟩, ⟨h4, -, -⟩, ⟨h5, r5, b5⟩, ⟨h6, -, -⟩, ⟨h7, -, -⟩, ⟨h8, -, -⟩, ⟨h9, -, -⟩, ⟨h10, -, -⟩, ⟨h11, r11, b11⟩, -⟩ := hd
      dsimp only at h0 h1 h2 h3 h4 h5 h6 h7 h8 h9 h10 h11 r1 r5 r11 b1 b5 b11
      clear hdis
      simp only [h0, h1, h2, h3, h4, h5, h6, h7, h8, h9, h10, h11]
      clear h11 h10 h9 h8 h7 h6 h5 h4 h3 h2 h1 h0
      replace b11 := b11 _ (List.mem_singleton.2 rfl)
      generalize hγ11 : (γ 11).n = g11 at *
      clear hγ11
      clear u
      simp only [List.map_cons, List.map_nil]
      apply PlanW.step
      · (simp only [gA, gB, gC] <;> rfl)
      · rfl
      intro K hK
      refine wp_store_keep (X := [g11]) (w0 := wc) rfl rfl rfl (by with_reducible first | exact bx_refl _ _ | assumption) (by with_reducible first | assumption | (apply Blk.below (hb := hwc); assumption)) (by simp) (by kernel_rfl) (by rfl) (by simp [Value.oneCell']) (fun hres1 hcur => ?_)
      refine hK.out _ _ hcur (fun _ => ?_)
      clear hK K
      try simp only [Act.put, List.setIfInBounds_toArray, List.set_cons_zero, List.set_cons_succ]
      apply PlanW.step
      · (simp only [gA, gB, gC] <;> rfl)
      · rfl
      intro K hK
      go_simp
      refine hK.out _ _ (by (with_reducible (repeat' (first | assumption | apply jG | apply jH | apply jI | apply jJ | apply jK | apply hb3x | omega | (simp; done) | (simp; omega) | (dsimp only; omega))))) (fun hcur => ?_)
      clear hK K
      try simp only [Act.put, List.setIfInBounds_toArray, List.set_cons_zero, List.set_cons_succ]
      apply PlanW.step
      · (simp only [gA, gB, gC] <;> rfl)
      · rfl
      intro K hK
      go_simp
      refine hK.out _ _ (by (with_reducible (repeat' (first | assumption | apply jG | apply jH | apply jI | apply jJ | apply jK | apply hb3x | omega | (simp; done) | (simp; omega) | (dsimp only; omega))))) (fun hcur => ?_)
      clear hK K
      try simp only [Act.put, List.setIfInBounds_toArray, List.set_cons_zero, List.set_cons_succ]
      refine PlanW.done ?_
      have hb3 := bl_tt hwc
      clear r1 r5
      apply absTB4 (w0 := w) (g0 := w.heap.size) (g1 := w.heap.size + 1) (g2 := w.heap.size + 2) (g3 := g11)
      iterate 5 (focus ((with_reducible (repeat' (first | assumption | apply jA | apply jB | apply jC | apply jD | apply jE | apply jF | apply hb3 | apply jG | apply jH | apply jI | apply jJ | apply jK | apply hb3x | (apply jL; first | (simp; done) | rfl) | apply jM | apply jN | apply jO | apply jP | apply jQ | apply jR | apply jS | apply jT (hb := hb3 _ (jA _)) | omega | (simp; done) | (simp; omega) | (dsimp only; omega)))); done))
      intro wc2 hb0' k0' k1' k2' k3'
      (try simp only [List.setIfInBounds_toArray, List.set_cons_zero, List.set_cons_succ] at k0' k1' k2' k3')
      try clear hb3
      try clear Lk0
      try clear Fk0
      try clear Qk0
      try clear Lk1
      try clear Fk1
      try clear Qk1
      try clear Lk2
      try clear Fk2
      try clear Qk2
      try clear hb0
      try clear k0
      try clear k1
      try clear k2
      try clear k3
      have hb0 := hb0'; clear hb0'
      have k0 := k0'; clear k0'
      have k1 := k1'; clear k1'
      have k2 := k2'; clear k2'
      have k3 := k3'; clear k3'
      have Lk0 := k0.later
      have Fk0 := k0.laterF
      have Qk0 := k0.lt
      have Lk1 := k1.later
      have Fk1 := k1.laterF
      have Qk1 := k1.lt
      have Lk2 := k2.later
      have Fk2 := k2.laterF
      have Qk2 := k2.lt
      have Lk3 := k3.later
      have Fk3 := k3.laterF
      have Qk3 := k3.lt
      go_upto_region 6 with fail
      refine wp_any (w0 := wc2) ⟨[11, 12, 13], [8, 9], [some 40, some 41, some 42, some 43, some 44, some 45, some 39, some 46, some 47, some 48, some 10, none, none, none], [[], [0], [], [], [0, 1, 3], [0, 1, 2, 3, 4], [0, 1, 2, 3, 4, 5], [0, 1, 2, 3, 4, 5, 6], [0, 1, 2, 3, 4, 5, 6], [0, 1, 2, 3, 4, 5, 6], [], [0, 1, 2, 3, 4, 5, 6, 7, 10], [0, 1, 2, 3, 4, 5, 6, 7, 8, 10, 11], [0, 1, 2, 3, 4, 5, 6, 7, 8, 9, 10, 11, 12]], [[], [0], [], [], [3], [1, 2, 4], [1, 4, 5], [1, 4, 6], [1, 4, 6], [1, 4, 6], [], [], [], []]⟩ (fun γ => [(γ 10).n]) (by kernel_rfl) (by kernel_rfl) (by (with_reducible (repeat' (first | assumption | apply jA | apply jB | apply jC | apply jD | apply jE | apply jF | apply hb3 | omega | (simp; done) | (simp; omega) | (dsimp only; omega))))) (fun u => by simp only [putD, Act.put, List.setIfInBounds_toArray, List.set_cons_zero, List.set_cons_succ, Nat.zero_add, Nat.reduceAdd]; rfl) ?_
      apply RGW.on (i := 0) rfl
      · (simp only [gA, gB, gC] <;> rfl)
      · intro γ u W hcur hd
        clear hd
        (try dsimp only)
        refine ⟨rfl, ?_⟩
        go_simp <;> (try go_bits) <;> with_reducible rfl
      · exact fun _ _ _ => rfl
      · rfl
      dsimp only [nA, cA]
      apply RGW.gh (⟨fun γ => vNt n.world (.slice (γ 1).A nl (γ 1).c), fun γ W => NtIn n (γ 1).A (γ 1).c W, fun _ => []⟩) (i := 1) rfl
      · (simp only [gA, gB, gC] <;> rfl)
      · intro γ u W hcur hd
        obtain ⟨⟨h0, -, -⟩, -⟩ := hd
        dsimp only at h0
        (try simp only [h0])
        refine ⟨rfl, fun K hK => ?_⟩
        go_simp
        (go_at_call 13; (with_reducible refine (hcp.out _ (bl_tr hb0 hcur)).mono ?_); rintro e w3 ⟨Ax, cx, rfl, hb3, hox⟩; dsimp only; exact hK.out ⟨0, undef, Ax, cx⟩ _ _ (by simp [up]) hb3 (by simpa [up] using hox) (by simp))
      · intro γ γ' hg
        try dsimp only
        have e1 := hg 1 (by decide)
        simp only [e1]
        try exact ⟨trivial, fun _ h => h⟩
      · intro γ W W' hbl hR
        first | exact hR.below hbl | exact own_below hR hbl | exact trivial | exact ⟨hR.1.below hbl, hR.2⟩
      · rfl
      dsimp only [nA, cA]
      apply RGW.on (i := 2) rfl
      · (simp only [gA, gB, gC] <;> rfl)
      · intro γ u W hcur hd
        clear hd
        (try dsimp only)
        refine ⟨rfl, ?_⟩
        go_simp <;> (try go_bits) <;> with_reducible rfl
      · exact fun _ _ _ => rfl
      · rfl
      dsimp only [nA, cA]
      apply RGW.on (i := 3) rfl
      · (simp only [gA, gB, gC] <;> rfl)
      · intro γ u W hcur hd
        clear hd
        (try dsimp only)
        refine ⟨rfl, ?_⟩
        go_simp <;> (try go_bits) <;> with_reducible rfl
      · exact fun _ _ _ => rfl
      · rfl
      dsimp only [nA, cA]
      apply RGW.gh (⟨fun γ => vVt (γ 4).A rl (γ 4).c v.wrong, fun γ W => Sl cRd 4 W (γ 4).A v.rs, fun _ => []⟩) (i := 4) rfl
      · (simp only [gA, gB, gC] <;> rfl)
      · intro γ u W hcur hd
        obtain ⟨⟨h3, -, -⟩, -⟩ := hd
        dsimp only at h3
        (try simp only [h3])
        refine ⟨rfl, fun K hK => ?_⟩
        go_simp
        (go_at_call 24; (with_reducible refine (hcv.out _ (bl_tr hb0 hcur)).mono ?_); rintro e w3 ⟨Ax, cx, rfl, hb3, hox⟩; dsimp only; exact hK.out ⟨0, undef, Ax, cx⟩ _ _ (by simp [up]) hb3 (by simpa [up] using hox) (by simp))
      · intro γ γ' hg
        try dsimp only
        have e1 := hg 1 (by decide)
        have e4 := hg 4 (by decide)
        simp only [e1, e4]
        try exact ⟨trivial, fun _ h => h⟩
      · intro γ W W' hbl hR
        first | exact hR.below hbl | exact own_below hR hbl | exact trivial | exact ⟨hR.1.below hbl, hR.2⟩
      · rfl
      dsimp only [nA, cA]
      apply RGW.call (i := 5) rfl
      · (simp only [gA, gB, gC] <;> rfl)
      · intro γ u W hcur hd
        obtain ⟨⟨h1, r1, -⟩, ⟨h2, -, -⟩, ⟨h4, r4, -⟩, -⟩ := hd
        dsimp only at h1 h2 h4 r1 r4
        (try simp only [h1, h2, h4])
        refine ⟨rfl, fun K hK => ?_⟩
        go_simp
        (go_at_call 23; (with_reducible refine (hvi.out _ _ _ _ _ r1 r4).mono ?_); rintro e w3 ⟨rfl, hb3⟩; replace hb3 := bl_tt hb3)
        (try dsimp only)
        exact hK.out _ _ rfl (by (with_reducible (repeat' (first | assumption | apply jA | apply jB | apply jC | apply jD | apply jE | apply jF | apply hb3 | omega | (simp; done) | (simp; omega) | (dsimp only; omega)))))
      · exact fun _ _ _ => rfl
      · rfl
      dsimp only [nA, cA]
      apply RGW.on (i := 6) rfl
      · (simp only [gA, gB, gC] <;> rfl)
      · intro γ u W hcur hd
        obtain ⟨⟨h1, r1, -⟩, ⟨h4, r4, -⟩, ⟨h5, -, -⟩, -⟩ := hd
        dsimp only at h1 h4 h5 r1 r4
        (try simp only [h1, h4, h5])
        refine ⟨rfl, ?_⟩
        go_simp <;> (try go_bits) <;> with_reducible rfl
      · exact fun _ _ _ => rfl
      · rfl
      dsimp only [nA, cA]
      apply RGW.on (i := 7) rfl
      · (simp only [gA, gB, gC] <;> rfl)
      · intro γ u W hcur hd
        obtain ⟨⟨h1, r1, -⟩, ⟨h4, r4, -⟩, ⟨h6, -, -⟩, -⟩ := hd
        dsimp only at h1 h4 h6 r1 r4
        (try simp only [h1, h4, h6])
        refine ⟨rfl, ?_⟩
        go_simp <;> (try go_bits) <;> with_reducible rfl
      · exact fun _ _ _ => rfl
      · rfl
      dsimp only [nA, cA]
      apply RGW.onL (i := 8) rfl
      · (simp only [gA, gB, gC] <;> rfl)
      · intro γ u Wm W hcur hd hX
        obtain ⟨⟨h1, r1, -⟩, ⟨h4, r4, -⟩, ⟨h6, -, -⟩, -⟩ := hd
        dsimp only at h1 h4 h6 r1 r4
        (try simp only [h1, h4, h6])
        refine ⟨rfl, ?_⟩
        go_simp <;> (try go_bits) <;> with_reducible rfl
      · exact fun _ _ _ => rfl
      dsimp only [nA, cA]
      apply RGW.onL (i := 9) rfl
      · (simp only [gA, gB, gC] <;> rfl)
      · intro γ u Wm W hcur hd hX
        obtain ⟨⟨h1, r1, -⟩, ⟨h4, r4, -⟩, ⟨h6, -, -⟩, -⟩ := hd
        dsimp only at h1 h4 h6 r1 r4
        (try simp only [h1, h4, h6])
        refine ⟨rfl, ?_⟩
        go_simp <;> (try go_bits) <;> with_reducible rfl
      · exact fun _ _ _ => rfl
      dsimp only [nA, cA]
      apply RGW.alloc (i := 10) rfl
      · (simp only [gA, gB, gC] <;> rfl)
      · intro γ u W hcur hd
        clear hd
        (try dsimp only)
        refine ⟨rfl, fun K hK => ?_⟩
        go_simp
        exact hK.out _ _ rfl rfl
      · exact fun _ _ _ => rfl
      · rfl
      · rfl
      dsimp only [nA, cA]
      refine RGW.skip (i := 11) rfl rfl ?_
      dsimp only [nA, cA]
      refine RGW.skip (i := 12) rfl rfl ?_
      dsimp only [nA, cA]
      refine RGW.skip (i := 13) rfl rfl ?_
      dsimp only [nA, cA]
      refine RGW.fin (fun γ u wd hwd hd hdis => ?_)
      obtain ⟨⟨h0, -, -⟩, ⟨h1, r1, b1⟩, ⟨h2, -, -⟩, ⟨h3, -, -⟩, ⟨h4, r4, b4⟩, ⟨h5, -, -⟩, ⟨h6, -, -⟩, ⟨h7, -, -⟩, ⟨h8, -, -⟩, ⟨h9, -, -⟩, ⟨h10, r10, b10⟩, -⟩ := hd
      dsimp only at h0 h1 h2 h3 h4 h5 h6 h7 h8 h9 h10 r1 r4 r10 b1 b4 b10
      clear hdis
      simp only [h0, h1, h2, h3, h4, h5, h6, h7, h8, h9, h10]
      clear h10 h9 h8 h7 h6 h5 h4 h3 h2 h1 h0
      replace b10 := b10 _ (List.mem_singleton.2 rfl)
      generalize hγ10 : (γ 10).n = g10 at *
      clear hγ10
      clear u
      simp only [List.map_cons, List.map_nil]
      apply PlanW.step
      · (simp only [gA, gB, gC] <;> rfl)
      · rfl
      intro K hK
      refine wp_store_keep (X := [g10]) (w0 := wd) rfl rfl rfl (by with_reducible first | exact bx_refl _ _ | assumption) (by with_reducible first | assumption | (apply Blk.below (hb := hwd); assumption)) (by simp) (by kernel_rfl) (by rfl) (by simp [Value.oneCell']) (fun hres1 hcur => ?_)
      refine hK.out _ _ hcur (fun _ => ?_)
      clear hK K
      try simp only [Act.put, List.setIfInBounds_toArray, List.set_cons_zero, List.set_cons_succ]
      apply PlanW.step
      · (simp only [gA, gB, gC] <;> rfl)
      · rfl
      intro K hK
      go_simp
      refine hK.out _ _ (by (with_reducible (repeat' (first | assumption | apply jG | apply jH | apply jI | apply jJ | apply jK | apply hb3x | omega | (simp; done) | (simp; omega) | (dsimp only; omega))))) (fun hcur => ?_)
      clear hK K
      try simp only [Act.put, List.setIfInBounds_toArray, List.set_cons_zero, List.set_cons_succ]
      apply PlanW.step
      · (simp only [gA, gB, gC] <;> rfl)
      · rfl
      intro K hK
      go_simp
      refine hK.out _ _ (by (with_reducible (repeat' (first | assumption | apply jG | apply jH | apply jI | apply jJ | apply jK | apply hb3x | omega | (simp; done) | (simp; omega) | (dsimp only; omega))))) (fun hcur => ?_)
      clear hK K
      try simp only [Act.put, List.setIfInBounds_toArray, List.set_cons_zero, List.set_cons_succ]
      refine PlanW.done ?_
      have hb3 := bl_tt hwd
      clear r1 r4
      apply absTB5 (w0 := w) (g0 := w.heap.size) (g1 := w.heap.size + 1) (g2 := w.heap.size + 2) (g3 := g11) (g4 := g10)
      iterate 6 (focus ((with_reducible (repeat' (first | assumption | apply jA | apply jB | apply jC | apply jD | apply jE | apply jF | apply hb3 | apply jG | apply jH | apply jI | apply jJ | apply jK | apply hb3x | (apply jL; first | (simp; done) | rfl) | apply jM | apply jN | apply jO | apply jP | apply jQ | apply jR | apply jS | apply jT (hb := hb3 _ (jA _)) | omega | (simp; done) | (simp; omega) | (dsimp only; omega)))); done))
      intro wd2 hb0' k0' k1' k2' k3' k4'
      (try simp only [List.setIfInBounds_toArray, List.set_cons_zero, List.set_cons_succ] at k0' k1' k2' k3' k4')
      try clear hb3
      try clear Lk0
      try clear Fk0
      try clear Qk0
      try clear Lk1
      try clear Fk1
      try clear Qk1
      try clear Lk2
      try clear Fk2
      try clear Qk2
      try clear Lk3
      try clear Fk3
      try clear Qk3
      try clear hb0
      try clear k0
      try clear k1
      try clear k2
      try clear k3
      try clear k4
      have hb0 := hb0'; clear hb0'
      have k0 := k0'; clear k0'
      have k1 := k1'; clear k1'
      have k2 := k2'; clear k2'
      have k3 := k3'; clear k3'
      have k4 := k4'; clear k4'
      have Lk0 := k0.later
      have Fk0 := k0.laterF
      have Qk0 := k0.lt
      have Lk1 := k1.later
      have Fk1 := k1.laterF
      have Qk1 := k1.lt
      have Lk2 := k2.later
      have Fk2 := k2.laterF
      have Qk2 := k2.lt
      have Lk3 := k3.later
      have Fk3 := k3.laterF
      have Qk3 := k3.lt
      have Lk4 := k4.later
      have Fk4 := k4.laterF
      have Qk4 := k4.lt
      go_upto_region 8 with (go_at_call 17; (with_reducible refine (hbe.out _ (bl_tr hb0 (by (with_reducible (repeat' (first | assumption | apply jA | apply jB | apply jC | apply jD | apply jE | apply jF | apply hb3 | omega | (simp; done) | (simp; omega) | (dsimp only; omega))))))).mono ?_); rintro e w3 ⟨rfl, hb3⟩; replace hb3 := bl_tt hb3)
      apply absB5 (w0 := w) (g0 := w.heap.size) (g1 := w.heap.size + 1) (g2 := w.heap.size + 2) (g3 := g11) (g4 := g10)
      iterate 6 (focus ((with_reducible (repeat' (first | assumption | apply jA | apply jB | apply jC | apply jD | apply jE | apply jF | apply hb3 | apply jG | apply jH | apply jI | apply jJ | apply jK | apply hb3x | (apply jL; first | (simp; done) | rfl) | apply jM | apply jN | apply jO | apply jP | apply jQ | apply jR | apply jS | apply jT (hb := hb3 _ (jA _)) | omega | (simp; done) | (simp; omega) | (dsimp only; omega)))); done))
      intro we hb0' k0' k1' k2' k3' k4'
      (try simp only [List.setIfInBounds_toArray, List.set_cons_zero, List.set_cons_succ] at k0' k1' k2' k3' k4')
      try clear hb3
      try clear Lk0
      try clear Fk0
      try clear Qk0
      try clear Lk1
      try clear Fk1
      try clear Qk1
      try clear Lk2
      try clear Fk2
      try clear Qk2
      try clear Lk3
      try clear Fk3
      try clear Qk3
      try clear Lk4
      try clear Fk4
      try clear Qk4
      try clear hb0
      try clear k0
      try clear k1
      try clear k2
      try clear k3
      try clear k4
      have hb0 := hb0'; clear hb0'
      have k0 := k0'; clear k0'
      have k1 := k1'; clear k1'
      have k2 := k2'; clear k2'
      have k3 := k3'; clear k3'
      have k4 := k4'; clear k4'
      have Lk0 := k0.later
      have Fk0 := k0.laterF
      have Qk0 := k0.lt
      have Lk1 := k1.later
      have Fk1 := k1.laterF
      have Qk1 := k1.lt
      have Lk2 := k2.later
      have Fk2 := k2.laterF
      have Qk2 := k2.lt
      have Lk3 := k3.later
      have Fk3 := k3.laterF
      have Qk3 := k3.lt
      have Lk4 := k4.later
      have Fk4 := k4.laterF
      have Qk4 := k4.lt
      clear hfw hli hcp hcr hcv hfi hvi hbe
      by_cases h0 : be = 0
      · subst h0
        go_upto_region 10 with (go_at_call 25; (with_reducible refine (hrr.out _ (bl_tr hb0 (by (with_reducible (repeat' (first | assumption | apply jA | apply jB | apply jC | apply jD | apply jE | apply jF | apply hb3 | omega | (simp; done) | (simp; omega) | (dsimp only; omega))))))).mono ?_); rintro e w3 ⟨rfl, hb3⟩; replace hb3 := bl_tt hb3)
        apply absB5 (w0 := w) (g0 := w.heap.size) (g1 := w.heap.size + 1) (g2 := w.heap.size + 2) (g3 := g11) (g4 := g10)
        iterate 6 (focus ((with_reducible (repeat' (first | assumption | apply jA | apply jB | apply jC | apply jD | apply jE | apply jF | apply hb3 | apply jG | apply jH | apply jI | apply jJ | apply jK | apply hb3x | (apply jL; first | (simp; done) | rfl) | apply jM | apply jN | apply jO | apply jP | apply jQ | apply jR | apply jS | apply jT (hb := hb3 _ (jA _)) | omega | (simp; done) | (simp; omega) | (dsimp only; omega)))); done))
        intro wf1 hb0' k0' k1' k2' k3' k4'
        (try simp only [List.setIfInBounds_toArray, List.set_cons_zero, List.set_cons_succ] at k0' k1' k2' k3' k4')
        try clear hb3
        try clear Lk0
        try clear Fk0
        try clear Qk0
        try clear Lk1
        try clear Fk1
        try clear Qk1
        try clear Lk2
        try clear Fk2
        try clear Qk2
        try clear Lk3
        try clear Fk3
        try clear Qk3
        try clear Lk4
        try clear Fk4
        try clear Qk4
        try clear hb0
        try clear k0
        try clear k1
        try clear k2
        try clear k3
        try clear k4
        have hb0 := hb0'; clear hb0'
        have k0 := k0'; clear k0'
        have k1 := k1'; clear k1'
        have k2 := k2'; clear k2'
        have k3 := k3'; clear k3'
        have k4 := k4'; clear k4'
        have Lk0 := k0.later
        have Fk0 := k0.laterF
        have Qk0 := k0.lt
        have Lk1 := k1.later
        have Fk1 := k1.laterF
        have Qk1 := k1.lt
        have Lk2 := k2.later
        have Fk2 := k2.laterF
        have Qk2 := k2.lt
        have Lk3 := k3.later
        have Fk3 := k3.laterF
        have Qk3 := k3.lt
        have Lk4 := k4.later
        have Fk4 := k4.laterF
        have Qk4 := k4.lt
        by_cases h1 : rr = 0
        · subst h1
          replace hil := Lib.hid (hil.out (by simp))
          by_cases h2 : ve = 0
          · subst h2
            go_upto_region 13 with (go_at_call 26; (with_reducible refine (hve.out _ (bl_tr hb0 (by (with_reducible (repeat' (first | assumption | apply jA | apply jB | apply jC | apply jD | apply jE | apply jF | apply hb3 | omega | (simp; done) | (simp; omega) | (dsimp only; omega))))))).mono ?_); rintro e w3 ⟨rfl, hb3⟩; replace hb3 := bl_tt hb3)
            apply absB5 (w0 := w) (g0 := w.heap.size) (g1 := w.heap.size + 1) (g2 := w.heap.size + 2) (g3 := g11) (g4 := g10)
            iterate 6 (focus ((with_reducible (repeat' (first | assumption | apply jA | apply jB | apply jC | apply jD | apply jE | apply jF | apply hb3 | apply jG | apply jH | apply jI | apply jJ | apply jK | apply hb3x | (apply jL; first | (simp; done) | rfl) | apply jM | apply jN | apply jO | apply jP | apply jQ | apply jR | apply jS | apply jT (hb := hb3 _ (jA _)) | omega | (simp; done) | (simp; omega) | (dsimp only; omega)))); done))
            intro wf2 hb0' k0' k1' k2' k3' k4'
            (try simp only [List.setIfInBounds_toArray, List.set_cons_zero, List.set_cons_succ] at k0' k1' k2' k3' k4')
            try clear hb3
            try clear Lk0
            try clear Fk0
            try clear Qk0
            try clear Lk1
            try clear Fk1
            try clear Qk1
            try clear Lk2
            try clear Fk2
            try clear Qk2
            try clear Lk3
            try clear Fk3
            try clear Qk3
            try clear Lk4
            try clear Fk4
            try clear Qk4
            try clear hb0
            try clear k0
            try clear k1
            try clear k2
            try clear k3
            try clear k4
            have hb0 := hb0'; clear hb0'
            have k0 := k0'; clear k0'
            have k1 := k1'; clear k1'
            have k2 := k2'; clear k2'
            have k3 := k3'; clear k3'
            have k4 := k4'; clear k4'
            have Lk0 := k0.later
            have Fk0 := k0.laterF
            have Qk0 := k0.lt
            have Lk1 := k1.later
            have Fk1 := k1.laterF
            have Qk1 := k1.lt
            have Lk2 := k2.later
            have Fk2 := k2.laterF
            have Qk2 := k2.lt
            have Lk3 := k3.later
            have Fk3 := k3.laterF
            have Qk3 := k3.lt
            have Lk4 := k4.later
            have Fk4 := k4.laterF
            have Qk4 := k4.lt
            cases lg
            · obtain ⟨hm0, hm1⟩ := mS.out (by simp) (by simp) (by simp)
              replace hm1 := hm1 (by simp)
              clear mA mB mC mS mL
              replace hm0 := Lib.hid hm0
              replace hm1 := Lib.hid hm1
              go_upto_region 15 with (go_at_call 27; (with_reducible refine (hil.out _).mono ?_); rintro e w3 ⟨rfl, hb3⟩; replace hb3 := bl_tt hb3)
              apply absB5 (w0 := w) (g0 := w.heap.size) (g1 := w.heap.size + 1) (g2 := w.heap.size + 2) (g3 := g11) (g4 := g10)
              iterate 6 (focus ((with_reducible (repeat' (first | assumption | apply jA | apply jB | apply jC | apply jD | apply jE | apply jF | apply hb3 | apply jG | apply jH | apply jI | apply jJ | apply jK | apply hb3x | (apply jL; first | (simp; done) | rfl) | apply jM | apply jN | apply jO | apply jP | apply jQ | apply jR | apply jS | apply jT (hb := hb3 _ (jA _)) | omega | (simp; done) | (simp; omega) | (dsimp only; omega)))); done))
              intro wf3 hb0' k0' k1' k2' k3' k4'
              (try simp only [List.setIfInBounds_toArray, List.set_cons_zero, List.set_cons_succ] at k0' k1' k2' k3' k4')
              try clear hb3
              try clear Lk0
              try clear Fk0
              try clear Qk0
              try clear Lk1
              try clear Fk1
              try clear Qk1
              try clear Lk2
              try clear Fk2
              try clear Qk2
              try clear Lk3
              try clear Fk3
              try clear Qk3
              try clear Lk4
              try clear Fk4
              try clear Qk4
              try clear hb0
              try clear k0
              try clear k1
              try clear k2
              try clear k3
              try clear k4
              have hb0 := hb0'; clear hb0'
              have k0 := k0'; clear k0'
              have k1 := k1'; clear k1'
              have k2 := k2'; clear k2'
              have k3 := k3'; clear k3'
              have k4 := k4'; clear k4'
              have Lk0 := k0.later
              have Fk0 := k0.laterF
              have Qk0 := k0.lt
              have Lk1 := k1.later
              have Fk1 := k1.laterF
              have Qk1 := k1.lt
              have Lk2 := k2.later
              have Fk2 := k2.laterF
              have Qk2 := k2.lt
              have Lk3 := k3.later
              have Fk3 := k3.laterF
              have Qk3 := k3.lt
              have Lk4 := k4.later
              have Fk4 := k4.laterF
              have Qk4 := k4.lt
              go_upto_region 17 with (go_at_call 27; (with_reducible refine (hil.out _).mono ?_); rintro e w3 ⟨rfl, hb3⟩; replace hb3 := bl_tt hb3)
              apply absB5 (w0 := w) (g0 := w.heap.size) (g1 := w.heap.size + 1) (g2 := w.heap.size + 2) (g3 := g11) (g4 := g10)
              iterate 6 (focus ((with_reducible (repeat' (first | assumption | apply jA | apply jB | apply jC | apply jD | apply jE | apply jF | apply hb3 | apply jG | apply jH | apply jI | apply jJ | apply jK | apply hb3x | (apply jL; first | (simp; done) | rfl) | apply jM | apply jN | apply jO | apply jP | apply jQ | apply jR | apply jS | apply jT (hb := hb3 _ (jA _)) | omega | (simp; done) | (simp; omega) | (dsimp only; omega)))); done))
              intro wf4 hb0' k0' k1' k2' k3' k4'
              (try simp only [List.setIfInBounds_toArray, List.set_cons_zero, List.set_cons_succ] at k0' k1' k2' k3' k4')
              try clear hb3
              try clear Lk0
              try clear Fk0
              try clear Qk0
              try clear Lk1
              try clear Fk1
              try clear Qk1
              try clear Lk2
              try clear Fk2
              try clear Qk2
              try clear Lk3
              try clear Fk3
              try clear Qk3
              try clear Lk4
              try clear Fk4
              try clear Qk4
              try clear hb0
              try clear k0
              try clear k1
              try clear k2
              try clear k3
              try clear k4
              have hb0 := hb0'; clear hb0'
              have k0 := k0'; clear k0'
              have k1 := k1'; clear k1'
              have k2 := k2'; clear k2'
              have k3 := k3'; clear k3'
              have k4 := k4'; clear k4'
              have Lk0 := k0.later
              have Fk0 := k0.laterF
              have Qk0 := k0.lt
              have Lk1 := k1.later
              have Fk1 := k1.laterF
              have Qk1 := k1.lt
              have Lk2 := k2.later
              have Fk2 := k2.laterF
              have Qk2 := k2.lt
              have Lk3 := k3.later
              have Fk3 := k3.laterF
              have Qk3 := k3.lt
              have Lk4 := k4.later
              have Fk4 := k4.laterF
              have Qk4 := k4.lt
              go_wp2_with (go_at_call 28; (with_reducible first | refine (hm0.out _ (bl_tr hb0 (by (with_reducible (repeat' (first | assumption | apply jA | apply jB | apply jC | apply jD | apply jE | apply jF | apply hb3 | omega | (simp; done) | (simp; omega) | (dsimp only; omega))))))).mono ?_ | refine (hm1.out _ (bl_tr hb0 (by (with_reducible (repeat' (first | assumption | apply jA | apply jB | apply jC | apply jD | apply jE | apply jF | apply hb3 | omega | (simp; done) | (simp; omega) | (dsimp only; omega))))))).mono ?_); rintro e w3 ⟨rfl, hb3⟩; replace hb3 := bl_tt hb3; have hv := hb3 wf4 (by (with_reducible (repeat' (first | assumption | apply jA | apply jB | apply jC | apply jD | apply jE | apply jF | apply hb3 | omega | (simp; done) | (simp; omega) | (dsimp only; omega))))))
              go_ret
              exact ⟨rfl, bl_tr hb0 hv⟩
            · obtain ⟨hm0, hm1⟩ := mL.out (by simp) (by simp) (by simp)
              replace hm1 := hm1 (by simp)
              clear mA mB mC mS mL
              replace hm0 := Lib.hid hm0
              replace hm1 := Lib.hid hm1
              go_upto_region 15 with (go_at_call 27; (with_reducible refine (hil.out _).mono ?_); rintro e w3 ⟨rfl, hb3⟩; replace hb3 := bl_tt hb3)
              apply absB5 (w0 := w) (g0 := w.heap.size) (g1 := w.heap.size + 1) (g2 := w.heap.size + 2) (g3 := g11) (g4 := g10)
              iterate 6 (focus ((with_reducible (repeat' (first | assumption | apply jA | apply jB | apply jC | apply jD | apply jE | apply jF | apply hb3 | apply jG | apply jH | apply jI | apply jJ | apply jK | apply hb3x | (apply jL; first | (simp; done) | rfl) | apply jM | apply jN | apply jO | apply jP | apply jQ | apply jR | apply jS | apply jT (hb := hb3 _ (jA _)) | omega | (simp; done) | (simp; omega) | (dsimp only; omega)))); done))
              intro wf3 hb0' k0' k1' k2' k3' k4'
              (try simp only [List.setIfInBounds_toArray, List.set_cons_zero, List.set_cons_succ] at k0' k1' k2' k3' k4')
              try clear hb3
              try clear Lk0
              try clear Fk0
              try clear Qk0
              try clear Lk1
              try clear Fk1
              try clear Qk1
              try clear Lk2
              try clear Fk2
              try clear Qk2
              try clear Lk3
              try clear Fk3
              try clear Qk3
              try clear Lk4
              try clear Fk4
              try clear Qk4
              try clear hb0
              try clear k0
              try clear k1
              try clear k2
              try clear k3
              try clear k4
              have hb0 := hb0'; clear hb0'
              have k0 := k0'; clear k0'
              have k1 := k1'; clear k1'
              have k2 := k2'; clear k2'
              have k3 := k3'; clear k3'
              have k4 := k4'; clear k4'
              have Lk0 := k0.later
              have Fk0 := k0.laterF
              have Qk0 := k0.lt
              have Lk1 := k1.later
              have Fk1 := k1.laterF
              have Qk1 := k1.lt
              have Lk2 := k2.later
              have Fk2 := k2.laterF
              have Qk2 := k2.lt
              have Lk3 := k3.later
              have Fk3 := k3.laterF
              have Qk3 := k3.lt
              have Lk4 := k4.later
              have Fk4 := k4.laterF
              have Qk4 := k4.lt
              go_upto_region 17 with (go_at_call 27; (with_reducible refine (hil.out _).mono ?_); rintro e w3 ⟨rfl, hb3⟩; replace hb3 := bl_tt hb3)
              apply absB5 (w0 := w) (g0 := w.heap.size) (g1 := w.heap.size + 1) (g2 := w.heap.size + 2) (g3 := g11) (g4 := g10)
              iterate 6 (focus ((with_reducible (repeat' (first | assumption | apply jA | apply jB | apply jC | apply jD | apply jE | apply jF | apply hb3 | apply jG | apply jH | apply jI | apply jJ | apply jK | apply hb3x | (apply jL; first | (simp; done) | rfl) | apply jM | apply jN | apply jO | apply jP | apply jQ | apply jR | apply jS | apply jT (hb := hb3 _ (jA _)) | omega | (simp; done) | (simp; omega) | (dsimp only; omega)))); done))
              intro wf4 hb0' k0' k1' k2' k3' k4'
              (try simp only [List.setIfInBounds_toArray, List.set_cons_zero, List.set_cons_succ] at k0' k1' k2' k3' k4')
              try clear hb3
              try clear Lk0
              try clear Fk0
              try clear Qk0
              try clear Lk1
              try clear Fk1
              try clear Qk1
              try clear Lk2
              try clear Fk2
              try clear Qk2
              try clear Lk3
              try clear Fk3
              try clear Qk3
              try clear Lk4
              try clear Fk4
              try clear Qk4
              try clear hb0
              try clear k0
              try clear k1
              try clear k2
              try clear k3
              try clear k4
              have hb0 := hb0'; clear hb0'
              have k0 := k0'; clear k0'
              have k1 := k1'; clear k1'
              have k2 := k2'; clear k2'
              have k3 := k3'; clear k3'
              have k4 := k4'; clear k4'
              have Lk0 := k0.later
              have Fk0 := k0.laterF
              have Qk0 := k0.lt
              have Lk1 := k1.later
              have Fk1 := k1.laterF
              have Qk1 := k1.lt
              have Lk2 := k2.later
              have Fk2 := k2.laterF
              have Qk2 := k2.lt
              have Lk3 := k3.later
              have Fk3 := k3.laterF
              have Qk3 := k3.lt
              have Lk4 := k4.later
              have Fk4 := k4.laterF
              have Qk4 := k4.lt
              go_wp2_with (go_at_call 28; (with_reducible first | refine (hm0.out _ (bl_tr hb0 (by (with_reducible (repeat' (first | assumption | apply jA | apply jB | apply jC | apply jD | apply jE | apply jF | apply hb3 | omega | (simp; done) | (simp; omega) | (dsimp only; omega))))))).mono ?_ | refine (hm1.out _ (bl_tr hb0 (by (with_reducible (repeat' (first | assumption | apply jA | apply jB | apply jC | apply jD | apply jE | apply jF | apply hb3 | omega | (simp; done) | (simp; omega) | (dsimp only; omega))))))).mono ?_); rintro e w3 ⟨rfl, hb3⟩; replace hb3 := bl_tt hb3; have hv := hb3 wf4 (by (with_reducible (repeat' (first | assumption | apply jA | apply jB | apply jC | apply jD | apply jE | apply jF | apply hb3 | omega | (simp; done) | (simp; omega) | (dsimp only; omega))))))
              go_ret
              exact ⟨rfl, bl_tr hb0 hv⟩
          · go_upto_region 13 with (go_at_call 26; (with_reducible refine (hve.out _ (bl_tr hb0 (by (with_reducible (repeat' (first | assumption | apply jA | apply jB | apply jC | apply jD | apply jE | apply jF | apply hb3 | omega | (simp; done) | (simp; omega) | (dsimp only; omega))))))).mono ?_); rintro e w3 ⟨rfl, hb3⟩; replace hb3 := bl_tt hb3)
            apply absB5 (w0 := w) (g0 := w.heap.size) (g1 := w.heap.size + 1) (g2 := w.heap.size + 2) (g3 := g11) (g4 := g10)
            iterate 6 (focus ((with_reducible (repeat' (first | assumption | apply jA | apply jB | apply jC | apply jD | apply jE | apply jF | apply hb3 | apply jG | apply jH | apply jI | apply jJ | apply jK | apply hb3x | (apply jL; first | (simp; done) | rfl) | apply jM | apply jN | apply jO | apply jP | apply jQ | apply jR | apply jS | apply jT (hb := hb3 _ (jA _)) | omega | (simp; done) | (simp; omega) | (dsimp only; omega)))); done))
            intro wf2 hb0' k0' k1' k2' k3' k4'
            (try simp only [List.setIfInBounds_toArray, List.set_cons_zero, List.set_cons_succ] at k0' k1' k2' k3' k4')
            try clear hb3
            try clear Lk0
            try clear Fk0
            try clear Qk0
            try clear Lk1
            try clear Fk1
            try clear Qk1
            try clear Lk2
            try clear Fk2
            try clear Qk2
            try clear Lk3
            try clear Fk3
            try clear Qk3
            try clear Lk4
            try clear Fk4
            try clear Qk4
            try clear hb0
            try clear k0
            try clear k1
            try clear k2
            try clear k3
            try clear k4
            have hb0 := hb0'; clear hb0'
            have k0 := k0'; clear k0'
            have k1 := k1'; clear k1'
            have k2 := k2'; clear k2'
            have k3 := k3'; clear k3'
            have k4 := k4'; clear k4'
            have Lk0 := k0.later
            have Fk0 := k0.laterF
            have Qk0 := k0.lt
            have Lk1 := k1.later
            have Fk1 := k1.laterF
            have Qk1 := k1.lt
            have Lk2 := k2.later
            have Fk2 := k2.laterF
            have Qk2 := k2.lt
            have Lk3 := k3.later
            have Fk3 := k3.laterF
            have Qk3 := k3.lt
            have Lk4 := k4.later
            have Fk4 := k4.laterF
            have Qk4 := k4.lt
            cases lg
            · obtain ⟨hm0, hm1⟩ := mS.out (by simp) (by simp) (by simp)
              clear hm1
              have hm1 := mC.out (by simp) (by simp) h2
              clear mA mB mC mS mL
              have h2' : (ve != 0) = true := by simp [h2]
              replace h2 := Lib.hid h2
              replace hm0 := Lib.hid hm0
              replace hm1 := Lib.hid hm1
              go_upto_region 15 with (go_at_call 27; (with_reducible refine (hil.out _).mono ?_); rintro e w3 ⟨rfl, hb3⟩; replace hb3 := bl_tt hb3)
              apply absB5 (w0 := w) (g0 := w.heap.size) (g1 := w.heap.size + 1) (g2 := w.heap.size + 2) (g3 := g11) (g4 := g10)
              iterate 6 (focus ((with_reducible (repeat' (first | assumption | apply jA | apply jB | apply jC | apply jD | apply jE | apply jF | apply hb3 | apply jG | apply jH | apply jI | apply jJ | apply jK | apply hb3x | (apply jL; first | (simp; done) | rfl) | apply jM | apply jN | apply jO | apply jP | apply jQ | apply jR | apply jS | apply jT (hb := hb3 _ (jA _)) | omega | (simp; done) | (simp; omega) | (dsimp only; omega)))); done))
              intro wf3 hb0' k0' k1' k2' k3' k4'
              (try simp only [List.setIfInBounds_toArray, List.set_cons_zero, List.set_cons_succ] at k0' k1' k2' k3' k4')
              try clear hb3
              try clear Lk0
              try clear Fk0
              try clear Qk0
              try clear Lk1
              try clear Fk1
              try clear Qk1
              try clear Lk2
              try clear Fk2
              try clear Qk2
              try clear Lk3
              try clear Fk3
              try clear Qk3
              try clear Lk4
              try clear Fk4
              try clear Qk4
              try clear hb0
              try clear k0
              try clear k1
              try clear k2
              try clear k3
              try clear k4
              have hb0 := hb0'; clear hb0'
              have k0 := k0'; clear k0'
              have k1 := k1'; clear k1'
              have k2 := k2'; clear k2'
              have k3 := k3'; clear k3'
              have k4 := k4'; clear k4'
              have Lk0 := k0.later
              have Fk0 := k0.laterF
              have Qk0 := k0.lt
              have Lk1 := k1.later
              have Fk1 := k1.laterF
              have Qk1 := k1.lt
              have Lk2 := k2.later
              have Fk2 := k2.laterF
              have Qk2 := k2.lt
              have Lk3 := k3.later
              have Fk3 := k3.laterF
              have Qk3 := k3.lt
              have Lk4 := k4.later
              have Fk4 := k4.laterF
              have Qk4 := k4.lt
              go_upto_region 17 with (go_at_call 27; (with_reducible refine (hil.out _).mono ?_); rintro e w3 ⟨rfl, hb3⟩; replace hb3 := bl_tt hb3)
              apply absB5 (w0 := w) (g0 := w.heap.size) (g1 := w.heap.size + 1) (g2 := w.heap.size + 2) (g3 := g11) (g4 := g10)
              iterate 6 (focus ((with_reducible (repeat' (first | assumption | apply jA | apply jB | apply jC | apply jD | apply jE | apply jF | apply hb3 | apply jG | apply jH | apply jI | apply jJ | apply jK | apply hb3x | (apply jL; first | (simp; done) | rfl) | apply jM | apply jN | apply jO | apply jP | apply jQ | apply jR | apply jS | apply jT (hb := hb3 _ (jA _)) | omega | (simp; done) | (simp; omega) | (dsimp only; omega)))); done))
              intro wf4 hb0' k0' k1' k2' k3' k4'
              (try simp only [List.setIfInBounds_toArray, List.set_cons_zero, List.set_cons_succ] at k0' k1' k2' k3' k4')
              try clear hb3
              try clear Lk0
              try clear Fk0
              try clear Qk0
              try clear Lk1
              try clear Fk1
              try clear Qk1
              try clear Lk2
              try clear Fk2
              try clear Qk2
              try clear Lk3
              try clear Fk3
              try clear Qk3
              try clear Lk4
              try clear Fk4
              try clear Qk4
              try clear hb0
              try clear k0
              try clear k1
              try clear k2
              try clear k3
              try clear k4
              have hb0 := hb0'; clear hb0'
              have k0 := k0'; clear k0'
              have k1 := k1'; clear k1'
              have k2 := k2'; clear k2'
              have k3 := k3'; clear k3'
              have k4 := k4'; clear k4'
              have Lk0 := k0.later
              have Fk0 := k0.laterF
              have Qk0 := k0.lt
              have Lk1 := k1.later
              have Fk1 := k1.laterF
              have Qk1 := k1.lt
              have Lk2 := k2.later
              have Fk2 := k2.laterF
              have Qk2 := k2.lt
              have Lk3 := k3.later
              have Fk3 := k3.laterF
              have Qk3 := k3.lt
              have Lk4 := k4.later
              have Fk4 := k4.laterF
              have Qk4 := k4.lt
              go_wp2_with (go_at_call 28; (with_reducible first | refine (hm0.out _ (bl_tr hb0 (by (with_reducible (repeat' (first | assumption | apply jA | apply jB | apply jC | apply jD | apply jE | apply jF | apply hb3 | omega | (simp; done) | (simp; omega) | (dsimp only; omega))))))).mono ?_ | refine (hm1.out _ (bl_tr hb0 (by (with_reducible (repeat' (first | assumption | apply jA | apply jB | apply jC | apply jD | apply jE | apply jF | apply hb3 | omega | (simp; done) | (simp; omega) | (dsimp only; omega))))))).mono ?_); rintro e w3 ⟨rfl, hb3⟩; replace hb3 := bl_tt hb3; have hv := hb3 wf4 (by (with_reducible (repeat' (first | assumption | apply jA | apply jB | apply jC | apply jD | apply jE | apply jF | apply hb3 | omega | (simp; done) | (simp; omega) | (dsimp only; omega))))))
              go_ret
              exact ⟨rfl, bl_tr hb0 hv⟩
            · obtain ⟨hm0, hm1⟩ := mL.out (by simp) (by simp) (by simp)
              clear hm1
              have hm1 := mC.out (by simp) (by simp) h2
              clear mA mB mC mS mL
              have h2' : (ve != 0) = true := by simp [h2]
              replace h2 := Lib.hid h2
              replace hm0 := Lib.hid hm0
              replace hm1 := Lib.hid hm1
              go_upto_region 15 with (go_at_call 27; (with_reducible refine (hil.out _).mono ?_); rintro e w3 ⟨rfl, hb3⟩; replace hb3 := bl_tt hb3)
              apply absB5 (w0 := w) (g0 := w.heap.size) (g1 := w.heap.size + 1) (g2 := w.heap.size + 2) (g3 := g11) (g4 := g10)
              iterate 6 (focus ((with_reducible (repeat' (first | assumption | apply jA | apply jB | apply jC | apply jD | apply jE | apply jF | apply hb3 | apply jG | apply jH | apply jI | apply jJ | apply jK | apply hb3x | (apply jL; first | (simp; done) | rfl) | apply jM | apply jN | apply jO | apply jP | apply jQ | apply jR | apply jS | apply jT (hb := hb3 _ (jA _)) | omega | (simp; done) | (simp; omega) | (dsimp only; omega)))); done))
              intro wf3 hb0' k0' k1' k2' k3' k4'
              (try simp only [List.setIfInBounds_toArray, List.set_cons_zero, List.set_cons_succ] at k0' k1' k2' k3' k4')
              try clear hb3
              try clear Lk0
              try clear Fk0
              try clear Qk0
              try clear Lk1
              try clear Fk1
              try clear Qk1
              try clear Lk2
              try clear Fk2
              try clear Qk2
              try clear Lk3
              try clear Fk3
              try clear Qk3
              try clear Lk4
              try clear Fk4
              try clear Qk4
              try clear hb0
              try clear k0
              try clear k1
              try clear k2
              try clear k3
              try clear k4
              have hb0 := hb0'; clear hb0'
              have k0 := k0'; clear k0'
              have k1 := k1'; clear k1'
              have k2 := k2'; clear k2'
              have k3 := k3'; clear k3'
              have k4 := k4'; clear k4'
              have Lk0 := k0.later
              have Fk0 := k0.laterF
              have Qk0 := k0.lt
              have Lk1 := k1.later
              have Fk1 := k1.laterF
              have Qk1 := k1.lt
              have Lk2 := k2.later
              have Fk2 := k2.laterF
              have Qk2 := k2.lt
              have Lk3 := k3.later
              have Fk3 := k3.laterF
              have Qk3 := k3.lt
              have Lk4 := k4.later
              have Fk4 := k4.laterF
              have Qk4 := k4.lt
              go_upto_region 17 with (go_at_call 27; (with_reducible refine (hil.out _).mono ?_); rintro e w3 ⟨rfl, hb3⟩; replace hb3 := bl_tt hb3)
              apply absB5 (w0 := w) (g0 := w.heap.size) (g1 := w.heap.size + 1) (g2 := w.heap.size + 2) (g3 := g11) (g4 := g10)
              iterate 6 (focus ((with_reducible (repeat' (first | assumption | apply jA | apply jB | apply jC | apply jD | apply jE | apply jF | apply hb3 | apply jG | apply jH | apply jI | apply jJ | apply jK | apply hb3x | (apply jL; first | (simp; done) | rfl) | apply jM | apply jN | apply jO | apply jP | apply jQ | apply jR | apply jS | apply jT (hb := hb3 _ (jA _)) | omega | (simp; done) | (simp; omega) | (dsimp only; omega)))); done))
              intro wf4 hb0' k0' k1' k2' k3' k4'
              (try simp only [List.setIfInBounds_toArray, List.set_cons_zero, List.set_cons_succ] at k0' k1' k2' k3' k4')
              try clear hb3
              try clear Lk0
              try clear Fk0
              try clear Qk0
              try clear Lk1
              try clear Fk1
              try clear Qk1
              try clear Lk2
              try clear Fk2
              try clear Qk2
              try clear Lk3
              try clear Fk3
              try clear Qk3
              try clear Lk4
              try clear Fk4
              try clear Qk4
              try clear hb0
              try clear k0
              try clear k1
              try clear k2
              try clear k3
              try clear k4
              have hb0 := hb0'; clear hb0'
              have k0 := k0'; clear k0'
              have k1 := k1'; clear k1'
              have k2 := k2'; clear k2'
              have k3 := k3'; clear k3'
              have k4 := k4'; clear k4'
              have Lk0 := k0.later
              have Fk0 := k0.laterF
              have Qk0 := k0.lt
              have Lk1 := k1.later
              have Fk1 := k1.laterF
              have Qk1 := k1.lt
              have Lk2 := k2.later
              have Fk2 := k2.laterF
              have Qk2 := k2.lt
              have Lk3 := k3.later
              have Fk3 := k3.laterF
              have Qk3 := k3.lt
              have Lk4 := k4.later
              have Fk4 := k4.laterF
              have Qk4 := k4.lt
              go_wp2_with (go_at_call 28; (with_reducible first | refine (hm0.out _ (bl_tr hb0 (by (with_reducible (repeat' (first | assumption | apply jA | apply jB | apply jC | apply jD | apply jE | apply jF | apply hb3 | omega | (simp; done) | (simp; omega) | (dsimp only; omega))))))).mono ?_ | refine (hm1.out _ (bl_tr hb0 (by (with_reducible (repeat' (first | assumption | apply jA | apply jB | apply jC | apply jD | apply jE | apply jF | apply hb3 | omega | (simp; done) | (simp; omega) | (dsimp only; omega))))))).mono ?_); rintro e w3 ⟨rfl, hb3⟩; replace hb3 := bl_tt hb3; have hv := hb3 wf4 (by (with_reducible (repeat' (first | assumption | apply jA | apply jB | apply jC | apply jD | apply jE | apply jF | apply hb3 | omega | (simp; done) | (simp; omega) | (dsimp only; omega))))))
              go_ret
              exact ⟨rfl, bl_tr hb0 hv⟩
        · obtain ⟨hm0, hm1⟩ := mB.out (by simp) h1
          clear mA mB mC mS mL hve hil
          replace hm0 := Lib.hid hm0
          replace hm1 := Lib.hid hm1
          have h1' : (rr != 0) = true := by simp [h1]
          replace h1 := Lib.hid h1
          go_wp2_with (go_at_call 28; (with_reducible first | refine (hm0.out _ (bl_tr hb0 (by (with_reducible (repeat' (first | assumption | apply jA | apply jB | apply jC | apply jD | apply jE | apply jF | apply hb3 | omega | (simp; done) | (simp; omega) | (dsimp only; omega))))))).mono ?_ | refine (hm1.out _ (bl_tr hb0 (by (with_reducible (repeat' (first | assumption | apply jA | apply jB | apply jC | apply jD | apply jE | apply jF | apply hb3 | omega | (simp; done) | (simp; omega) | (dsimp only; omega))))))).mono ?_); rintro e w3 ⟨rfl, hb3⟩; replace hb3 := bl_tt hb3; have hv := hb3 wf1 (by (with_reducible (repeat' (first | assumption | apply jA | apply jB | apply jC | apply jD | apply jE | apply jF | apply hb3 | omega | (simp; done) | (simp; omega) | (dsimp only; omega))))))
          go_ret
          exact ⟨rfl, bl_tr hb0 hv⟩
      · obtain ⟨hm0, hm1⟩ := mA.out h0
        clear mA mB mC mS mL hrr hve hil
        replace hm0 := Lib.hid hm0
        replace hm1 := Lib.hid hm1
        have h0' : (be != 0) = true := by simp [h0]
        replace h0 := Lib.hid h0
        go_wp2_with (go_at_call 28; (with_reducible first | refine (hm0.out _ (bl_tr hb0 (by (with_reducible (repeat' (first | assumption | apply jA | apply jB | apply jC | apply jD | apply jE | apply jF | apply hb3 | omega | (simp; done) | (simp; omega) | (dsimp only; omega))))))).mono ?_ | refine (hm1.out _ (bl_tr hb0 (by (with_reducible (repeat' (first | assumption | apply jA | apply jB | apply jC | apply jD | apply jE | apply jF | apply hb3 | omega | (simp; done) | (simp; omega) | (dsimp only; omega))))))).mono ?_); rintro e w3 ⟨rfl, hb3⟩; replace hb3 := bl_tt hb3; have hv := hb3 we (by (with_reducible (repeat' (first | assumption | apply jA | apply jB | apply jC | apply jD | apply jE | apply jF | apply hb3 | omega | (simp; done) | (simp; omega) | (dsimp only; omega))))))
        go_ret
        exact ⟨rfl, bl_tr hb0 hv⟩
end Go.Proofs.Ytephimmamkafoaa
