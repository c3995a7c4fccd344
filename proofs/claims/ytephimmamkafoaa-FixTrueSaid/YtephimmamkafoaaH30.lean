/-
  Walk: the law of the true position.
-/
import Derived.Test.YtephimmamkafoaaH29
namespace Go.Proofs.Ytephimmamkafoaa
set_option linter.unusedSimpArgs false
set_option linter.unusedVariables false
open Go.RowKit Go.Shelf
attribute [local go_sem] bl_al bl_drew bl_drewN bl_refl bx_al bx_drew bx_drewN bx_refl
set_option maxRecDepth 20000
theorem bne_neT {x : Int} (h : x ≠ 0) : (x != 0) = true := by simp [h]
theorem sl_one {w : World} {bb off k : Nat} {x : Rd} (h : ∀ (j : Nat) (v : Value), (cRd x)[j]? = some v → w.cell? ⟨bb, off + k * 4 + j, none⟩ = some v) : Sl cRd 4 w (some ⟨bb, off + k * 4, none⟩) [x] := fun i y hy => by
  match i, hy with
  | 0, hy =>
    simp at hy
    subst hy
    exact ⟨bb, off + k * 4, rfl, fun j v hv => by have := h j v hv; simpa using this⟩
set_option maxHeartbeats 16000000 in
theorem l_True_few (n : Nt) (b : Bx) (l : List Rd) (p : Pl) (A A' : Option Addr) (c c' : Nat) (w : World) (hF : (decide (n.bs.length ≤ 8) && decide (l.length ≤ 10)) = false) :
    Calls Try.prog 9 #[vNt n.world (.slice A n.bs.length c), vBx b, .agg #[.slice A' l.length c', .int .i64 p.x, .int .i64 p.y, .int .i64 p.z]] w (Ret (.bool true) w) := by
  have hfw := Lib.hid fun W : World => r_few n A A' c c' l.length W
  rw [hF] at hfw
  clear hF
  generalize n.bs.length = nl at *
  generalize l.length = rl at *
  go_enter Try.func9, Try.ntmps9
  go_upto_region 3 with (go_at_call 10; (with_reducible refine (r_awake _).mono ?_); rintro e w3 ⟨rfl, hb3⟩; replace hb3 := bl_tt hb3)
  apply absB3 (w0 := w) (g0 := w.heap.size) (g1 := w.heap.size + 1) (g2 := w.heap.size + 2)
  iterate 4 (focus ((with_reducible (repeat' (first | assumption | apply jA | apply jB | apply jC | apply jD | apply jE | apply jF | apply hb3 | apply jG | apply jH | apply jI | apply jJ | apply jK | apply hb3x | (apply jL; first | (simp; done) | rfl) | apply jM | apply jN | apply jO | apply jP | apply jQ | apply jR | apply jS | apply jT (hb := hb3 _ (jA _)) | omega | (simp; done) | (simp; omega) | (dsimp only; omega)))); done))
  intro wa hb0' k0' k1' k2'
  (try simp only [List.setIfInBounds_toArray, List.set_cons_zero, List.set_cons_succ] at k0' k1' k2')
  try clear hb3
  try clear hb0
  try clear k0
  try clear k1
  try clear k2
  have hb0 := hb0'; clear hb0'
  have k0 := k0'; clear k0'
  have k1 := k1'; clear k1'
  have k2 := k2'; clear k2'
  have Lk0 := k0.later
  have Fk0 := k0.laterF
  have Qk0 := k0.lt
  have Lk1 := k1.later
  have Fk1 := k1.laterF
  have Qk1 := k1.lt
  have Lk2 := k2.later
  have Fk2 := k2.laterF
  have Qk2 := k2.lt
  have hb3 := fun (w' : World) (h : Below w'.heap.size w' wa) => h
  have hv := hb3 wa (bl_refl wa)
  go_wp2_with (go_at_call 11; (with_reducible refine (hfw.out _).mono ?_); rintro e w3 ⟨rfl, hb4⟩; replace hb3 := fun w h => bl_tt hb4 w (hb3 w h); have hv := hb3 wa (bl_refl wa))
  go_ret
  exact ⟨rfl, bl_tr hb0 hv⟩
set_option maxHeartbeats 16000000 in
theorem l_True_no (n : Nt) (b : Bx) (l : List Rd) (p : Pl) (A A' : Option Addr) (c c' : Nat) (w : World) (hF : (decide (n.bs.length ≤ 8) && decide (l.length ≤ 10)) = true) (hn : NtIn n A c w) (hl : Sl cRd 4 w A' l) (hll : l.length ≤ 1000)
    (hno : Hid (boxErr n b = 0 → refRdsE n l = 0 → decide (20000 < b.size) = false → lightB n b = true → b.has p = false)) :
    Calls Try.prog 9 #[vNt n.world (.slice A n.bs.length c), vBx b, .agg #[.slice A' l.length c', .int .i64 p.x, .int .i64 p.y, .int .i64 p.z]] w (Ret (.bool true) w) := by
  have hfw := Lib.hid fun W : World => r_few n A A' c c' l.length W
  rw [hF] at hfw
  have hbe := Lib.hid fun (W : World) (hb : Below w.heap.size w W) => r_BoxErr n b A c W (hn.below hb)
  have hrd := Lib.hid fun (W : World) (hb : Below w.heap.size w W) => r_ReadingsErr n l A A' c c' W (hn.below hb) (hl.below hb) hll
  have hil := Lib.hid fun (h : boxErr n b = 0) (W : World) => r_IsLarge b W (box_ok h)
  have hli := Lib.hid fun (W : World) (hb : Below w.heap.size w W) => r_light n b A c W (hn.below hb)
  have hii := Lib.hid fun (W : World) => r_IsIn b p W
  clear hF hn hl hll
  generalize lightB n b = L at *
  generalize decide (20000 < b.size) = lg at *
  generalize boxErr n b = be at *
  generalize refRdsE n l = re at *
  generalize b.has p = I at *
  generalize n.bs.length = nl at *
  generalize l.length = rl at *
  go_enter Try.func9, Try.ntmps9
  go_upto_region 3 with (go_at_call 10; (with_reducible refine (r_awake _).mono ?_); rintro e w3 ⟨rfl, hb3⟩; replace hb3 := bl_tt hb3)
  apply absB3 (w0 := w) (g0 := w.heap.size) (g1 := w.heap.size + 1) (g2 := w.heap.size + 2)
  iterate 4 (focus ((with_reducible (repeat' (first | assumption | apply jA | apply jB | apply jC | apply jD | apply jE | apply jF | apply hb3 | apply jG | apply jH | apply jI | apply jJ | apply jK | apply hb3x | (apply jL; first | (simp; done) | rfl) | apply jM | apply jN | apply jO | apply jP | apply jQ | apply jR | apply jS | apply jT (hb := hb3 _ (jA _)) | omega | (simp; done) | (simp; omega) | (dsimp only; omega)))); done))
  intro wa hb0' k0' k1' k2'
  (try simp only [List.setIfInBounds_toArray, List.set_cons_zero, List.set_cons_succ] at k0' k1' k2')
  try clear hb3
  try clear hb0
  try clear k0
  try clear k1
  try clear k2
  have hb0 := hb0'; clear hb0'
  have k0 := k0'; clear k0'
  have k1 := k1'; clear k1'
  have k2 := k2'; clear k2'
  have Lk0 := k0.later
  have Fk0 := k0.laterF
  have Qk0 := k0.lt
  have Lk1 := k1.later
  have Fk1 := k1.laterF
  have Qk1 := k1.lt
  have Lk2 := k2.later
  have Fk2 := k2.laterF
  have Qk2 := k2.lt
  have hb3 := fun (w' : World) (h : Below w'.heap.size w' wa) => h
  have hv := hb3 wa (bl_refl wa)
  by_cases h0 : be = 0
  · subst h0
    replace hil := Lib.hid (hil.out (by simp))
    by_cases h1 : re = 0
    · subst h1
      cases lg
      · cases L
        · go_wp2_with (first | (go_at_call 11; (with_reducible refine (hfw.out _).mono ?_); rintro e w3 ⟨rfl, hb4⟩; replace hb3 := fun w h => bl_tt hb4 w (hb3 w h); have hv := hb3 wa (bl_refl wa)) | (go_at_call 17; (with_reducible refine (hbe.out _ (bl_tr hb0 hv)).mono ?_); rintro e w3 ⟨rfl, hb4⟩; replace hb3 := fun w h => bl_tt hb4 w (hb3 w h); have hv := hb3 wa (bl_refl wa)) | (go_at_call 52; (with_reducible refine (hrd.out _ (bl_tr hb0 hv)).mono ?_); rintro e w3 ⟨rfl, hb4⟩; replace hb3 := fun w h => bl_tt hb4 w (hb3 w h); have hv := hb3 wa (bl_refl wa)) | (go_at_call 27; (with_reducible refine (hil.out _).mono ?_); rintro e w3 ⟨rfl, hb4⟩; replace hb3 := fun w h => bl_tt hb4 w (hb3 w h); have hv := hb3 wa (bl_refl wa)) | (go_at_call 20; (with_reducible refine (hli.out _ (bl_tr hb0 hv)).mono ?_); rintro e w3 ⟨rfl, hb4⟩; replace hb3 := fun w h => bl_tt hb4 w (hb3 w h); have hv := hb3 wa (bl_refl wa)) | (go_at_call 30; (with_reducible refine (hii.out _).mono ?_); rintro e w3 ⟨rfl, hb4⟩; replace hb3 := fun w h => bl_tt hb4 w (hb3 w h); have hv := hb3 wa (bl_refl wa)))
          go_ret
          exact ⟨rfl, bl_tr hb0 hv⟩
        · obtain rfl := hno.out (by simp) (by simp) (by simp) (by simp)
          go_wp2_with (first | (go_at_call 11; (with_reducible refine (hfw.out _).mono ?_); rintro e w3 ⟨rfl, hb4⟩; replace hb3 := fun w h => bl_tt hb4 w (hb3 w h); have hv := hb3 wa (bl_refl wa)) | (go_at_call 17; (with_reducible refine (hbe.out _ (bl_tr hb0 hv)).mono ?_); rintro e w3 ⟨rfl, hb4⟩; replace hb3 := fun w h => bl_tt hb4 w (hb3 w h); have hv := hb3 wa (bl_refl wa)) | (go_at_call 52; (with_reducible refine (hrd.out _ (bl_tr hb0 hv)).mono ?_); rintro e w3 ⟨rfl, hb4⟩; replace hb3 := fun w h => bl_tt hb4 w (hb3 w h); have hv := hb3 wa (bl_refl wa)) | (go_at_call 27; (with_reducible refine (hil.out _).mono ?_); rintro e w3 ⟨rfl, hb4⟩; replace hb3 := fun w h => bl_tt hb4 w (hb3 w h); have hv := hb3 wa (bl_refl wa)) | (go_at_call 20; (with_reducible refine (hli.out _ (bl_tr hb0 hv)).mono ?_); rintro e w3 ⟨rfl, hb4⟩; replace hb3 := fun w h => bl_tt hb4 w (hb3 w h); have hv := hb3 wa (bl_refl wa)) | (go_at_call 30; (with_reducible refine (hii.out _).mono ?_); rintro e w3 ⟨rfl, hb4⟩; replace hb3 := fun w h => bl_tt hb4 w (hb3 w h); have hv := hb3 wa (bl_refl wa)))
          go_ret
          exact ⟨rfl, bl_tr hb0 hv⟩
      · go_wp2_with (first | (go_at_call 11; (with_reducible refine (hfw.out _).mono ?_); rintro e w3 ⟨rfl, hb4⟩; replace hb3 := fun w h => bl_tt hb4 w (hb3 w h); have hv := hb3 wa (bl_refl wa)) | (go_at_call 17; (with_reducible refine (hbe.out _ (bl_tr hb0 hv)).mono ?_); rintro e w3 ⟨rfl, hb4⟩; replace hb3 := fun w h => bl_tt hb4 w (hb3 w h); have hv := hb3 wa (bl_refl wa)) | (go_at_call 52; (with_reducible refine (hrd.out _ (bl_tr hb0 hv)).mono ?_); rintro e w3 ⟨rfl, hb4⟩; replace hb3 := fun w h => bl_tt hb4 w (hb3 w h); have hv := hb3 wa (bl_refl wa)) | (go_at_call 27; (with_reducible refine (hil.out _).mono ?_); rintro e w3 ⟨rfl, hb4⟩; replace hb3 := fun w h => bl_tt hb4 w (hb3 w h); have hv := hb3 wa (bl_refl wa)) | (go_at_call 20; (with_reducible refine (hli.out _ (bl_tr hb0 hv)).mono ?_); rintro e w3 ⟨rfl, hb4⟩; replace hb3 := fun w h => bl_tt hb4 w (hb3 w h); have hv := hb3 wa (bl_refl wa)) | (go_at_call 30; (with_reducible refine (hii.out _).mono ?_); rintro e w3 ⟨rfl, hb4⟩; replace hb3 := fun w h => bl_tt hb4 w (hb3 w h); have hv := hb3 wa (bl_refl wa)))
        go_ret
        exact ⟨rfl, bl_tr hb0 hv⟩
    · have h1' := bne_neT h1
      replace h1 := Lib.hid h1
      go_wp2_with (first | (go_at_call 11; (with_reducible refine (hfw.out _).mono ?_); rintro e w3 ⟨rfl, hb4⟩; replace hb3 := fun w h => bl_tt hb4 w (hb3 w h); have hv := hb3 wa (bl_refl wa)) | (go_at_call 17; (with_reducible refine (hbe.out _ (bl_tr hb0 hv)).mono ?_); rintro e w3 ⟨rfl, hb4⟩; replace hb3 := fun w h => bl_tt hb4 w (hb3 w h); have hv := hb3 wa (bl_refl wa)) | (go_at_call 52; (with_reducible refine (hrd.out _ (bl_tr hb0 hv)).mono ?_); rintro e w3 ⟨rfl, hb4⟩; replace hb3 := fun w h => bl_tt hb4 w (hb3 w h); have hv := hb3 wa (bl_refl wa)) | (go_at_call 27; (with_reducible refine (hil.out _).mono ?_); rintro e w3 ⟨rfl, hb4⟩; replace hb3 := fun w h => bl_tt hb4 w (hb3 w h); have hv := hb3 wa (bl_refl wa)) | (go_at_call 20; (with_reducible refine (hli.out _ (bl_tr hb0 hv)).mono ?_); rintro e w3 ⟨rfl, hb4⟩; replace hb3 := fun w h => bl_tt hb4 w (hb3 w h); have hv := hb3 wa (bl_refl wa)) | (go_at_call 30; (with_reducible refine (hii.out _).mono ?_); rintro e w3 ⟨rfl, hb4⟩; replace hb3 := fun w h => bl_tt hb4 w (hb3 w h); have hv := hb3 wa (bl_refl wa)))
      go_ret
      exact ⟨rfl, bl_tr hb0 hv⟩
  · clear hil
    have h0' := bne_neT h0
    replace h0 := Lib.hid h0
    go_wp2_with (first | (go_at_call 11; (with_reducible refine (hfw.out _).mono ?_); rintro e w3 ⟨rfl, hb4⟩; replace hb3 := fun w h => bl_tt hb4 w (hb3 w h); have hv := hb3 wa (bl_refl wa)) | (go_at_call 17; (with_reducible refine (hbe.out _ (bl_tr hb0 hv)).mono ?_); rintro e w3 ⟨rfl, hb4⟩; replace hb3 := fun w h => bl_tt hb4 w (hb3 w h); have hv := hb3 wa (bl_refl wa)) | (go_at_call 52; (with_reducible refine (hrd.out _ (bl_tr hb0 hv)).mono ?_); rintro e w3 ⟨rfl, hb4⟩; replace hb3 := fun w h => bl_tt hb4 w (hb3 w h); have hv := hb3 wa (bl_refl wa)) | (go_at_call 20; (with_reducible refine (hli.out _ (bl_tr hb0 hv)).mono ?_); rintro e w3 ⟨rfl, hb4⟩; replace hb3 := fun w h => bl_tt hb4 w (hb3 w h); have hv := hb3 wa (bl_refl wa)) | (go_at_call 30; (with_reducible refine (hii.out _).mono ?_); rintro e w3 ⟨rfl, hb4⟩; replace hb3 := fun w h => bl_tt hb4 w (hb3 w h); have hv := hb3 wa (bl_refl wa)))
    go_ret
    exact ⟨rfl, bl_tr hb0 hv⟩
set_option maxHeartbeats 64000000 in
theorem l_True (n : Nt) (b : Bx) (l : List Rd) (p : Pl) (A A' : Option Addr) (c c' : Nat) (w : World) (hF : (decide (n.bs.length ≤ 8) && decide (l.length ≤ 10)) = true) (hn : NtIn n A c w) (hl : Sl cRd 4 w A' l) (hll : l.length ≤ 10) (hlc : l.length ≤ c') (hcm : c' ≤ maxLen)
    (h0 : boxErr n b = 0) (hre : refRdsE n l = 0) (hlg : decide (20000 < b.size) = false) (hL : lightB n b = true) (hp : b.has p = true) :
    Calls Try.prog 9 #[vNt n.world (.slice A n.bs.length c), vBx b, .agg #[.slice A' l.length c', .int .i64 p.x, .int .i64 p.y, .int .i64 p.z]] w (Ret (.bool true) w) := by
  have hll' : l.length ≤ 1000 := by omega
  have hnl : n.bs.length ≤ 8 := by simp only [Bool.and_eq_true, decide_eq_true_eq] at hF; exact hF.1
  have hfw := Lib.hid fun W : World => r_few n A A' c c' l.length W
  rw [hF] at hfw
  have hbe := Lib.hid fun (W : World) (hb : Below w.heap.size w W) => r_BoxErr n b A c W (hn.below hb)
  have hrd := Lib.hid fun (W : World) (hb : Below w.heap.size w W) => r_ReadingsErr n l A A' c c' W (hn.below hb) (hl.below hb) hll'
  have hil := Lib.hid fun (W : World) => r_IsLarge b W (box_ok h0)
  have hli := Lib.hid fun (W : World) (hb : Below w.heap.size w W) => r_light n b A c W (hn.below hb)
  have hii := Lib.hid fun (W : World) => r_IsIn b p W
  rw [h0] at hbe
  rw [hre] at hrd
  rw [hlg] at hil
  rw [hL] at hli
  rw [hp] at hii
  have hsz : b.size ≤ 20000 := by simpa using hlg
  have h1 : readsErr n l = 0 := by
    have e := refReads_eq (n := n) (l := l) (box_zero h0).1
    rw [refRdsE, if_pos (box_zero h0).1, e] at hre
    exact hre
  have hw0 : wrongE n b l = 0 := by
    unfold wrongE
    rw [h0, h1]
    rfl
  obtain ⟨hbo, hl8, hro⟩ := wrong_ok hw0
  have hlen := wrongL_len n.bs l p
  have hok := okB_wrong (bs := n.bs) (p := p) hl8
  have hcp := Lib.hid fun (W : World) (hb : Below w.heap.size w W) => r_CopyNet n A c W (hn.below hb)
  have hcr : Hid (∀ W : World, Below w.heap.size w W → Calls Try.prog 22 #[.slice A' l.length c'] W (fun x w' => ∃ A2 c2, x = .returned (.slice A2 l.length c2) ∧ Below W.heap.size W w' ∧ Sl cRd 4 w' A2 l)) := fun W hb => (r_CopyReadings l A' c' W (hl.below hb) hll').mono fun x w' ⟨A2, c2, e, h1, h2⟩ => ⟨A2, c2, e, h1, own_slC (cs := cRd) (fun _ => rfl) (by decide) h2⟩
  have hcw : Hid (∀ (x : Rd) (A1 : Option Addr) (c1 : Nat) (W : World), Sl cRd 4 W A1 [x] → Calls Try.prog 22 #[.slice A1 1 c1] W (fun e w' => ∃ A2 c2, e = .returned (.slice A2 1 c2) ∧ Below W.heap.size W w' ∧ Sl cRd 4 w' A2 [x])) := fun x A1 c1 W h => (r_CopyReadings [x] A1 c1 W h (by simp)).mono fun e w' ⟨A2, c2, e1, h1, h2⟩ => ⟨A2, c2, e1, h1, own_slC (cs := cRd) (fun _ => rfl) (by decide) h2⟩
  obtain ⟨hae, has⟩ := true_agr h0 h1 hp
  have hag : Hid (∀ (W : World) (A A' : Option Addr) (c c' : Nat), NtIn n A c W → Sl cRd 4 W A' l → Calls Try.prog 38 #[vNt n.world (.slice A n.bs.length c), .slice A' l.length c', vPl p] W (fun e w' => ∃ A2 c2, e = .returned (.tuple #[.slice A2 (agrL n.bs l p).length c2, .int .i64 0]) ∧ Below W.heap.size W w')) := fun W A A' c c' h h' => by
    have := c_AgreeingWith n l p A A' c c' W h h' hll' (by omega) agree_ok
    refine this.mono fun x w' ⟨A2, c2, e, h1, h2⟩ => ⟨A2, c2, ?_, h1⟩
    rw [e, hae, has]
  have t1 := true_at (k := (l.length : Int) - (agrL n.bs l p).length) h0 h1 hsz (by omega) hp hok
  have hv1 := Lib.hid fun (W : World) (A A' : Option Addr) (c c' : Nat) (h : NtIn n A c W) (h' : Sl cRd 4 W A' l) => c_VotedIn n b ⟨l, (l.length : Int) - (agrL n.bs l p).length⟩ A A' c c' W h h' hll' (by omega)
  rw [t1.1] at hv1
  have hc1 : decide ((votedS n b ⟨l, (l.length : Int) - (agrL n.bs l p).length⟩).2.1 < 1) = false := by simp; omega
  have hin := Lib.hid fun (W : World) => r_IsIn (votedS n b ⟨l, (l.length : Int) - (agrL n.bs l p).length⟩).1 p W
  rw [t1.2.2.1] at hin
  have hcm2 := Lib.hid fun (W : World) => r_Common (votedS n b ⟨l, (l.length : Int) - (agrL n.bs l p).length⟩).1 b W
  rw [t1.2.2.2] at hcm2
  have fM : Hid (decide ((l.length : Int) - (agrL n.bs l p).length < l.length) = true →
      (∀ (W : World) (A A' : Option Addr) (c c' : Nat), NtIn n A c W → Sl cRd 4 W A' l → Calls Try.prog 23 #[vNt n.world (.slice A n.bs.length c), vBx b, vVt A' l.length c' ((l.length : Int) - (agrL n.bs l p).length + 1)] W (Ret (.tuple #[vBx (votedS n b ⟨l, (l.length : Int) - (agrL n.bs l p).length + 1⟩).1, .int .i64 (votedS n b ⟨l, (l.length : Int) - (agrL n.bs l p).length + 1⟩).2.1, .int .i64 0]) W))
      ∧ decide ((votedS n b ⟨l, (l.length : Int) - (agrL n.bs l p).length + 1⟩).2.1 < (votedS n b ⟨l, (l.length : Int) - (agrL n.bs l p).length⟩).2.1) = false
      ∧ (∀ W : World, Calls Try.prog 53 #[vBx (votedS n b ⟨l, (l.length : Int) - (agrL n.bs l p).length⟩).1, vBx (votedS n b ⟨l, (l.length : Int) - (agrL n.bs l p).length + 1⟩).1] W (Ret (vBx (votedS n b ⟨l, (l.length : Int) - (agrL n.bs l p).length⟩).1) W))) := fun hw => by
    have hw' : (l.length : Int) - (agrL n.bs l p).length < l.length := by simpa using hw
    obtain ⟨t2, t3, t4⟩ := true_more (k := (l.length : Int) - (agrL n.bs l p).length) h0 h1 hsz (by omega) hp hok
    refine ⟨fun W A A' c c' h h' => ?_, by simpa using t3, fun W => ?_⟩
    · have := c_VotedIn n b ⟨l, (l.length : Int) - (agrL n.bs l p).length + 1⟩ A A' c c' W h h' hll' (by omega)
      rw [t2] at this
      exact this
    · have := r_Common (votedS n b ⟨l, (l.length : Int) - (agrL n.bs l p).length⟩).1 (votedS n b ⟨l, (l.length : Int) - (agrL n.bs l p).length + 1⟩).1 W
      rw [t4] at this
      exact this
  have hfi := Lib.hid fun (W : World) (A A' : Option Addr) (c c' : Nat) (h : NtIn n A c W) (h' : Sl cRd 4 W A' l) => c_FixIn n b l A A' c c' W h h' hll' (by omega)
  have hv0 := Lib.hid fun (W : World) (A A' : Option Addr) (c c' : Nat) (h : NtIn n A c W) (h' : Sl cRd 4 W A' l) => c_VotedIn n b ⟨l, 0⟩ A A' c c' W h h' hll' (by omega)
  have haS : ansS n b l = ansTo (ansAt n.bs b l) l.length := by rw [ansS, if_pos hw0]
  have han : Hid (∀ (W : World) (A A' : Option Addr) (c c' : Nat), NtIn n A c W → Sl cRd 4 W A' l → Calls Try.prog 39 #[vNt n.world (.slice A n.bs.length c), vBx b, .slice A' l.length c'] W (fun e w' => ∃ A2 c2, e = .returned (.tuple #[.slice A2 l.length c2, .int .i64 0]) ∧ Below W.heap.size W w' ∧ Sl cI 1 w' A2 (ansTo (ansAt n.bs b l) l.length))) := fun W A A' c c' h h' => by
    have := c_AnswersOf n b l A A' c c' W h h' hll' (by omega)
    rw [hw0, haS] at this
    refine this.mono fun x w' ⟨A2, c2, e, h1, h2⟩ => ⟨A2, c2, ?_, h1, own_sl h2⟩
    rw [e, ansTo_len]
  have haL : Hid (∀ k, k < l.length → (ansTo (ansAt n.bs b l) l.length)[k]? = some (ansAt n.bs b l k)) := fun k hk => by simp [ansTo, hk]
  have hel : Hid (∀ k, k < l.length → ∃ x, l[k]? = some x ∧ ∃ ob sz oe, (∀ (W : World) (A A' : Option Addr) (c c' : Nat), NtIn n A c W → Sl cRd 4 W A' [x] → Calls Try.prog 21 #[vNt n.world (.slice A n.bs.length c), vBx b, .slice A' 1 c'] W (Ret (.tuple #[vBx ob, .int .i64 sz, .int .i64 oe]) W))
      ∧ Hid (ansAt n.bs b l k = 2 → ob = b ∧ sz = (b.x.hi - b.x.lo + 1) * (b.y.hi - b.y.lo + 1) * (b.z.hi - b.z.lo + 1) ∧ oe = 0) ∧ Hid (ansAt n.bs b l k = 0 → oe = 12)) := fun k hk => by
    have hx : l[k]? = some (l[k]'hk) := List.getElem?_eq_getElem hk
    obtain ⟨a1, a2⟩ := ans_at h0 h1 hsz hx
    exact ⟨l[k]'hk, hx, _, _, _, fun W A A' c c' h h' => c_FixIn n b [l[k]'hk] A A' c c' W h h' (by simp) (by omega), fun h => by rw [a1 h]; exact ⟨rfl, rfl, rfl⟩, a2⟩
  obtain ⟨⟨q1, q2, q3⟩, ⟨q4, q5, q6⟩, ⟨q7, q8, q9⟩⟩ := hbo
  obtain ⟨p1, p2⟩ := mul_bd (a := b.x.hi - b.x.lo + 1) (b := b.y.hi - b.y.lo + 1) (m := 20001) (n := 20001) (by omega) (by omega) (by omega) (by omega)
  obtain ⟨p3, p4⟩ := mul_bd (a := (b.x.hi - b.x.lo + 1) * (b.y.hi - b.y.lo + 1)) (b := b.z.hi - b.z.lo + 1) (m := 400040001) (n := 20001) p1 p2 (by omega) (by omega)
  have Hl := Lib.hid hl
  obtain ⟨al, hal⟩ : ∃ k, (agrL n.bs l p).length = k := ⟨_, rfl⟩
  rw [hal] at hlen hag hv1 hc1 hin hcm2 fM
  have hall : al ≤ l.length := by omega
  clear hF hn hl h0 hre hlg hL hp hsz h1 hw0 hl8 hro hlen hok hae has t1 haS hal hll'
  generalize votedS n b ⟨l, (l.length : Int) - al⟩ = V1 at *
  generalize votedS n b ⟨l, (l.length : Int) - al + 1⟩ = V2 at *
  generalize votedS n b ⟨l, 0⟩ = V0 at *
  generalize ansTo (ansAt n.bs b l) l.length = aL at *
  generalize ansAt n.bs b l = aAt at *
  obtain ⟨v1b, v1k, v1e⟩ := V1
  obtain ⟨v2b, v2k, v2e⟩ := V2
  obtain ⟨v0b, v0k, v0e⟩ := V0
  dsimp only at hv1 hc1 hin hcm2 fM hfi hv0
  generalize n.bs.length = nl at *
  generalize l.length = rl at *
  go_enter Try.func9, Try.ntmps9
  go_upto_region 3 with (go_at_call 10; (with_reducible refine (r_awake _).mono ?_); rintro e w3 ⟨rfl, hb3⟩; replace hb3 := bl_tt hb3)
  apply absB3 (w0 := w) (g0 := w.heap.size) (g1 := w.heap.size + 1) (g2 := w.heap.size + 2)
  iterate 4 (focus ((with_reducible (repeat' (first | assumption | apply jA | apply jB | apply jC | apply jD | apply jE | apply jF | apply hb3 | apply jG | apply jH | apply jI | apply jJ | apply jK | apply hb3x | (apply jL; first | (simp; done) | rfl) | apply jM | apply jN | apply jO | apply jP | apply jQ | apply jR | apply jS | apply jT (hb := hb3 _ (jA _)) | omega | (simp; done) | (simp; omega) | (dsimp only; omega)))); done))
  intro wa hb0' k0' k1' k2'
  (try simp only [List.setIfInBounds_toArray, List.set_cons_zero, List.set_cons_succ] at k0' k1' k2')
  try clear hb3
  try clear hb0
  try clear k0
  try clear k1
  try clear k2
  have hb0 := hb0'; clear hb0'
  have k0 := k0'; clear k0'
  have k1 := k1'; clear k1'
  have k2 := k2'; clear k2'
  have Lk0 := k0.later
  have Fk0 := k0.laterF
  have Qk0 := k0.lt
  have Lk1 := k1.later
  have Fk1 := k1.laterF
  have Qk1 := k1.lt
  have Lk2 := k2.later
  have Fk2 := k2.laterF
  have Qk2 := k2.lt
  have hb3 := fun (w' : World) (h : Below w'.heap.size w' wa) => h
  have hv := hb3 wa (bl_refl wa)
  go_upto_region 5 with (first | (go_at_call 11; (with_reducible refine (hfw.out _).mono ?_); rintro e w3 ⟨rfl, hb4⟩; replace hb3 := fun w h => bl_tt hb4 w (hb3 w h); have hv := hb3 wa (bl_refl wa)) | (go_at_call 17; (with_reducible refine (hbe.out _ (bl_tr hb0 hv)).mono ?_); rintro e w3 ⟨rfl, hb4⟩; replace hb3 := fun w h => bl_tt hb4 w (hb3 w h); have hv := hb3 wa (bl_refl wa)) | (go_at_call 52; (with_reducible refine (hrd.out _ (bl_tr hb0 hv)).mono ?_); rintro e w3 ⟨rfl, hb4⟩; replace hb3 := fun w h => bl_tt hb4 w (hb3 w h); have hv := hb3 wa (bl_refl wa)) | (go_at_call 27; (with_reducible refine (hil.out _).mono ?_); rintro e w3 ⟨rfl, hb4⟩; replace hb3 := fun w h => bl_tt hb4 w (hb3 w h); have hv := hb3 wa (bl_refl wa)) | (go_at_call 20; (with_reducible refine (hli.out _ (bl_tr hb0 hv)).mono ?_); rintro e w3 ⟨rfl, hb4⟩; replace hb3 := fun w h => bl_tt hb4 w (hb3 w h); have hv := hb3 wa (bl_refl wa)) | (go_at_call 30; (with_reducible refine (hii.out _).mono ?_); rintro e w3 ⟨rfl, hb4⟩; replace hb3 := fun w h => bl_tt hb4 w (hb3 w h); have hv := hb3 wa (bl_refl wa)))
  apply absB3 (w0 := w) (g0 := w.heap.size) (g1 := w.heap.size + 1) (g2 := w.heap.size + 2)
  iterate 4 (focus ((with_reducible (repeat' (first | assumption | apply jA | apply jB | apply jC | apply jD | apply jE | apply jF | apply hb3 | apply jG | apply jH | apply jI | apply jJ | apply jK | apply hb3x | (apply jL; first | (simp; done) | rfl) | apply jM | apply jN | apply jO | apply jP | apply jQ | apply jR | apply jS | apply jT (hb := hb3 _ (jA _)) | omega | (simp; done) | (simp; omega) | (dsimp only; omega)))); done))
  intro wb hb0' k0' k1' k2'
  (try simp only [List.setIfInBounds_toArray, List.set_cons_zero, List.set_cons_succ] at k0' k1' k2')
  try clear hb3
  try clear Lk0
  try clear Fk0
  try clear Qk0
  try clear Lk1
  try clear Fk1
  try clear Qk1
  try clear Lk2
  try clear Fk2
  try clear Qk2
  try clear hb0
  try clear k0
  try clear k1
  try clear k2
  have hb0 := hb0'; clear hb0'
  have k0 := k0'; clear k0'
  have k1 := k1'; clear k1'
  have k2 := k2'; clear k2'
  have Lk0 := k0.later
  have Fk0 := k0.laterF
  have Qk0 := k0.lt
  have Lk1 := k1.later
  have Fk1 := k1.laterF
  have Qk1 := k1.lt
  have Lk2 := k2.later
  have Fk2 := k2.laterF
  have Qk2 := k2.lt
  refine wp_any (w0 := wb) ⟨[], [], [some 66, some 67, some 68, some 69, some 70, some 71, some 72, some 73, some 65, some 74, some 75, some 7, some 8], [[], [0], [], [2], [0, 1, 2, 3], [], [5], [0, 1, 2, 3, 4, 5, 6], [0, 1, 2, 3, 4, 5, 6, 7], [0, 1, 2, 3, 4, 5, 6, 7, 8], [0, 1, 2, 3, 4, 5, 6, 7, 8], [0, 1, 2, 3, 4, 5, 6, 7, 8, 9], [0, 1, 2, 3, 4, 5, 6, 7, 8, 9, 10, 11]], [[], [0], [], [2], [3], [], [5], [1, 4, 6], [1, 4, 7], [1, 4, 7, 8], [1, 4, 7, 8], [1, 4, 7, 9], [1, 4, 7, 10]]⟩ (fun _ => []) (by kernel_rfl) (by kernel_rfl) (by (with_reducible (repeat' (first | assumption | apply jA | apply jB | apply jC | apply jD | apply jE | apply jF | apply hb3 | omega | (simp; done) | (simp; omega) | (dsimp only; omega))))) (fun u => by simp only [putD, Act.put, List.setIfInBounds_toArray, List.set_cons_zero, List.set_cons_succ, Nat.zero_add, Nat.reduceAdd]; rfl) ?_
  apply RGW.on (i := 0) rfl
  · (simp only [gA, gB, gC] <;> rfl)
  · intro γ u W hcur hd
    clear hd
    (try dsimp only)
    refine ⟨rfl, ?_⟩
    go_simp <;> (try go_bits) <;> with_reducible rfl
  · exact fun _ _ _ => rfl
  · rfl
  dsimp only [nA, cA]
  apply RGW.gh (⟨fun γ => vNt n.world (.slice (γ 1).A nl (γ 1).c), fun γ W => NtIn n (γ 1).A (γ 1).c W, fun _ => []⟩) (i := 1) rfl
  · (simp only [gA, gB, gC] <;> rfl)
  · intro γ u W hcur hd
    obtain ⟨⟨h0, -, -⟩, -⟩ := hd
    dsimp only at h0
    (try simp only [h0])
    refine ⟨rfl, fun K hK => ?_⟩
    go_simp
    (go_at_call 13; (with_reducible refine (hcp.out _ (bl_tr hb0 hcur)).mono ?_); rintro e w3 ⟨Ax, cx, rfl, hb3, hox⟩; dsimp only; exact hK.out ⟨0, undef, Ax, cx⟩ _ _ (by simp [up]) hb3 (by simpa [up] using hox) (by simp))
  · intro γ γ' hg
    try dsimp only
    have e1 := hg 1 (by decide)
    simp only [e1]
    try exact ⟨trivial, fun _ h => h⟩
  · intro γ W W' hbl hR
    first | exact hR.below hbl | exact own_below hR hbl | exact trivial | exact ⟨hR.1.below hbl, hR.2⟩
  · rfl
  dsimp only [nA, cA]
  apply RGW.on (i := 2) rfl
  · (simp only [gA, gB, gC] <;> rfl)
  · intro γ u W hcur hd
    clear hd
    (try dsimp only)
    refine ⟨rfl, ?_⟩
    go_simp <;> (try go_bits) <;> with_reducible rfl
  · exact fun _ _ _ => rfl
  · rfl
  dsimp only [nA, cA]
  apply RGW.on (i := 3) rfl
  · (simp only [gA, gB, gC] <;> rfl)
  · intro γ u W hcur hd
    obtain ⟨⟨h2, -, -⟩, -⟩ := hd
    dsimp only at h2
    (try simp only [h2])
    refine ⟨rfl, ?_⟩
    go_simp <;> (try go_bits) <;> with_reducible rfl
  · exact fun _ _ _ => rfl
  · rfl
  dsimp only [nA, cA]
  apply RGW.gh (⟨fun γ => .slice (γ 4).A rl (γ 4).c, fun γ W => Sl cRd 4 W (γ 4).A l, fun _ => []⟩) (i := 4) rfl
  · (simp only [gA, gB, gC] <;> rfl)
  · intro γ u W hcur hd
    obtain ⟨⟨h3, -, -⟩, -⟩ := hd
    dsimp only at h3
    (try simp only [h3])
    refine ⟨rfl, fun K hK => ?_⟩
    go_simp
    (go_at_call 22; (with_reducible refine (hcr.out _ (bl_tr hb0 hcur)).mono ?_); rintro e w3 ⟨Ax, cx, rfl, hb3, hox⟩; dsimp only; exact hK.out ⟨0, undef, Ax, cx⟩ _ _ (by simp [up]) hb3 (by simpa [up] using hox) (by simp))
  · intro γ γ' hg
    try dsimp only
    have e1 := hg 1 (by decide)
    have e4 := hg 4 (by decide)
    simp only [e1, e4]
    try exact ⟨trivial, fun _ h => h⟩
  · intro γ W W' hbl hR
    first | exact hR.below hbl | exact own_below hR hbl | exact trivial | exact ⟨hR.1.below hbl, hR.2⟩
  · rfl
  dsimp only [nA, cA]
  apply RGW.on (i := 5) rfl
  · (simp only [gA, gB, gC] <;> rfl)
  · intro γ u W hcur hd
    clear hd
    (try dsimp only)
    refine ⟨rfl, ?_⟩
    go_simp <;> (try go_bits) <;> with_reducible rfl
  · exact fun _ _ _ => rfl
  · rfl
  dsimp only [nA, cA]
  apply RGW.on (i := 6) rfl
  · (simp only [gA, gB, gC] <;> rfl)
  · intro γ u W hcur hd
    obtain ⟨⟨h5, -, -⟩, -⟩ := hd
    dsimp only at h5
    (try simp only [h5])
    refine ⟨rfl, ?_⟩
    go_simp <;> (try go_bits) <;> with_reducible rfl
  · exact fun _ _ _ => rfl
  · rfl
  dsimp only [nA, cA]
  apply RGW.gh (⟨fun γ => .tuple #[.slice (γ 7).A al (γ 7).c, .int .i64 0], fun γ W => True, fun _ => []⟩) (i := 7) rfl
  · (simp only [gA, gB, gC] <;> rfl)
  · intro γ u W hcur hd
    obtain ⟨⟨h1, r1, -⟩, ⟨h4, r4, -⟩, ⟨h6, -, -⟩, -⟩ := hd
    dsimp only at h1 h4 h6 r1 r4
    (try simp only [h1, h4, h6])
    refine ⟨rfl, fun K hK => ?_⟩
    go_simp
    (go_at_call 38; (with_reducible refine (hag.out _ _ _ _ _ r1 r4).mono ?_); rintro e w3 ⟨Ax, cx, rfl, hb3⟩; dsimp only; exact hK.out ⟨0, undef, Ax, cx⟩ _ _ (by simp [up]) hb3 trivial (by simp))
  · intro γ γ' hg
    try dsimp only
    have e1 := hg 1 (by decide)
    have e4 := hg 4 (by decide)
    have e7 := hg 7 (by decide)
    simp only [e1, e4, e7]
    try exact ⟨trivial, fun _ h => h⟩
  · intro γ W W' hbl hR
    first | exact hR.below hbl | exact own_below hR hbl | exact trivial | exact ⟨hR.1.below hbl, hR.2⟩
  · rfl
  dsimp only [nA, cA]
  apply RGW.on (i := 8) rfl
  · (simp only [gA, gB, gC] <;> rfl)
  · intro γ u W hcur hd
    obtain ⟨⟨h1, r1, -⟩, ⟨h4, r4, -⟩, ⟨h7, r7, -⟩, -⟩ := hd
    dsimp only at h1 h4 h7 r1 r4 r7
    (try simp only [h1, h4, h7])
    refine ⟨rfl, ?_⟩
    go_simp <;> (try go_bits) <;> with_reducible rfl
  · intro γ γ' hg
    try dsimp only
    have e1 := hg 1 (by decide)
    have e4 := hg 4 (by decide)
    have e7 := hg 7 (by decide)
    simp only [e1, e4, e7]
  · rfl
  dsimp only [nA, cA]
  apply RGW.on (i := 9) rfl
  · (simp only [gA, gB, gC] <;> rfl)
  · intro γ u W hcur hd
    obtain ⟨⟨h1, r1, -⟩, ⟨h4, r4, -⟩, ⟨h7, r7, -⟩, ⟨h8, -, -⟩, -⟩ := hd
    dsimp only at h1 h4 h7 h8 r1 r4 r7
    (try simp only [h1, h4, h7, h8])
    refine ⟨rfl, ?_⟩
    go_simp <;> (try go_bits) <;> with_reducible rfl
  · intro γ γ' hg
    try dsimp only
    have e1 := hg 1 (by decide)
    have e4 := hg 4 (by decide)
    have e7 := hg 7 (by decide)
    simp only [e1, e4, e7]
  · rfl
  dsimp only [nA, cA]
  apply RGW.on (i := 10) rfl
  · (simp only [gA, gB, gC] <;> rfl)
  · intro γ u W hcur hd
    obtain ⟨⟨h1, r1, -⟩, ⟨h4, r4, -⟩, ⟨h7, r7, -⟩, ⟨h8, -, -⟩, -⟩ := hd
    dsimp only at h1 h4 h7 h8 r1 r4 r7
    (try simp only [h1, h4, h7, h8])
    refine ⟨rfl, ?_⟩
    go_simp <;> (try go_bits) <;> with_reducible rfl
  · exact fun _ _ _ => rfl
  · rfl
  dsimp only [nA, cA]
  apply RGW.on (i := 11) rfl
  · (simp only [gA, gB, gC] <;> rfl)
  · intro γ u W hcur hd
    obtain ⟨⟨h1, r1, -⟩, ⟨h4, r4, -⟩, ⟨h7, r7, -⟩, ⟨h9, -, -⟩, -⟩ := hd
    dsimp only at h1 h4 h7 h9 r1 r4 r7
    (try simp only [h1, h4, h7, h9])
    refine ⟨rfl, ?_⟩
    go_simp <;> (try go_bits) <;> with_reducible rfl
  · intro γ γ' hg
    try dsimp only
    have e1 := hg 1 (by decide)
    have e4 := hg 4 (by decide)
    have e7 := hg 7 (by decide)
    simp only [e1, e4, e7]
  · rfl
  dsimp only [nA, cA]
  apply RGW.on (i := 12) rfl
  · (simp only [gA, gB, gC] <;> rfl)
  · intro γ u W hcur hd
    obtain ⟨⟨h1, r1, -⟩, ⟨h4, r4, -⟩, ⟨h7, r7, -⟩, ⟨h10, -, -⟩, -⟩ := hd
    dsimp only at h1 h4 h7 h10 r1 r4 r7
    (try simp only [h1, h4, h7, h10])
    refine ⟨rfl, ?_⟩
    go_simp <;> (try go_bits) <;> with_reducible rfl
  · exact fun _ _ _ => rfl
  · rfl
  dsimp only [nA, cA]
  refine RGW.fin (fun γ u wc hwc hd hdis => ?_)
  obtain ⟨⟨h0, -, -⟩, ⟨h1, r1, b1⟩, ⟨h2, -, -⟩, ⟨h3, -, -⟩, ⟨h4, r4, b4⟩, ⟨h5, -, -⟩, ⟨h6, -, -⟩, ⟨h7, r7, b7⟩, ⟨h8, -, -⟩, ⟨h9, -, -⟩, ⟨h10, -, -⟩, ⟨h11, -, -⟩, ⟨h12, -, -⟩, -⟩ := hd
  dsimp only at h0 h1 h2 h3 h4 h5 h6 h7 h8 h9 h10 h11 h12 r1 r4 r7 b1 b4 b7
  clear hdis
  simp only [h0, h1, h2, h3, h4, h5, h6, h7, h8, h9, h10, h11, h12]
  clear h12 h11 h10 h9 h8 h7 h6 h5 h4 h3 h2 h1 h0
  clear u
  simp only [List.map_nil]
  refine PlanW.done ?_
  have hb3 := bl_tt hwc
  clear r1 r4 r7
  apply absTB3 (w0 := w) (g0 := w.heap.size) (g1 := w.heap.size + 1) (g2 := w.heap.size + 2)
  iterate 4 (focus ((with_reducible (repeat' (first | assumption | apply jA | apply jB | apply jC | apply jD | apply jE | apply jF | apply hb3 | apply jG | apply jH | apply jI | apply jJ | apply jK | apply hb3x | (apply jL; first | (simp; done) | rfl) | apply jM | apply jN | apply jO | apply jP | apply jQ | apply jR | apply jS | apply jT (hb := hb3 _ (jA _)) | omega | (simp; done) | (simp; omega) | (dsimp only; omega)))); done))
  intro wd hb0' k0' k1' k2'
  (try simp only [List.setIfInBounds_toArray, List.set_cons_zero, List.set_cons_succ] at k0' k1' k2')
  try clear hb3
  try clear Lk0
  try clear Fk0
  try clear Qk0
  try clear Lk1
  try clear Fk1
  try clear Qk1
  try clear Lk2
  try clear Fk2
  try clear Qk2
  try clear hb0
  try clear k0
  try clear k1
  try clear k2
  have hb0 := hb0'; clear hb0'
  have k0 := k0'; clear k0'
  have k1 := k1'; clear k1'
  have k2 := k2'; clear k2'
  have Lk0 := k0.later
  have Fk0 := k0.laterF
  have Qk0 := k0.lt
  have Lk1 := k1.later
  have Fk1 := k1.laterF
  have Qk1 := k1.lt
  have Lk2 := k2.later
  have Fk2 := k2.laterF
  have Qk2 := k2.lt
  have hgt : decide (rl < al) = false := by simp; omega
  go_upto_region 9 with fail
  refine wp_any (w0 := wd) ⟨[14, 15, 16], [11, 12], [some 93, some 94, some 95, some 96, some 97, some 98, some 99, some 100, some 101, some 92, some 102, some 103, some 104, some 10, none, none, none], [[], [0], [], [], [3], [0, 1, 3, 4], [], [0, 1, 3, 4, 5, 6], [0, 1, 2, 3, 4, 5, 6, 7], [0, 1, 2, 3, 4, 5, 6, 7, 8], [0, 1, 2, 3, 4, 5, 6, 7, 8, 9], [0, 1, 2, 3, 4, 5, 6, 7, 8, 9], [0, 1, 2, 3, 4, 5, 6, 7, 8, 9], [], [0, 1, 2, 3, 4, 5, 6, 7, 8, 9, 10, 13], [0, 1, 2, 3, 4, 5, 6, 7, 8, 9, 10, 11, 13, 14], [0, 1, 2, 3, 4, 5, 6, 7, 8, 9, 10, 11, 12, 13, 14, 15]], [[], [0], [], [], [3], [4], [], [5, 6], [1, 2, 5, 7], [1, 5, 8], [1, 5, 9], [1, 5, 9], [1, 5, 9], [], [], [], []]⟩ (fun γ => [(γ 13).n]) (by kernel_rfl) (by kernel_rfl) (by (with_reducible (repeat' (first | assumption | apply jA | apply jB | apply jC | apply jD | apply jE | apply jF | apply hb3 | omega | (simp; done) | (simp; omega) | (dsimp only; omega))))) (fun u => by simp only [putD, Act.put, List.setIfInBounds_toArray, List.set_cons_zero, List.set_cons_succ, Nat.zero_add, Nat.reduceAdd]; rfl) ?_
  apply RGW.on (i := 0) rfl
  · (simp only [gA, gB, gC] <;> rfl)
  · intro γ u W hcur hd
    clear hd
    (try dsimp only)
    refine ⟨rfl, ?_⟩
    go_simp <;> (try go_bits) <;> with_reducible rfl
  · exact fun _ _ _ => rfl
  · rfl
  dsimp only [nA, cA]
  apply RGW.gh (⟨fun γ => vNt n.world (.slice (γ 1).A nl (γ 1).c), fun γ W => NtIn n (γ 1).A (γ 1).c W, fun _ => []⟩) (i := 1) rfl
  · (simp only [gA, gB, gC] <;> rfl)
  · intro γ u W hcur hd
    obtain ⟨⟨h0, -, -⟩, -⟩ := hd
    dsimp only at h0
    (try simp only [h0])
    refine ⟨rfl, fun K hK => ?_⟩
    go_simp
    (go_at_call 13; (with_reducible refine (hcp.out _ (bl_tr hb0 hcur)).mono ?_); rintro e w3 ⟨Ax, cx, rfl, hb3, hox⟩; dsimp only; exact hK.out ⟨0, undef, Ax, cx⟩ _ _ (by simp [up]) hb3 (by simpa [up] using hox) (by simp))
  · intro γ γ' hg
    try dsimp only
    have e1 := hg 1 (by decide)
    simp only [e1]
    try exact ⟨trivial, fun _ h => h⟩
  · intro γ W W' hbl hR
    first | exact hR.below hbl | exact own_below hR hbl | exact trivial | exact ⟨hR.1.below hbl, hR.2⟩
  · rfl
  dsimp only [nA, cA]
  apply RGW.on (i := 2) rfl
  · (simp only [gA, gB, gC] <;> rfl)
  · intro γ u W hcur hd
    clear hd
    (try dsimp only)
    refine ⟨rfl, ?_⟩
    go_simp <;> (try go_bits) <;> with_reducible rfl
  · exact fun _ _ _ => rfl
  · rfl
  dsimp only [nA, cA]
  apply RGW.on (i := 3) rfl
  · (simp only [gA, gB, gC] <;> rfl)
  · intro γ u W hcur hd
    clear hd
    (try dsimp only)
    refine ⟨rfl, ?_⟩
    go_simp <;> (try go_bits) <;> with_reducible rfl
  · exact fun _ _ _ => rfl
  · rfl
  dsimp only [nA, cA]
  apply RGW.on (i := 4) rfl
  · (simp only [gA, gB, gC] <;> rfl)
  · intro γ u W hcur hd
    obtain ⟨⟨h3, -, -⟩, -⟩ := hd
    dsimp only at h3
    (try simp only [h3])
    refine ⟨rfl, ?_⟩
    go_simp <;> (try go_bits) <;> with_reducible rfl
  · exact fun _ _ _ => rfl
  · rfl
  dsimp only [nA, cA]
  apply RGW.gh (⟨fun γ => .slice (γ 5).A rl (γ 5).c, fun γ W => Sl cRd 4 W (γ 5).A l, fun _ => []⟩) (i := 5) rfl
  · (simp only [gA, gB, gC] <;> rfl)
  · intro γ u W hcur hd
    obtain ⟨⟨h4, -, -⟩, -⟩ := hd
    dsimp only at h4
    (try simp only [h4])
    refine ⟨rfl, fun K hK => ?_⟩
    go_simp
    (go_at_call 22; (with_reducible refine (hcr.out _ (bl_tr hb0 hcur)).mono ?_); rintro e w3 ⟨Ax, cx, rfl, hb3, hox⟩; dsimp only; exact hK.out ⟨0, undef, Ax, cx⟩ _ _ (by simp [up]) hb3 (by simpa [up] using hox) (by simp))
  · intro γ γ' hg
    try dsimp only
    have e1 := hg 1 (by decide)
    have e5 := hg 5 (by decide)
    simp only [e1, e5]
    try exact ⟨trivial, fun _ h => h⟩
  · intro γ W W' hbl hR
    first | exact hR.below hbl | exact own_below hR hbl | exact trivial | exact ⟨hR.1.below hbl, hR.2⟩
  · rfl
  dsimp only [nA, cA]
  apply RGW.on (i := 6) rfl
  · (simp only [gA, gB, gC] <;> rfl)
  · intro γ u W hcur hd
    clear hd
    (try dsimp only)
    refine ⟨rfl, ?_⟩
    go_simp <;> (try go_bits) <;> with_reducible rfl
  · exact fun _ _ _ => rfl
  · rfl
  dsimp only [nA, cA]
  apply RGW.on (i := 7) rfl
  · (simp only [gA, gB, gC] <;> rfl)
  · intro γ u W hcur hd
    obtain ⟨⟨h5, r5, -⟩, ⟨h6, -, -⟩, -⟩ := hd
    dsimp only at h5 h6 r5
    (try simp only [h5, h6])
    refine ⟨rfl, ?_⟩
    go_simp <;> (try go_bits) <;> with_reducible rfl
  · intro γ γ' hg
    try dsimp only
    have e1 := hg 1 (by decide)
    have e5 := hg 5 (by decide)
    simp only [e1, e5]
  · rfl
  dsimp only [nA, cA]
  apply RGW.call (i := 8) rfl
  · (simp only [gA, gB, gC] <;> rfl)
  · intro γ u W hcur hd
    obtain ⟨⟨h1, r1, -⟩, ⟨h2, -, -⟩, ⟨h5, r5, -⟩, ⟨h7, -, -⟩, -⟩ := hd
    dsimp only at h1 h2 h5 h7 r1 r5
    (try simp only [h1, h2, h5, h7])
    refine ⟨rfl, fun K hK => ?_⟩
    go_simp
    (go_at_call 23; (with_reducible refine (hv1.out _ _ _ _ _ r1 r5).mono ?_); rintro e w3 ⟨rfl, hb3⟩; replace hb3 := bl_tt hb3)
    (try dsimp only)
    exact hK.out _ _ rfl (by (with_reducible (repeat' (first | assumption | apply jA | apply jB | apply jC | apply jD | apply jE | apply jF | apply hb3 | omega | (simp; done) | (simp; omega) | (dsimp only; omega)))))
  · exact fun _ _ _ => rfl
  · rfl
  dsimp only [nA, cA]
  apply RGW.on (i := 9) rfl
  · (simp only [gA, gB, gC] <;> rfl)
  · intro γ u W hcur hd
    obtain ⟨⟨h1, r1, -⟩, ⟨h5, r5, -⟩, ⟨h8, -, -⟩, -⟩ := hd
    dsimp only at h1 h5 h8 r1 r5
    (try simp only [h1, h5, h8])
    refine ⟨rfl, ?_⟩
    go_simp <;> (try go_bits) <;> with_reducible rfl
  · exact fun _ _ _ => rfl
  · rfl
  dsimp only [nA, cA]
  apply RGW.on (i := 10) rfl
  · (simp only [gA, gB, gC] <;> rfl)
  · intro γ u W hcur hd
    obtain ⟨⟨h1, r1, -⟩, ⟨h5, r5, -⟩, ⟨h9, -, -⟩, -⟩ := hd
    dsimp only at h1 h5 h9 r1 r5
    (try simp only [h1, h5, h9])
    refine ⟨rfl, ?_⟩
    go_simp <;> (try go_bits) <;> with_reducible rfl
  · exact fun _ _ _ => rfl
  · rfl
  dsimp only [nA, cA]
  apply RGW.onL (i := 11) rfl
  · (simp only [gA, gB, gC] <;> rfl)
  · intro γ u Wm W hcur hd hX
    obtain ⟨⟨h1, r1, -⟩, ⟨h5, r5, -⟩, ⟨h9, -, -⟩, -⟩ := hd
    dsimp only at h1 h5 h9 r1 r5
    (try simp only [h1, h5, h9])
    refine ⟨rfl, ?_⟩
    go_simp <;> (try go_bits) <;> with_reducible rfl
  · exact fun _ _ _ => rfl
  dsimp only [nA, cA]
  apply RGW.onL (i := 12) rfl
  · (simp only [gA, gB, gC] <;> rfl)
  · intro γ u Wm W hcur hd hX
    obtain ⟨⟨h1, r1, -⟩, ⟨h5, r5, -⟩, ⟨h9, -, -⟩, -⟩ := hd
    dsimp only at h1 h5 h9 r1 r5
    (try simp only [h1, h5, h9])
    refine ⟨rfl, ?_⟩
    go_simp <;> (try go_bits) <;> with_reducible rfl
  · exact fun _ _ _ => rfl
  dsimp only [nA, cA]
  apply RGW.alloc (i := 13) rfl
  · (simp only [gA, gB, gC] <;> rfl)
  · intro γ u W hcur hd
    clear hd
    (try dsimp only)
    refine ⟨rfl, fun K hK => ?_⟩
    go_simp
    exact hK.out _ _ rfl rfl
  · exact fun _ _ _ => rfl
  · rfl
  · rfl
  dsimp only [nA, cA]
  refine RGW.skip (i := 14) rfl rfl ?_
  dsimp only [nA, cA]
  refine RGW.skip (i := 15) rfl rfl ?_
  dsimp only [nA, cA]
  refine RGW.skip (i := 16) rfl rfl ?_
  dsimp only [nA, cA]
  refine RGW.fin (fun γ u we hwe hd hdis => ?_)
  obtain ⟨⟨h0, -, -⟩, ⟨h1, r1, b1⟩, ⟨h2, -, -⟩, ⟨h3, -, -⟩, ⟨h4, -, -⟩, ⟨h5, r5, b5⟩, ⟨h6, -, -⟩, ⟨h7, -, -⟩, ⟨h8, -, -⟩, ⟨h9, -, -⟩, ⟨h10, -, -⟩, ⟨h11, -, -⟩, ⟨h12, -, -⟩, ⟨h13, r13, b13⟩, -⟩ := hd
  dsimp only at h0 h1 h2 h3 h4 h5 h6 h7 h8 h9 h10 h11 h12 h13 r1 r5 r13 b1 b5 b13
  clear hdis
  simp only [h0, h1, h2, h3, h4, h5, h6, h7, h8, h9, h10, h11, h12, h13]
  clear h13 h12 h11 h10 h9 h8 h7 h6 h5 h4 h3 h2 h1 h0
  replace b13 := b13 _ (List.mem_singleton.2 rfl)
  generalize hγ13 : (γ 13).n = g13 at *
  clear hγ13
  clear u
  simp only [List.map_cons, List.map_nil]
  apply PlanW.step
  · (simp only [gA, gB, gC] <;> rfl)
  · rfl
  intro K hK
  refine wp_store_keep (X := [g13]) (w0 := we) rfl rfl rfl (by with_reducible first | exact bx_refl _ _ | assumption) (by with_reducible first | assumption | (apply Blk.below (hb := hwe); assumption)) (by simp) (by kernel_rfl) (by rfl) (by simp [Value.oneCell']) (fun hres1 hcur => ?_)
  refine hK.out _ _ hcur (fun _ => ?_)
  clear hK K
  try simp only [Act.put, List.setIfInBounds_toArray, List.set_cons_zero, List.set_cons_succ]
  apply PlanW.step
  · (simp only [gA, gB, gC] <;> rfl)
  · rfl
  intro K hK
  go_simp
  refine hK.out _ _ (by (with_reducible (repeat' (first | assumption | apply jG | apply jH | apply jI | apply jJ | apply jK | apply hb3x | omega | (simp; done) | (simp; omega) | (dsimp only; omega))))) (fun hcur => ?_)
  clear hK K
  try simp only [Act.put, List.setIfInBounds_toArray, List.set_cons_zero, List.set_cons_succ]
  apply PlanW.step
  · (simp only [gA, gB, gC] <;> rfl)
  · rfl
  intro K hK
  go_simp
  refine hK.out _ _ (by (with_reducible (repeat' (first | assumption | apply jG | apply jH | apply jI | apply jJ | apply jK | apply hb3x | omega | (simp; done) | (simp; omega) | (dsimp only; omega))))) (fun hcur => ?_)
  clear hK K
  try simp only [Act.put, List.setIfInBounds_toArray, List.set_cons_zero, List.set_cons_succ]
  refine PlanW.done ?_
  have hb3 := bl_tt hwe
  clear r1 r5
  generalize g13 = gv at *
  apply absTB4 (w0 := w) (g0 := w.heap.size) (g1 := w.heap.size + 1) (g2 := w.heap.size + 2) (g3 := gv)
  iterate 5 (focus ((with_reducible (repeat' (first | assumption | apply jA | apply jB | apply jC | apply jD | apply jE | apply jF | apply hb3 | apply jG | apply jH | apply jI | apply jJ | apply jK | apply hb3x | (apply jL; first | (simp; done) | rfl) | apply jM | apply jN | apply jO | apply jP | apply jQ | apply jR | apply jS | apply jT (hb := hb3 _ (jA _)) | omega | (simp; done) | (simp; omega) | (dsimp only; omega)))); done))
  intro we2 hb0' k0' k1' k2' k3'
  (try simp only [List.setIfInBounds_toArray, List.set_cons_zero, List.set_cons_succ] at k0' k1' k2' k3')
  try clear hb3
  try clear Lk0
  try clear Fk0
  try clear Qk0
  try clear Lk1
  try clear Fk1
  try clear Qk1
  try clear Lk2
  try clear Fk2
  try clear Qk2
  try clear hb0
  try clear k0
  try clear k1
  try clear k2
  try clear k3
  have hb0 := hb0'; clear hb0'
  have k0 := k0'; clear k0'
  have k1 := k1'; clear k1'
  have k2 := k2'; clear k2'
  have k3 := k3'; clear k3'
  have Lk0 := k0.later
  have Fk0 := k0.laterF
  have Qk0 := k0.lt
  have Lk1 := k1.later
  have Fk1 := k1.laterF
  have Qk1 := k1.lt
  have Lk2 := k2.later
  have Fk2 := k2.laterF
  have Qk2 := k2.lt
  have Lk3 := k3.later
  have Fk3 := k3.laterF
  have Qk3 := k3.lt
  go_upto_region 10 with fail
  refine wp_any (w0 := we2) ⟨[], [], [some 105, some 106, some 107, some 108, some 109, some 110, some 111, some 112, some 113, some 114, some 115, some 116, some 117, some 118, some 119, some 120, some 121, some 122, some 123, some 124], [[], [0], [0, 1], [0, 1, 2], [0, 1, 2, 3], [0, 1, 2, 3, 4], [0, 1, 2, 3, 4, 5], [0, 1, 2, 3, 4, 5, 6], [0, 1, 2, 3, 4, 5, 6], [0, 1, 2, 3, 4, 5, 6, 8], [0, 1, 2, 3, 4, 5, 6, 7, 8, 9], [0, 1, 2, 3, 4, 5, 6, 7, 8, 9, 10], [0, 1, 2, 3, 4, 5, 6, 7, 8, 9, 10, 11], [0, 1, 2, 3, 4, 5, 6, 7, 8, 9, 10, 11, 12], [0, 1, 2, 3, 4, 5, 6, 7, 8, 9, 10, 11, 12, 13], [0, 1, 2, 3, 4, 5, 6, 7, 8, 9, 10, 11, 12, 13], [0, 1, 2, 3, 4, 5, 6, 7, 8, 9, 10, 11, 12, 13, 14, 15], [0, 1, 2, 3, 4, 5, 6, 7, 8, 9, 10, 11, 12, 13], [0, 1, 2, 3, 4, 5, 6, 7, 8, 9, 10, 11, 12, 13, 14, 15, 16, 17], [0, 1, 2, 3, 4, 5, 6, 7, 8, 9, 10, 11, 12, 13, 14, 15, 16, 17, 18]], [[], [0], [1], [2], [2, 3], [2, 4], [5], [6], [6], [6, 8], [6, 7, 9], [6, 10], [6, 11], [12], [13], [13], [13, 14, 15], [13], [13, 16, 17], [13, 18]]⟩ (fun _ => []) (by kernel_rfl) (by kernel_rfl) (by (with_reducible (repeat' (first | assumption | apply jA | apply jB | apply jC | apply jD | apply jE | apply jF | apply hb3 | omega | (simp; done) | (simp; omega) | (dsimp only; omega))))) (fun u => by simp only [putD, Act.put, List.setIfInBounds_toArray, List.set_cons_zero, List.set_cons_succ, Nat.zero_add, Nat.reduceAdd]; rfl) ?_
  apply RGW.on (i := 0) rfl
  · (simp only [gA, gB, gC] <;> rfl)
  · intro γ u W hcur hd
    clear hd
    (try dsimp only)
    refine ⟨rfl, ?_⟩
    go_simp <;> (try go_bits) <;> with_reducible rfl
  · exact fun _ _ _ => rfl
  · rfl
  dsimp only [nA, cA]
  apply RGW.on (i := 1) rfl
  · (simp only [gA, gB, gC] <;> rfl)
  · intro γ u W hcur hd
    obtain ⟨⟨h0, -, -⟩, -⟩ := hd
    dsimp only at h0
    (try simp only [h0])
    refine ⟨rfl, ?_⟩
    go_simp <;> (try go_bits) <;> with_reducible rfl
  · exact fun _ _ _ => rfl
  · rfl
  dsimp only [nA, cA]
  apply RGW.on (i := 2) rfl
  · (simp only [gA, gB, gC] <;> rfl)
  · intro γ u W hcur hd
    obtain ⟨⟨h1, -, -⟩, -⟩ := hd
    dsimp only at h1
    (try simp only [h1])
    refine ⟨rfl, ?_⟩
    go_simp <;> (try go_bits) <;> with_reducible rfl
  · exact fun _ _ _ => rfl
  · rfl
  dsimp only [nA, cA]
  apply RGW.on (i := 3) rfl
  · (simp only [gA, gB, gC] <;> rfl)
  · intro γ u W hcur hd
    obtain ⟨⟨h2, -, -⟩, -⟩ := hd
    dsimp only at h2
    (try simp only [h2])
    refine ⟨?_, ?_⟩
    · (simp [Region.wanted, yielded, undef, *]; done)
    go_simp <;> (try go_bits) <;> with_reducible rfl
  · exact fun _ _ _ => rfl
  · rfl
  dsimp only [nA, cA]
  apply RGW.on (i := 4) rfl
  · (simp only [gA, gB, gC] <;> rfl)
  · intro γ u W hcur hd
    obtain ⟨⟨h2, -, -⟩, ⟨h3, -, -⟩, -⟩ := hd
    dsimp only at h2 h3
    (try simp only [h2, h3])
    refine ⟨?_, ?_⟩
    · (simp [Region.wanted, yielded, undef, *]; done)
    go_simp <;> (try go_bits) <;> with_reducible rfl
  · exact fun _ _ _ => rfl
  · rfl
  dsimp only [nA, cA]
  apply RGW.on (i := 5) rfl
  · (simp only [gA, gB, gC] <;> rfl)
  · intro γ u W hcur hd
    obtain ⟨⟨h2, -, -⟩, ⟨h4, -, -⟩, -⟩ := hd
    dsimp only at h2 h4
    (try simp only [h2, h4])
    refine ⟨rfl, ?_⟩
    go_simp <;> (try go_bits) <;> with_reducible rfl
  · exact fun _ _ _ => rfl
  · rfl
  dsimp only [nA, cA]
  apply RGW.on (i := 6) rfl
  · (simp only [gA, gB, gC] <;> rfl)
  · intro γ u W hcur hd
    obtain ⟨⟨h5, -, -⟩, -⟩ := hd
    dsimp only at h5
    (try simp only [h5])
    refine ⟨rfl, ?_⟩
    go_simp <;> (try go_bits) <;> with_reducible rfl
  · exact fun _ _ _ => rfl
  · rfl
  dsimp only [nA, cA]
  apply RGW.on (i := 7) rfl
  · (simp only [gA, gB, gC] <;> rfl)
  · intro γ u W hcur hd
    obtain ⟨⟨h6, -, -⟩, -⟩ := hd
    dsimp only at h6
    (try simp only [h6])
    refine ⟨?_, ?_⟩
    · (simp [Region.wanted, yielded, undef, *]; done)
    go_simp <;> (try go_bits) <;> with_reducible rfl
  · exact fun _ _ _ => rfl
  · rfl
  dsimp only [nA, cA]
  apply RGW.on (i := 8) rfl
  · (simp only [gA, gB, gC] <;> rfl)
  · intro γ u W hcur hd
    obtain ⟨⟨h6, -, -⟩, -⟩ := hd
    dsimp only at h6
    (try simp only [h6])
    refine ⟨?_, ?_⟩
    · (simp [Region.wanted, yielded, undef, *]; done)
    go_simp <;> (try go_bits) <;> with_reducible rfl
  · exact fun _ _ _ => rfl
  · rfl
  dsimp only [nA, cA]
  apply RGW.on (i := 9) rfl
  · (simp only [gA, gB, gC] <;> rfl)
  · intro γ u W hcur hd
    obtain ⟨⟨h6, -, -⟩, ⟨h8, -, -⟩, -⟩ := hd
    dsimp only at h6 h8
    (try simp only [h6, h8])
    refine ⟨?_, ?_⟩
    · (simp [Region.wanted, yielded, undef, *]; done)
    go_simp <;> (try go_bits) <;> with_reducible rfl
  · exact fun _ _ _ => rfl
  · rfl
  dsimp only [nA, cA]
  apply RGW.call (i := 10) rfl
  · (simp only [gA, gB, gC] <;> rfl)
  · intro γ u W hcur hd
    obtain ⟨⟨h6, -, -⟩, ⟨h7, -, -⟩, ⟨h9, -, -⟩, -⟩ := hd
    dsimp only at h6 h7 h9
    (try simp only [h6, h7, h9])
    refine ⟨?_, fun K hK => ?_⟩
    · (simp [Region.wanted, yielded, undef, *]; done)
    go_simp
    (go_at_call 30; (with_reducible refine (hin.out _).mono ?_); rintro e w3 ⟨rfl, hb3⟩; replace hb3 := bl_tt hb3)
    (try dsimp only)
    exact hK.out _ _ rfl (by (with_reducible (repeat' (first | assumption | apply jA | apply jB | apply jC | apply jD | apply jE | apply jF | apply hb3 | omega | (simp; done) | (simp; omega) | (dsimp only; omega)))))
  · exact fun _ _ _ => rfl
  · rfl
  dsimp only [nA, cA]
  apply RGW.on (i := 11) rfl
  · (simp only [gA, gB, gC] <;> rfl)
  · intro γ u W hcur hd
    obtain ⟨⟨h6, -, -⟩, ⟨h10, -, -⟩, -⟩ := hd
    dsimp only at h6 h10
    (try simp only [h6, h10])
    refine ⟨?_, ?_⟩
    · (simp [Region.wanted, yielded, undef, *]; done)
    go_simp <;> (try go_bits) <;> with_reducible rfl
  · exact fun _ _ _ => rfl
  · rfl
  dsimp only [nA, cA]
  apply RGW.on (i := 12) rfl
  · (simp only [gA, gB, gC] <;> rfl)
  · intro γ u W hcur hd
    obtain ⟨⟨h6, -, -⟩, ⟨h11, -, -⟩, -⟩ := hd
    dsimp only at h6 h11
    (try simp only [h6, h11])
    refine ⟨rfl, ?_⟩
    go_simp <;> (try go_bits) <;> with_reducible rfl
  · exact fun _ _ _ => rfl
  · rfl
  dsimp only [nA, cA]
  apply RGW.on (i := 13) rfl
  · (simp only [gA, gB, gC] <;> rfl)
  · intro γ u W hcur hd
    obtain ⟨⟨h12, -, -⟩, -⟩ := hd
    dsimp only at h12
    (try simp only [h12])
    refine ⟨rfl, ?_⟩
    go_simp <;> (try go_bits) <;> with_reducible rfl
  · exact fun _ _ _ => rfl
  · rfl
  dsimp only [nA, cA]
  apply RGW.on (i := 14) rfl
  · (simp only [gA, gB, gC] <;> rfl)
  · intro γ u W hcur hd
    obtain ⟨⟨h13, -, -⟩, -⟩ := hd
    dsimp only at h13
    (try simp only [h13])
    refine ⟨?_, ?_⟩
    · (simp [Region.wanted, yielded, undef, *]; done)
    go_simp <;> (try go_bits) <;> with_reducible rfl
  · exact fun _ _ _ => rfl
  · rfl
  dsimp only [nA, cA]
  apply RGW.on (i := 15) rfl
  · (simp only [gA, gB, gC] <;> rfl)
  · intro γ u W hcur hd
    obtain ⟨⟨h13, -, -⟩, -⟩ := hd
    dsimp only at h13
    (try simp only [h13])
    refine ⟨?_, ?_⟩
    · (simp [Region.wanted, yielded, undef, *]; done)
    go_simp <;> (try go_bits) <;> with_reducible rfl
  · exact fun _ _ _ => rfl
  · rfl
  dsimp only [nA, cA]
  apply RGW.call (i := 16) rfl
  · (simp only [gA, gB, gC] <;> rfl)
  · intro γ u W hcur hd
    obtain ⟨⟨h13, -, -⟩, ⟨h14, -, -⟩, ⟨h15, -, -⟩, -⟩ := hd
    dsimp only at h13 h14 h15
    (try simp only [h13, h14, h15])
    refine ⟨?_, fun K hK => ?_⟩
    · (simp [Region.wanted, yielded, undef, *]; done)
    go_simp
    (go_at_call 53; (with_reducible refine (hcm2.out _).mono ?_); rintro e w3 ⟨rfl, hb3⟩; replace hb3 := bl_tt hb3)
    (try dsimp only)
    exact hK.out _ _ rfl (by (with_reducible (repeat' (first | assumption | apply jA | apply jB | apply jC | apply jD | apply jE | apply jF | apply hb3 | omega | (simp; done) | (simp; omega) | (dsimp only; omega)))))
  · exact fun _ _ _ => rfl
  · rfl
  dsimp only [nA, cA]
  apply RGW.on (i := 17) rfl
  · (simp only [gA, gB, gC] <;> rfl)
  · intro γ u W hcur hd
    obtain ⟨⟨h13, -, -⟩, -⟩ := hd
    dsimp only at h13
    (try simp only [h13])
    refine ⟨?_, ?_⟩
    · (simp [Region.wanted, yielded, undef, *]; done)
    go_simp <;> (try go_bits) <;> with_reducible rfl
  · exact fun _ _ _ => rfl
  · rfl
  dsimp only [nA, cA]
  apply RGW.on (i := 18) rfl
  · (simp only [gA, gB, gC] <;> rfl)
  · intro γ u W hcur hd
    obtain ⟨⟨h13, -, -⟩, ⟨h16, -, -⟩, ⟨h17, -, -⟩, -⟩ := hd
    dsimp only at h13 h16 h17
    (try simp only [h13, h16, h17])
    refine ⟨?_, ?_⟩
    · (simp [Region.wanted, yielded, undef, *]; done)
    go_simp <;> (try go_bits) <;> with_reducible rfl
  · exact fun _ _ _ => rfl
  · rfl
  dsimp only [nA, cA]
  apply RGW.on (i := 19) rfl
  · (simp only [gA, gB, gC] <;> rfl)
  · intro γ u W hcur hd
    obtain ⟨⟨h13, -, -⟩, ⟨h18, -, -⟩, -⟩ := hd
    dsimp only at h13 h18
    (try simp only [h13, h18])
    refine ⟨rfl, ?_⟩
    go_simp <;> (try go_bits) <;> with_reducible rfl
  · exact fun _ _ _ => rfl
  · rfl
  dsimp only [nA, cA]
  refine RGW.fin (fun γ u wf hwf hd hdis => ?_)
  obtain ⟨⟨h0, -, -⟩, ⟨h1, -, -⟩, ⟨h2, -, -⟩, ⟨h3, -, -⟩, ⟨h4, -, -⟩, ⟨h5, -, -⟩, ⟨h6, -, -⟩, ⟨h7, -, -⟩, ⟨h8, -, -⟩, ⟨h9, -, -⟩, ⟨h10, -, -⟩, ⟨h11, -, -⟩, ⟨h12, -, -⟩, ⟨h13, -, -⟩, ⟨h14, -, -⟩, ⟨h15, -, -⟩, ⟨h16, -, -⟩, ⟨h17, -, -⟩, ⟨h18, -, -⟩, ⟨h19, -, -⟩, -⟩ := hd
  dsimp only at h0 h1 h2 h3 h4 h5 h6 h7 h8 h9 h10 h11 h12 h13 h14 h15 h16 h17 h18 h19
  clear hdis
  simp only [h0, h1, h2, h3, h4, h5, h6, h7, h8, h9, h10, h11, h12, h13, h14, h15, h16, h17, h18, h19]
  clear h19 h18 h17 h16 h15 h14 h13 h12 h11 h10 h9 h8 h7 h6 h5 h4 h3 h2 h1 h0
  clear u
  simp only [List.map_nil]
  refine PlanW.done ?_
  have hb3 := bl_tt hwf
  apply absTB4 (w0 := w) (g0 := w.heap.size) (g1 := w.heap.size + 1) (g2 := w.heap.size + 2) (g3 := gv)
  iterate 5 (focus ((with_reducible (repeat' (first | assumption | apply jA | apply jB | apply jC | apply jD | apply jE | apply jF | apply hb3 | apply jG | apply jH | apply jI | apply jJ | apply jK | apply hb3x | (apply jL; first | (simp; done) | rfl) | apply jM | apply jN | apply jO | apply jP | apply jQ | apply jR | apply jS | apply jT (hb := hb3 _ (jA _)) | omega | (simp; done) | (simp; omega) | (dsimp only; omega)))); done))
  intro wf2 hb0' k0' k1' k2' k3'
  (try simp only [List.setIfInBounds_toArray, List.set_cons_zero, List.set_cons_succ] at k0' k1' k2' k3')
  try clear hb3
  try clear Lk0
  try clear Fk0
  try clear Qk0
  try clear Lk1
  try clear Fk1
  try clear Qk1
  try clear Lk2
  try clear Fk2
  try clear Qk2
  try clear Lk3
  try clear Fk3
  try clear Qk3
  try clear hb0
  try clear k0
  try clear k1
  try clear k2
  try clear k3
  have hb0 := hb0'; clear hb0'
  have k0 := k0'; clear k0'
  have k1 := k1'; clear k1'
  have k2 := k2'; clear k2'
  have k3 := k3'; clear k3'
  have Lk0 := k0.later
  have Fk0 := k0.laterF
  have Qk0 := k0.lt
  have Lk1 := k1.later
  have Fk1 := k1.laterF
  have Qk1 := k1.lt
  have Lk2 := k2.later
  have Fk2 := k2.laterF
  have Qk2 := k2.lt
  have Lk3 := k3.later
  have Fk3 := k3.laterF
  have Qk3 := k3.lt
  cases hw : decide ((rl : Int) - (al : Int) < (rl : Int))
  · rw [hw] at fM
    clear fM
    go_upto_region 16 with fail
    apply absB3 (w0 := w) (g0 := w.heap.size) (g1 := w.heap.size + 1) (g2 := w.heap.size + 2)
    iterate 4 (focus ((with_reducible (repeat' (first | assumption | apply jA | apply jB | apply jC | apply jD | apply jE | apply jF | apply hb3 | apply jG | apply jH | apply jI | apply jJ | apply jK | apply hb3x | (apply jL; first | (simp; done) | rfl) | apply jM | apply jN | apply jO | apply jP | apply jQ | apply jR | apply jS | apply jT (hb := hb3 _ (jA _)) | omega | (simp; done) | (simp; omega) | (dsimp only; omega)))); done))
    intro y0 hb0' k0' k1' k2'
    (try simp only [List.setIfInBounds_toArray, List.set_cons_zero, List.set_cons_succ] at k0' k1' k2')
    try clear hb3
    try clear Lk0
    try clear Fk0
    try clear Qk0
    try clear Lk1
    try clear Fk1
    try clear Qk1
    try clear Lk2
    try clear Fk2
    try clear Qk2
    try clear Lk3
    try clear Fk3
    try clear Qk3
    try clear hb0
    try clear k0
    try clear k1
    try clear k2
    have hb0 := hb0'; clear hb0'
    have k0 := k0'; clear k0'
    have k1 := k1'; clear k1'
    have k2 := k2'; clear k2'
    have Lk0 := k0.later
    have Fk0 := k0.laterF
    have Qk0 := k0.lt
    have Lk1 := k1.later
    have Fk1 := k1.laterF
    have Qk1 := k1.lt
    have Lk2 := k2.later
    have Fk2 := k2.laterF
    have Qk2 := k2.lt
    refine wp_any (w0 := y0) ⟨[12, 13, 14], [9, 10], [some 159, some 160, some 161, some 162, some 163, some 164, some 165, some 158, some 166, some 167, some 168, some 16, none, none, none], [[], [0], [], [], [3], [0, 1, 3, 4], [0, 1, 2, 3, 4, 5], [0, 1, 2, 3, 4, 5, 6], [0, 1, 2, 3, 4, 5, 6, 7], [0, 1, 2, 3, 4, 5, 6, 7], [0, 1, 2, 3, 4, 5, 6, 7], [], [0, 1, 2, 3, 4, 5, 6, 7, 8, 11], [0, 1, 2, 3, 4, 5, 6, 7, 8, 9, 11, 12], [0, 1, 2, 3, 4, 5, 6, 7, 8, 9, 10, 11, 12, 13]], [[], [0], [], [], [3], [4], [1, 2, 5], [1, 5, 6], [1, 5, 7], [1, 5, 7], [1, 5, 7], [], [], [], []]⟩ (fun γ => [(γ 11).n]) (by kernel_rfl) (by kernel_rfl) (by (with_reducible (repeat' (first | assumption | apply jA | apply jB | apply jC | apply jD | apply jE | apply jF | apply hb3 | omega | (simp; done) | (simp; omega) | (dsimp only; omega))))) (fun u => by simp only [putD, Act.put, List.setIfInBounds_toArray, List.set_cons_zero, List.set_cons_succ, Nat.zero_add, Nat.reduceAdd]; rfl) ?_
    apply RGW.on (i := 0) rfl
    · (simp only [gA, gB, gC] <;> rfl)
    · intro γ u W hcur hd
      clear hd
      (try dsimp only)
      refine ⟨rfl, ?_⟩
      go_simp <;> (try go_bits) <;> with_reducible rfl
    · exact fun _ _ _ => rfl
    · rfl
    dsimp only [nA, cA]
    apply RGW.gh (⟨fun γ => vNt n.world (.slice (γ 1).A nl (γ 1).c), fun γ W => NtIn n (γ 1).A (γ 1).c W, fun _ => []⟩) (i := 1) rfl
    · (simp only [gA, gB, gC] <;> rfl)
    · intro γ u W hcur hd
      obtain ⟨⟨h0, -, -⟩, -⟩ := hd
      dsimp only at h0
      (try simp only [h0])
      refine ⟨rfl, fun K hK => ?_⟩
      go_simp
      (go_at_call 13; (with_reducible refine (hcp.out _ (bl_tr hb0 hcur)).mono ?_); rintro e w3 ⟨Ax, cx, rfl, hb3, hox⟩; dsimp only; exact hK.out ⟨0, undef, Ax, cx⟩ _ _ (by simp [up]) hb3 (by simpa [up] using hox) (by simp))
    · intro γ γ' hg
      try dsimp only
      have e1 := hg 1 (by decide)
      simp only [e1]
      try exact ⟨trivial, fun _ h => h⟩
    · intro γ W W' hbl hR
      first | exact hR.below hbl | exact own_below hR hbl | exact trivial | exact ⟨hR.1.below hbl, hR.2⟩
    · rfl
    dsimp only [nA, cA]
    apply RGW.on (i := 2) rfl
    · (simp only [gA, gB, gC] <;> rfl)
    · intro γ u W hcur hd
      clear hd
      (try dsimp only)
      refine ⟨rfl, ?_⟩
      go_simp <;> (try go_bits) <;> with_reducible rfl
    · exact fun _ _ _ => rfl
    · rfl
    dsimp only [nA, cA]
    apply RGW.on (i := 3) rfl
    · (simp only [gA, gB, gC] <;> rfl)
    · intro γ u W hcur hd
      clear hd
      (try dsimp only)
      refine ⟨rfl, ?_⟩
      go_simp <;> (try go_bits) <;> with_reducible rfl
    · exact fun _ _ _ => rfl
    · rfl
    dsimp only [nA, cA]
    apply RGW.on (i := 4) rfl
    · (simp only [gA, gB, gC] <;> rfl)
    · intro γ u W hcur hd
      obtain ⟨⟨h3, -, -⟩, -⟩ := hd
      dsimp only at h3
      (try simp only [h3])
      refine ⟨rfl, ?_⟩
      go_simp <;> (try go_bits) <;> with_reducible rfl
    · exact fun _ _ _ => rfl
    · rfl
    dsimp only [nA, cA]
    apply RGW.gh (⟨fun γ => .slice (γ 5).A rl (γ 5).c, fun γ W => Sl cRd 4 W (γ 5).A l, fun _ => []⟩) (i := 5) rfl
    · (simp only [gA, gB, gC] <;> rfl)
    · intro γ u W hcur hd
      obtain ⟨⟨h4, -, -⟩, -⟩ := hd
      dsimp only at h4
      (try simp only [h4])
      refine ⟨rfl, fun K hK => ?_⟩
      go_simp
      (go_at_call 22; (with_reducible refine (hcr.out _ (bl_tr hb0 hcur)).mono ?_); rintro e w3 ⟨Ax, cx, rfl, hb3, hox⟩; dsimp only; exact hK.out ⟨0, undef, Ax, cx⟩ _ _ (by simp [up]) hb3 (by simpa [up] using hox) (by simp))
    · intro γ γ' hg
      try dsimp only
      have e1 := hg 1 (by decide)
      have e5 := hg 5 (by decide)
      simp only [e1, e5]
      try exact ⟨trivial, fun _ h => h⟩
    · intro γ W W' hbl hR
      first | exact hR.below hbl | exact own_below hR hbl | exact trivial | exact ⟨hR.1.below hbl, hR.2⟩
    · rfl
    dsimp only [nA, cA]
    apply RGW.call (i := 6) rfl
    · (simp only [gA, gB, gC] <;> rfl)
    · intro γ u W hcur hd
      obtain ⟨⟨h1, r1, -⟩, ⟨h2, -, -⟩, ⟨h5, r5, -⟩, -⟩ := hd
      dsimp only at h1 h2 h5 r1 r5
      (try simp only [h1, h2, h5])
      refine ⟨rfl, fun K hK => ?_⟩
      go_simp
      (go_at_call 21; (with_reducible refine (hfi.out _ _ _ _ _ r1 r5).mono ?_); rintro e w3 ⟨rfl, hb3⟩; replace hb3 := bl_tt hb3)
      (try dsimp only)
      exact hK.out _ _ rfl (by (with_reducible (repeat' (first | assumption | apply jA | apply jB | apply jC | apply jD | apply jE | apply jF | apply hb3 | omega | (simp; done) | (simp; omega) | (dsimp only; omega)))))
    · exact fun _ _ _ => rfl
    · rfl
    dsimp only [nA, cA]
    apply RGW.on (i := 7) rfl
    · (simp only [gA, gB, gC] <;> rfl)
    · intro γ u W hcur hd
      obtain ⟨⟨h1, r1, -⟩, ⟨h5, r5, -⟩, ⟨h6, -, -⟩, -⟩ := hd
      dsimp only at h1 h5 h6 r1 r5
      (try simp only [h1, h5, h6])
      refine ⟨rfl, ?_⟩
      go_simp <;> (try go_bits) <;> with_reducible rfl
    · exact fun _ _ _ => rfl
    · rfl
    dsimp only [nA, cA]
    apply RGW.on (i := 8) rfl
    · (simp only [gA, gB, gC] <;> rfl)
    · intro γ u W hcur hd
      obtain ⟨⟨h1, r1, -⟩, ⟨h5, r5, -⟩, ⟨h7, -, -⟩, -⟩ := hd
      dsimp only at h1 h5 h7 r1 r5
      (try simp only [h1, h5, h7])
      refine ⟨rfl, ?_⟩
      go_simp <;> (try go_bits) <;> with_reducible rfl
    · exact fun _ _ _ => rfl
    · rfl
    dsimp only [nA, cA]
    apply RGW.onL (i := 9) rfl
    · (simp only [gA, gB, gC] <;> rfl)
    · intro γ u Wm W hcur hd hX
      obtain ⟨⟨h1, r1, -⟩, ⟨h5, r5, -⟩, ⟨h7, -, -⟩, -⟩ := hd
      dsimp only at h1 h5 h7 r1 r5
      (try simp only [h1, h5, h7])
      refine ⟨rfl, ?_⟩
      go_simp <;> (try go_bits) <;> with_reducible rfl
    · exact fun _ _ _ => rfl
    dsimp only [nA, cA]
    apply RGW.onL (i := 10) rfl
    · (simp only [gA, gB, gC] <;> rfl)
    · intro γ u Wm W hcur hd hX
      obtain ⟨⟨h1, r1, -⟩, ⟨h5, r5, -⟩, ⟨h7, -, -⟩, -⟩ := hd
      dsimp only at h1 h5 h7 r1 r5
      (try simp only [h1, h5, h7])
      refine ⟨rfl, ?_⟩
      go_simp <;> (try go_bits) <;> with_reducible rfl
    · exact fun _ _ _ => rfl
    dsimp only [nA, cA]
    apply RGW.alloc (i := 11) rfl
    · (simp only [gA, gB, gC] <;> rfl)
    · intro γ u W hcur hd
      clear hd
      (try dsimp only)
      refine ⟨rfl, fun K hK => ?_⟩
      go_simp
      exact hK.out _ _ rfl rfl
    · exact fun _ _ _ => rfl
    · rfl
    · rfl
    dsimp only [nA, cA]
    refine RGW.skip (i := 12) rfl rfl ?_
    dsimp only [nA, cA]
    refine RGW.skip (i := 13) rfl rfl ?_
    dsimp only [nA, cA]
    refine RGW.skip (i := 14) rfl rfl ?_
    dsimp only [nA, cA]
    refine RGW.fin (fun γ u y1 hy1 hd hdis => ?_)
    obtain ⟨⟨h0, -, -⟩, ⟨h1, r1, b1⟩, ⟨h2, -, -⟩, ⟨h3, -, -⟩, ⟨h4, -, -⟩, ⟨h5, r5, b5⟩, ⟨h6, -, -⟩, ⟨h7, -, -⟩, ⟨h8, -, -⟩, ⟨h9, -, -⟩, ⟨h10, -, -⟩, ⟨h11, r11, b11⟩, -⟩ := hd
    dsimp only at h0 h1 h2 h3 h4 h5 h6 h7 h8 h9 h10 h11 r1 r5 r11 b1 b5 b11
    clear hdis
    simp only [h0, h1, h2, h3, h4, h5, h6, h7, h8, h9, h10, h11]
    clear h11 h10 h9 h8 h7 h6 h5 h4 h3 h2 h1 h0
    replace b11 := b11 _ (List.mem_singleton.2 rfl)
    generalize hγ11 : (γ 11).n = g11 at *
    clear hγ11
    clear u
    simp only [List.map_cons, List.map_nil]
    apply PlanW.step
    · (simp only [gA, gB, gC] <;> rfl)
    · rfl
    intro K hK
    refine wp_store_keep (X := [g11]) (w0 := y1) rfl rfl rfl (by with_reducible first | exact bx_refl _ _ | assumption) (by with_reducible first | assumption | (apply Blk.below (hb := hy1); assumption)) (by simp) (by kernel_rfl) (by rfl) (by simp [Value.oneCell']) (fun hres1 hcur => ?_)
    refine hK.out _ _ hcur (fun _ => ?_)
    clear hK K
    try simp only [Act.put, List.setIfInBounds_toArray, List.set_cons_zero, List.set_cons_succ]
    apply PlanW.step
    · (simp only [gA, gB, gC] <;> rfl)
    · rfl
    intro K hK
    go_simp
    refine hK.out _ _ (by (with_reducible (repeat' (first | assumption | apply jG | apply jH | apply jI | apply jJ | apply jK | apply hb3x | omega | (simp; done) | (simp; omega) | (dsimp only; omega))))) (fun hcur => ?_)
    clear hK K
    try simp only [Act.put, List.setIfInBounds_toArray, List.set_cons_zero, List.set_cons_succ]
    apply PlanW.step
    · (simp only [gA, gB, gC] <;> rfl)
    · rfl
    intro K hK
    go_simp
    refine hK.out _ _ (by (with_reducible (repeat' (first | assumption | apply jG | apply jH | apply jI | apply jJ | apply jK | apply hb3x | omega | (simp; done) | (simp; omega) | (dsimp only; omega))))) (fun hcur => ?_)
    clear hK K
    try simp only [Act.put, List.setIfInBounds_toArray, List.set_cons_zero, List.set_cons_succ]
    refine PlanW.done ?_
    have hb3 := bl_tt hy1
    clear r1 r5
    generalize g11 = gp at *
    apply absTB4 (w0 := w) (g0 := w.heap.size) (g1 := w.heap.size + 1) (g2 := w.heap.size + 2) (g3 := gp)
    iterate 5 (focus ((with_reducible (repeat' (first | assumption | apply jA | apply jB | apply jC | apply jD | apply jE | apply jF | apply hb3 | apply jG | apply jH | apply jI | apply jJ | apply jK | apply hb3x | (apply jL; first | (simp; done) | rfl) | apply jM | apply jN | apply jO | apply jP | apply jQ | apply jR | apply jS | apply jT (hb := hb3 _ (jA _)) | omega | (simp; done) | (simp; omega) | (dsimp only; omega)))); done))
    intro y12 hb0' k0' k1' k2' k5'
    (try simp only [List.setIfInBounds_toArray, List.set_cons_zero, List.set_cons_succ] at k0' k1' k2' k5')
    try clear hb3
    try clear Lk0
    try clear Fk0
    try clear Qk0
    try clear Lk1
    try clear Fk1
    try clear Qk1
    try clear Lk2
    try clear Fk2
    try clear Qk2
    try clear hb0
    try clear k0
    try clear k1
    try clear k2
    try clear k5
    have hb0 := hb0'; clear hb0'
    have k0 := k0'; clear k0'
    have k1 := k1'; clear k1'
    have k2 := k2'; clear k2'
    have k5 := k5'; clear k5'
    have Lk0 := k0.later
    have Fk0 := k0.laterF
    have Qk0 := k0.lt
    have Lk1 := k1.later
    have Fk1 := k1.laterF
    have Qk1 := k1.lt
    have Lk2 := k2.later
    have Fk2 := k2.laterF
    have Qk2 := k2.lt
    have Lk5 := k5.later
    have Fk5 := k5.laterF
    have Qk5 := k5.lt
    go_upto_region 17 with fail
    refine wp_any (w0 := y12) ⟨[13, 14, 15], [10, 11], [some 170, some 171, some 172, some 173, some 174, some 175, some 176, some 177, some 169, some 178, some 179, some 180, some 19, none, none, none], [[], [0], [], [], [3], [0, 1, 3, 4], [0, 1, 3, 4, 5], [0, 1, 2, 3, 4, 5, 6], [0, 1, 2, 3, 4, 5, 6, 7], [0, 1, 2, 3, 4, 5, 6, 7, 8], [0, 1, 2, 3, 4, 5, 6, 7, 8], [0, 1, 2, 3, 4, 5, 6, 7, 8], [], [0, 1, 2, 3, 4, 5, 6, 7, 8, 9, 12], [0, 1, 2, 3, 4, 5, 6, 7, 8, 9, 10, 12, 13], [0, 1, 2, 3, 4, 5, 6, 7, 8, 9, 10, 11, 12, 13, 14]], [[], [0], [], [], [3], [4], [5], [1, 2, 5, 6], [1, 5, 7], [1, 5, 8], [1, 5, 8], [1, 5, 8], [], [], [], []]⟩ (fun γ => [(γ 12).n]) (by kernel_rfl) (by kernel_rfl) (by (with_reducible (repeat' (first | assumption | apply jA | apply jB | apply jC | apply jD | apply jE | apply jF | apply hb3 | omega | (simp; done) | (simp; omega) | (dsimp only; omega))))) (fun u => by simp only [putD, Act.put, List.setIfInBounds_toArray, List.set_cons_zero, List.set_cons_succ, Nat.zero_add, Nat.reduceAdd]; rfl) ?_
    apply RGW.on (i := 0) rfl
    · (simp only [gA, gB, gC] <;> rfl)
    · intro γ u W hcur hd
      clear hd
      (try dsimp only)
      refine ⟨rfl, ?_⟩
      go_simp <;> (try go_bits) <;> with_reducible rfl
    · exact fun _ _ _ => rfl
    · rfl
    dsimp only [nA, cA]
    apply RGW.gh (⟨fun γ => vNt n.world (.slice (γ 1).A nl (γ 1).c), fun γ W => NtIn n (γ 1).A (γ 1).c W, fun _ => []⟩) (i := 1) rfl
    · (simp only [gA, gB, gC] <;> rfl)
    · intro γ u W hcur hd
      obtain ⟨⟨h0, -, -⟩, -⟩ := hd
      dsimp only at h0
      (try simp only [h0])
      refine ⟨rfl, fun K hK => ?_⟩
      go_simp
      (go_at_call 13; (with_reducible refine (hcp.out _ (bl_tr hb0 hcur)).mono ?_); rintro e w3 ⟨Ax, cx, rfl, hb3, hox⟩; dsimp only; exact hK.out ⟨0, undef, Ax, cx⟩ _ _ (by simp [up]) hb3 (by simpa [up] using hox) (by simp))
    · intro γ γ' hg
      try dsimp only
      have e1 := hg 1 (by decide)
      simp only [e1]
      try exact ⟨trivial, fun _ h => h⟩
    · intro γ W W' hbl hR
      first | exact hR.below hbl | exact own_below hR hbl | exact trivial | exact ⟨hR.1.below hbl, hR.2⟩
    · rfl
    dsimp only [nA, cA]
    apply RGW.on (i := 2) rfl
    · (simp only [gA, gB, gC] <;> rfl)
    · intro γ u W hcur hd
      clear hd
      (try dsimp only)
      refine ⟨rfl, ?_⟩
      go_simp <;> (try go_bits) <;> with_reducible rfl
    · exact fun _ _ _ => rfl
    · rfl
    dsimp only [nA, cA]
    apply RGW.on (i := 3) rfl
    · (simp only [gA, gB, gC] <;> rfl)
    · intro γ u W hcur hd
      clear hd
      (try dsimp only)
      refine ⟨rfl, ?_⟩
      go_simp <;> (try go_bits) <;> with_reducible rfl
    · exact fun _ _ _ => rfl
    · rfl
    dsimp only [nA, cA]
    apply RGW.on (i := 4) rfl
    · (simp only [gA, gB, gC] <;> rfl)
    · intro γ u W hcur hd
      obtain ⟨⟨h3, -, -⟩, -⟩ := hd
      dsimp only at h3
      (try simp only [h3])
      refine ⟨rfl, ?_⟩
      go_simp <;> (try go_bits) <;> with_reducible rfl
    · exact fun _ _ _ => rfl
    · rfl
    dsimp only [nA, cA]
    apply RGW.gh (⟨fun γ => .slice (γ 5).A rl (γ 5).c, fun γ W => Sl cRd 4 W (γ 5).A l, fun _ => []⟩) (i := 5) rfl
    · (simp only [gA, gB, gC] <;> rfl)
    · intro γ u W hcur hd
      obtain ⟨⟨h4, -, -⟩, -⟩ := hd
      dsimp only at h4
      (try simp only [h4])
      refine ⟨rfl, fun K hK => ?_⟩
      go_simp
      (go_at_call 22; (with_reducible refine (hcr.out _ (bl_tr hb0 hcur)).mono ?_); rintro e w3 ⟨Ax, cx, rfl, hb3, hox⟩; dsimp only; exact hK.out ⟨0, undef, Ax, cx⟩ _ _ (by simp [up]) hb3 (by simpa [up] using hox) (by simp))
    · intro γ γ' hg
      try dsimp only
      have e1 := hg 1 (by decide)
      have e5 := hg 5 (by decide)
      simp only [e1, e5]
      try exact ⟨trivial, fun _ h => h⟩
    · intro γ W W' hbl hR
      first | exact hR.below hbl | exact own_below hR hbl | exact trivial | exact ⟨hR.1.below hbl, hR.2⟩
    · rfl
    dsimp only [nA, cA]
    apply RGW.on (i := 6) rfl
    · (simp only [gA, gB, gC] <;> rfl)
    · intro γ u W hcur hd
      obtain ⟨⟨h5, r5, -⟩, -⟩ := hd
      dsimp only at h5 r5
      (try simp only [h5])
      refine ⟨rfl, ?_⟩
      go_simp <;> (try go_bits) <;> with_reducible rfl
    · intro γ γ' hg
      try dsimp only
      have e1 := hg 1 (by decide)
      have e5 := hg 5 (by decide)
      simp only [e1, e5]
    · rfl
    dsimp only [nA, cA]
    apply RGW.call (i := 7) rfl
    · (simp only [gA, gB, gC] <;> rfl)
    · intro γ u W hcur hd
      obtain ⟨⟨h1, r1, -⟩, ⟨h2, -, -⟩, ⟨h5, r5, -⟩, ⟨h6, -, -⟩, -⟩ := hd
      dsimp only at h1 h2 h5 h6 r1 r5
      (try simp only [h1, h2, h5, h6])
      refine ⟨rfl, fun K hK => ?_⟩
      go_simp
      (go_at_call 23; (with_reducible refine (hv0.out _ _ _ _ _ r1 r5).mono ?_); rintro e w3 ⟨rfl, hb3⟩; replace hb3 := bl_tt hb3)
      (try dsimp only)
      exact hK.out _ _ rfl (by (with_reducible (repeat' (first | assumption | apply jA | apply jB | apply jC | apply jD | apply jE | apply jF | apply hb3 | omega | (simp; done) | (simp; omega) | (dsimp only; omega)))))
    · exact fun _ _ _ => rfl
    · rfl
    dsimp only [nA, cA]
    apply RGW.on (i := 8) rfl
    · (simp only [gA, gB, gC] <;> rfl)
    · intro γ u W hcur hd
      obtain ⟨⟨h1, r1, -⟩, ⟨h5, r5, -⟩, ⟨h7, -, -⟩, -⟩ := hd
      dsimp only at h1 h5 h7 r1 r5
      (try simp only [h1, h5, h7])
      refine ⟨rfl, ?_⟩
      go_simp <;> (try go_bits) <;> with_reducible rfl
    · exact fun _ _ _ => rfl
    · rfl
    dsimp only [nA, cA]
    apply RGW.on (i := 9) rfl
    · (simp only [gA, gB, gC] <;> rfl)
    · intro γ u W hcur hd
      obtain ⟨⟨h1, r1, -⟩, ⟨h5, r5, -⟩, ⟨h8, -, -⟩, -⟩ := hd
      dsimp only at h1 h5 h8 r1 r5
      (try simp only [h1, h5, h8])
      refine ⟨rfl, ?_⟩
      go_simp <;> (try go_bits) <;> with_reducible rfl
    · exact fun _ _ _ => rfl
    · rfl
    dsimp only [nA, cA]
    apply RGW.onL (i := 10) rfl
    · (simp only [gA, gB, gC] <;> rfl)
    · intro γ u Wm W hcur hd hX
      obtain ⟨⟨h1, r1, -⟩, ⟨h5, r5, -⟩, ⟨h8, -, -⟩, -⟩ := hd
      dsimp only at h1 h5 h8 r1 r5
      (try simp only [h1, h5, h8])
      refine ⟨rfl, ?_⟩
      go_simp <;> (try go_bits) <;> with_reducible rfl
    · exact fun _ _ _ => rfl
    dsimp only [nA, cA]
    apply RGW.onL (i := 11) rfl
    · (simp only [gA, gB, gC] <;> rfl)
    · intro γ u Wm W hcur hd hX
      obtain ⟨⟨h1, r1, -⟩, ⟨h5, r5, -⟩, ⟨h8, -, -⟩, -⟩ := hd
      dsimp only at h1 h5 h8 r1 r5
      (try simp only [h1, h5, h8])
      refine ⟨rfl, ?_⟩
      go_simp <;> (try go_bits) <;> with_reducible rfl
    · exact fun _ _ _ => rfl
    dsimp only [nA, cA]
    apply RGW.alloc (i := 12) rfl
    · (simp only [gA, gB, gC] <;> rfl)
    · intro γ u W hcur hd
      clear hd
      (try dsimp only)
      refine ⟨rfl, fun K hK => ?_⟩
      go_simp
      exact hK.out _ _ rfl rfl
    · exact fun _ _ _ => rfl
    · rfl
    · rfl
    dsimp only [nA, cA]
    refine RGW.skip (i := 13) rfl rfl ?_
    dsimp only [nA, cA]
    refine RGW.skip (i := 14) rfl rfl ?_
    dsimp only [nA, cA]
    refine RGW.skip (i := 15) rfl rfl ?_
    dsimp only [nA, cA]
    refine RGW.fin (fun γ u y2 hy2 hd hdis => ?_)
    obtain ⟨⟨h0, -, -⟩, ⟨h1, r1, b1⟩, ⟨h2, -, -⟩, ⟨h3, -, -⟩, ⟨h4, -, -⟩, ⟨h5, r5, b5⟩, ⟨h6, -, -⟩, ⟨h7, -, -⟩, ⟨h8, -, -⟩, ⟨h9, -, -⟩, ⟨h10, -, -⟩, ⟨h11, -, -⟩, ⟨h12, r12, b12⟩, -⟩ := hd
    dsimp only at h0 h1 h2 h3 h4 h5 h6 h7 h8 h9 h10 h11 h12 r1 r5 r12 b1 b5 b12
    clear hdis
    simp only [h0, h1, h2, h3, h4, h5, h6, h7, h8, h9, h10, h11, h12]
    clear h12 h11 h10 h9 h8 h7 h6 h5 h4 h3 h2 h1 h0
    replace b12 := b12 _ (List.mem_singleton.2 rfl)
    generalize hγ12 : (γ 12).n = g12 at *
    clear hγ12
    clear u
    simp only [List.map_cons, List.map_nil]
    apply PlanW.step
    · (simp only [gA, gB, gC] <;> rfl)
    · rfl
    intro K hK
    refine wp_store_keep (X := [g12]) (w0 := y2) rfl rfl rfl (by with_reducible first | exact bx_refl _ _ | assumption) (by with_reducible first | assumption | (apply Blk.below (hb := hy2); assumption)) (by simp) (by kernel_rfl) (by rfl) (by simp [Value.oneCell']) (fun hres1 hcur => ?_)
    refine hK.out _ _ hcur (fun _ => ?_)
    clear hK K
    try simp only [Act.put, List.setIfInBounds_toArray, List.set_cons_zero, List.set_cons_succ]
    apply PlanW.step
    · (simp only [gA, gB, gC] <;> rfl)
    · rfl
    intro K hK
    go_simp
    refine hK.out _ _ (by (with_reducible (repeat' (first | assumption | apply jG | apply jH | apply jI | apply jJ | apply jK | apply hb3x | omega | (simp; done) | (simp; omega) | (dsimp only; omega))))) (fun hcur => ?_)
    clear hK K
    try simp only [Act.put, List.setIfInBounds_toArray, List.set_cons_zero, List.set_cons_succ]
    apply PlanW.step
    · (simp only [gA, gB, gC] <;> rfl)
    · rfl
    intro K hK
    go_simp
    refine hK.out _ _ (by (with_reducible (repeat' (first | assumption | apply jG | apply jH | apply jI | apply jJ | apply jK | apply hb3x | omega | (simp; done) | (simp; omega) | (dsimp only; omega))))) (fun hcur => ?_)
    clear hK K
    try simp only [Act.put, List.setIfInBounds_toArray, List.set_cons_zero, List.set_cons_succ]
    refine PlanW.done ?_
    have hb3 := bl_tt hy2
    clear r1 r5
    generalize g12 = gq at *
    apply absTB5 (w0 := w) (g0 := w.heap.size) (g1 := w.heap.size + 1) (g2 := w.heap.size + 2) (g3 := gp) (g4 := gq)
    iterate 6 (focus ((with_reducible (repeat' (first | assumption | apply jA | apply jB | apply jC | apply jD | apply jE | apply jF | apply hb3 | apply jG | apply jH | apply jI | apply jJ | apply jK | apply hb3x | (apply jL; first | (simp; done) | rfl) | apply jM | apply jN | apply jO | apply jP | apply jQ | apply jR | apply jS | apply jT (hb := hb3 _ (jA _)) | omega | (simp; done) | (simp; omega) | (dsimp only; omega)))); done))
    intro y22 hb0' k0' k1' k2' k5' k6'
    (try simp only [List.setIfInBounds_toArray, List.set_cons_zero, List.set_cons_succ] at k0' k1' k2' k5' k6')
    try clear hb3
    try clear Lk0
    try clear Fk0
    try clear Qk0
    try clear Lk1
    try clear Fk1
    try clear Qk1
    try clear Lk2
    try clear Fk2
    try clear Qk2
    try clear Lk5
    try clear Fk5
    try clear Qk5
    try clear hb0
    try clear k0
    try clear k1
    try clear k2
    try clear k5
    try clear k6
    have hb0 := hb0'; clear hb0'
    have k0 := k0'; clear k0'
    have k1 := k1'; clear k1'
    have k2 := k2'; clear k2'
    have k5 := k5'; clear k5'
    have k6 := k6'; clear k6'
    have Lk0 := k0.later
    have Fk0 := k0.laterF
    have Qk0 := k0.lt
    have Lk1 := k1.later
    have Fk1 := k1.laterF
    have Qk1 := k1.lt
    have Lk2 := k2.later
    have Fk2 := k2.laterF
    have Qk2 := k2.lt
    have Lk5 := k5.later
    have Fk5 := k5.laterF
    have Qk5 := k5.lt
    have Lk6 := k6.later
    have Fk6 := k6.laterF
    have Qk6 := k6.lt
    go_upto_region 20 with fail
    refine wp_any (w0 := y22) ⟨[], [], [some 195, some 196, some 197, some 198, some 199, some 200, some 201, some 194, some 202, some 203, some 22, some 23], [[], [0], [], [], [3], [0, 1, 3, 4], [0, 1, 2, 3, 4, 5], [0, 1, 2, 3, 4, 5, 6], [0, 1, 2, 3, 4, 5, 6, 7], [0, 1, 2, 3, 4, 5, 6, 7], [0, 1, 2, 3, 4, 5, 6, 7, 8], [0, 1, 2, 3, 4, 5, 6, 7, 8, 9, 10]], [[], [0], [], [], [3], [4], [1, 2, 5], [1, 5, 6], [1, 5, 6, 7], [1, 5, 6, 7], [1, 5, 6, 8], [1, 5, 6, 9]]⟩ (fun _ => []) (by kernel_rfl) (by kernel_rfl) (by (with_reducible (repeat' (first | assumption | apply jA | apply jB | apply jC | apply jD | apply jE | apply jF | apply hb3 | omega | (simp; done) | (simp; omega) | (dsimp only; omega))))) (fun u => by simp only [putD, Act.put, List.setIfInBounds_toArray, List.set_cons_zero, List.set_cons_succ, Nat.zero_add, Nat.reduceAdd]; rfl) ?_
    apply RGW.on (i := 0) rfl
    · (simp only [gA, gB, gC] <;> rfl)
    · intro γ u W hcur hd
      clear hd
      (try dsimp only)
      refine ⟨rfl, ?_⟩
      go_simp <;> (try go_bits) <;> with_reducible rfl
    · exact fun _ _ _ => rfl
    · rfl
    dsimp only [nA, cA]
    apply RGW.gh (⟨fun γ => vNt n.world (.slice (γ 1).A nl (γ 1).c), fun γ W => NtIn n (γ 1).A (γ 1).c W, fun _ => []⟩) (i := 1) rfl
    · (simp only [gA, gB, gC] <;> rfl)
    · intro γ u W hcur hd
      obtain ⟨⟨h0, -, -⟩, -⟩ := hd
      dsimp only at h0
      (try simp only [h0])
      refine ⟨rfl, fun K hK => ?_⟩
      go_simp
      (go_at_call 13; (with_reducible refine (hcp.out _ (bl_tr hb0 hcur)).mono ?_); rintro e w3 ⟨Ax, cx, rfl, hb3, hox⟩; dsimp only; exact hK.out ⟨0, undef, Ax, cx⟩ _ _ (by simp [up]) hb3 (by simpa [up] using hox) (by simp))
    · intro γ γ' hg
      try dsimp only
      have e1 := hg 1 (by decide)
      simp only [e1]
      try exact ⟨trivial, fun _ h => h⟩
    · intro γ W W' hbl hR
      first | exact hR.below hbl | exact own_below hR hbl | exact trivial | exact ⟨hR.1.below hbl, hR.2⟩
    · rfl
    dsimp only [nA, cA]
    apply RGW.on (i := 2) rfl
    · (simp only [gA, gB, gC] <;> rfl)
    · intro γ u W hcur hd
      clear hd
      (try dsimp only)
      refine ⟨rfl, ?_⟩
      go_simp <;> (try go_bits) <;> with_reducible rfl
    · exact fun _ _ _ => rfl
    · rfl
    dsimp only [nA, cA]
    apply RGW.on (i := 3) rfl
    · (simp only [gA, gB, gC] <;> rfl)
    · intro γ u W hcur hd
      clear hd
      (try dsimp only)
      refine ⟨rfl, ?_⟩
      go_simp <;> (try go_bits) <;> with_reducible rfl
    · exact fun _ _ _ => rfl
    · rfl
    dsimp only [nA, cA]
    apply RGW.on (i := 4) rfl
    · (simp only [gA, gB, gC] <;> rfl)
    · intro γ u W hcur hd
      obtain ⟨⟨h3, -, -⟩, -⟩ := hd
      dsimp only at h3
      (try simp only [h3])
      refine ⟨rfl, ?_⟩
      go_simp <;> (try go_bits) <;> with_reducible rfl
    · exact fun _ _ _ => rfl
    · rfl
    dsimp only [nA, cA]
    apply RGW.gh (⟨fun γ => .slice (γ 5).A rl (γ 5).c, fun γ W => Sl cRd 4 W (γ 5).A l, fun _ => []⟩) (i := 5) rfl
    · (simp only [gA, gB, gC] <;> rfl)
    · intro γ u W hcur hd
      obtain ⟨⟨h4, -, -⟩, -⟩ := hd
      dsimp only at h4
      (try simp only [h4])
      refine ⟨rfl, fun K hK => ?_⟩
      go_simp
      (go_at_call 22; (with_reducible refine (hcr.out _ (bl_tr hb0 hcur)).mono ?_); rintro e w3 ⟨Ax, cx, rfl, hb3, hox⟩; dsimp only; exact hK.out ⟨0, undef, Ax, cx⟩ _ _ (by simp [up]) hb3 (by simpa [up] using hox) (by simp))
    · intro γ γ' hg
      try dsimp only
      have e1 := hg 1 (by decide)
      have e5 := hg 5 (by decide)
      simp only [e1, e5]
      try exact ⟨trivial, fun _ h => h⟩
    · intro γ W W' hbl hR
      first | exact hR.below hbl | exact own_below hR hbl | exact trivial | exact ⟨hR.1.below hbl, hR.2⟩
    · rfl
    dsimp only [nA, cA]
    apply RGW.gh (⟨fun γ => .tuple #[.slice (γ 6).A rl (γ 6).c, .int .i64 0], fun γ W => Sl cI 1 W (γ 6).A aL, fun _ => []⟩) (i := 6) rfl
    · (simp only [gA, gB, gC] <;> rfl)
    · intro γ u W hcur hd
      obtain ⟨⟨h1, r1, -⟩, ⟨h2, -, -⟩, ⟨h5, r5, -⟩, -⟩ := hd
      dsimp only at h1 h2 h5 r1 r5
      (try simp only [h1, h2, h5])
      refine ⟨rfl, fun K hK => ?_⟩
      go_simp
      (go_at_call 39; (with_reducible refine (han.out _ _ _ _ _ r1 r5).mono ?_); rintro e w3 ⟨Ax, cx, rfl, hb3, hox⟩; dsimp only; exact hK.out ⟨0, undef, Ax, cx⟩ _ _ (by simp [up]) hb3 (by simpa [up] using hox) (by simp))
    · intro γ γ' hg
      try dsimp only
      have e1 := hg 1 (by decide)
      have e5 := hg 5 (by decide)
      have e6 := hg 6 (by decide)
      simp only [e1, e5, e6]
      try exact ⟨trivial, fun _ h => h⟩
    · intro γ W W' hbl hR
      first | exact hR.below hbl | exact own_below hR hbl | exact trivial | exact ⟨hR.1.below hbl, hR.2⟩
    · rfl
    dsimp only [nA, cA]
    apply RGW.on (i := 7) rfl
    · (simp only [gA, gB, gC] <;> rfl)
    · intro γ u W hcur hd
      obtain ⟨⟨h1, r1, -⟩, ⟨h5, r5, -⟩, ⟨h6, r6, -⟩, -⟩ := hd
      dsimp only at h1 h5 h6 r1 r5 r6
      (try simp only [h1, h5, h6])
      refine ⟨rfl, ?_⟩
      go_simp <;> (try go_bits) <;> with_reducible rfl
    · intro γ γ' hg
      try dsimp only
      have e1 := hg 1 (by decide)
      have e5 := hg 5 (by decide)
      have e6 := hg 6 (by decide)
      simp only [e1, e5, e6]
    · rfl
    dsimp only [nA, cA]
    apply RGW.on (i := 8) rfl
    · (simp only [gA, gB, gC] <;> rfl)
    · intro γ u W hcur hd
      obtain ⟨⟨h1, r1, -⟩, ⟨h5, r5, -⟩, ⟨h6, r6, -⟩, ⟨h7, -, -⟩, -⟩ := hd
      dsimp only at h1 h5 h6 h7 r1 r5 r6
      (try simp only [h1, h5, h6, h7])
      refine ⟨rfl, ?_⟩
      go_simp <;> (try go_bits) <;> with_reducible rfl
    · intro γ γ' hg
      try dsimp only
      have e1 := hg 1 (by decide)
      have e5 := hg 5 (by decide)
      have e6 := hg 6 (by decide)
      simp only [e1, e5, e6]
    · rfl
    dsimp only [nA, cA]
    apply RGW.on (i := 9) rfl
    · (simp only [gA, gB, gC] <;> rfl)
    · intro γ u W hcur hd
      obtain ⟨⟨h1, r1, -⟩, ⟨h5, r5, -⟩, ⟨h6, r6, -⟩, ⟨h7, -, -⟩, -⟩ := hd
      dsimp only at h1 h5 h6 h7 r1 r5 r6
      (try simp only [h1, h5, h6, h7])
      refine ⟨rfl, ?_⟩
      go_simp <;> (try go_bits) <;> with_reducible rfl
    · exact fun _ _ _ => rfl
    · rfl
    dsimp only [nA, cA]
    apply RGW.on (i := 10) rfl
    · (simp only [gA, gB, gC] <;> rfl)
    · intro γ u W hcur hd
      obtain ⟨⟨h1, r1, -⟩, ⟨h5, r5, -⟩, ⟨h6, r6, -⟩, ⟨h8, -, -⟩, -⟩ := hd
      dsimp only at h1 h5 h6 h8 r1 r5 r6
      (try simp only [h1, h5, h6, h8])
      refine ⟨rfl, ?_⟩
      go_simp <;> (try go_bits) <;> with_reducible rfl
    · intro γ γ' hg
      try dsimp only
      have e1 := hg 1 (by decide)
      have e5 := hg 5 (by decide)
      have e6 := hg 6 (by decide)
      simp only [e1, e5, e6]
    · rfl
    dsimp only [nA, cA]
    apply RGW.on (i := 11) rfl
    · (simp only [gA, gB, gC] <;> rfl)
    · intro γ u W hcur hd
      obtain ⟨⟨h1, r1, -⟩, ⟨h5, r5, -⟩, ⟨h6, r6, -⟩, ⟨h9, -, -⟩, -⟩ := hd
      dsimp only at h1 h5 h6 h9 r1 r5 r6
      (try simp only [h1, h5, h6, h9])
      refine ⟨rfl, ?_⟩
      go_simp <;> (try go_bits) <;> with_reducible rfl
    · exact fun _ _ _ => rfl
    · rfl
    dsimp only [nA, cA]
    refine RGW.fin (fun γ u y3 hy3 hd hdis => ?_)
    obtain ⟨⟨h0, -, -⟩, ⟨h1, r1, b1⟩, ⟨h2, -, -⟩, ⟨h3, -, -⟩, ⟨h4, -, -⟩, ⟨h5, r5, b5⟩, ⟨h6, r6, b6⟩, ⟨h7, -, -⟩, ⟨h8, -, -⟩, ⟨h9, -, -⟩, ⟨h10, -, -⟩, ⟨h11, -, -⟩, -⟩ := hd
    dsimp only at h0 h1 h2 h3 h4 h5 h6 h7 h8 h9 h10 h11 r1 r5 r6 b1 b5 b6
    clear hdis
    simp only [h0, h1, h2, h3, h4, h5, h6, h7, h8, h9, h10, h11]
    clear h11 h10 h9 h8 h7 h6 h5 h4 h3 h2 h1 h0
    clear u
    simp only [List.map_nil]
    refine PlanW.done ?_
    have hb3 := bl_tt hy3
    have SA := Lib.hid fun (W : World) (h : Below y3.heap.size y3 W) => r6.below h
    clear r1 r5 r6
    replace k0 := k0.below hy3
    replace k1 := k1.below hy3
    replace k2 := k2.below hy3
    have hbw := bl_tr hb0 hy3
    clear Lk0 Lk1 Lk2 Fk0 Fk1 Fk2 hb3 hb0
    have hb0 := bl_refl y3
    generalize (γ 6).A = AY at *
    generalize (γ 6).c = cY at *
    have Lk0 := k0.later
    have Fk0 := k0.laterF
    have Qk0 := k0.lt
    have Lk1 := k1.later
    have Fk1 := k1.laterF
    have Qk1 := k1.lt
    have Lk2 := k2.later
    have Fk2 := k2.laterF
    have Qk2 := k2.lt
    go_wp2
    go_loopw [24] (fun i wr => ∃ k : Nat, k ≤ rl ∧ i = .int .i64 k ∧ Below y3.heap.size y3 wr) (fun i _ => rl - (intOf i).toNat)
    case atStart => exact ⟨0, Nat.zero_le _, rfl, Below.refl _ _⟩
    case round =>
      obtain ⟨k, hk, rfl, hb⟩ := hrel
      by_cases hlt : k < rl
      · obtain ⟨x, hx, ob, sz, oe, hfx, hyes, hno⟩ := hel.out k hlt
        have hbw := bl_tr hbw hb
        obtain ⟨bb, off, hA, hc⟩ := Hl.out k x hx
        have S1 : Hid (Sl cRd 4 w (some ⟨bb, off + k * 4, none⟩) [x]) := sl_one hc
        obtain ⟨ba, oa, hAY, hcA⟩ := SA.out wr hb k _ (haL.out k hlt)
        have c0 : ∀ W, Below wr.heap.size wr W → W.cell? ⟨ba, oa + k, none⟩ = some (.int .i64 (aAt k)) := later (by have := hcA 0 _ rfl; simpa using this)
        clear hc hcA
        subst hA hAY
        have hc1 : Hid (∀ W : World, Below wr.heap.size wr W → Calls Try.prog 22 #[.slice (some ⟨bb, off + k * 4, none⟩) 1 (c' - k)] W (fun e w' => ∃ A2 c2, e = .returned (.slice A2 1 c2) ∧ Below W.heap.size W w' ∧ Sl cRd 4 w' A2 [x])) := fun W h => hcw.out x _ _ W (S1.out.below (bl_tr hbw h))
        replace hfx := Lib.hid hfx
        replace hx := Lib.hid hx
        have n4 : ¬ c' = k := by omega
        have hk1 : (k : Int) + 1 ≤ (c' : Int) := by omega
        have hk2 : k < c' := by omega
        have hk3 : k + 1 ≤ c' := by omega
        have hk4 : (0 : Int) ≤ (k : Int) + 1 ∧ (k : Int) + 1 ≤ (c' : Int) := by omega
        have hk5 : (0 : Int) ≤ (k : Int) + 1 := by omega
        have k0 := k0.below hb
        have k1 := k1.below hb
        have k2 := k2.below hb
        have hsz := hb.size
        clear S1 SA Lk0 Lk1 Lk2 Fk0 Fk1 Fk2 Qk0 Qk1 Qk2 hb0 hcw hel haL
        have hb0 := bl_refl wr
        have Lk0 := k0.later
        have Fk0 := k0.laterF
        have Qk0 := k0.lt
        have Lk1 := k1.later
        have Fk1 := k1.laterF
        have Qk1 := k1.lt
        have Lk2 := k2.later
        have Fk2 := k2.laterF
        have Qk2 := k2.lt
        generalize aAt k = aa at *
        go_upto_region 26 with fail
        refine wp_any (w0 := wr) ⟨[16, 17, 18], [13, 14], [some 221, some 222, some 223, some 224, some 225, some 226, some 227, some 228, some 229, some 230, some 231, some 220, some 232, some 233, some 234, some 25, none, none, none], [[], [0], [], [], [3], [], [], [6], [3, 4, 5, 6, 7], [0, 1, 3, 4, 5, 6, 7, 8], [0, 1, 2, 3, 4, 5, 6, 7, 8, 9], [0, 1, 2, 3, 4, 5, 6, 7, 8, 9, 10], [0, 1, 2, 3, 4, 5, 6, 7, 8, 9, 10, 11], [0, 1, 2, 3, 4, 5, 6, 7, 8, 9, 10, 11], [0, 1, 2, 3, 4, 5, 6, 7, 8, 9, 10, 11], [], [0, 1, 2, 3, 4, 5, 6, 7, 8, 9, 10, 11, 12, 15], [0, 1, 2, 3, 4, 5, 6, 7, 8, 9, 10, 11, 12, 13, 15, 16], [0, 1, 2, 3, 4, 5, 6, 7, 8, 9, 10, 11, 12, 13, 14, 15, 16, 17]], [[], [0], [], [], [3], [], [], [6], [4, 5, 7], [8], [1, 2, 9], [1, 9, 10], [1, 9, 11], [1, 9, 11], [1, 9, 11], [], [], [], []]⟩ (fun γ => [(γ 15).n]) (by kernel_rfl) (by kernel_rfl) (by (with_reducible (repeat' (first | assumption | apply jA | apply jB | apply jC | apply jD | apply jE | apply jF | apply hb3 | omega | (simp; done) | (simp; omega) | (dsimp only; omega))))) (fun u => by simp only [putD, Act.put, List.setIfInBounds_toArray, List.set_cons_zero, List.set_cons_succ, Nat.zero_add, Nat.reduceAdd]; rfl) ?_
        apply RGW.on (i := 0) rfl
        · (simp only [gA, gB, gC] <;> rfl)
        · intro γ u W hcur hd
          clear hd
          (try dsimp only)
          refine ⟨rfl, ?_⟩
          go_simp <;> (try go_bits) <;> with_reducible rfl
        · exact fun _ _ _ => rfl
        · rfl
        dsimp only [nA, cA]
        apply RGW.gh (⟨fun γ => vNt n.world (.slice (γ 1).A nl (γ 1).c), fun γ W => NtIn n (γ 1).A (γ 1).c W, fun _ => []⟩) (i := 1) rfl
        · (simp only [gA, gB, gC] <;> rfl)
        · intro γ u W hcur hd
          obtain ⟨⟨h0, -, -⟩, -⟩ := hd
          dsimp only at h0
          (try simp only [h0])
          refine ⟨rfl, fun K hK => ?_⟩
          go_simp
          (go_at_call 13; (with_reducible refine (hcp.out _ (bl_tr hbw (bl_tr hb0 hcur))).mono ?_); rintro e w3 ⟨Ax, cx, rfl, hb3, hox⟩; dsimp only; exact hK.out ⟨0, undef, Ax, cx⟩ _ _ (by simp [up]) hb3 (by simpa [up] using hox) (by simp))
        · intro γ γ' hg
          try dsimp only
          have e1 := hg 1 (by decide)
          simp only [e1]
          try exact ⟨trivial, fun _ h => h⟩
        · intro γ W W' hbl hR
          first | exact hR.below hbl | exact own_below hR hbl | exact trivial | exact ⟨hR.1.below hbl, hR.2⟩
        · rfl
        dsimp only [nA, cA]
        apply RGW.on (i := 2) rfl
        · (simp only [gA, gB, gC] <;> rfl)
        · intro γ u W hcur hd
          clear hd
          (try dsimp only)
          refine ⟨rfl, ?_⟩
          go_simp <;> (try go_bits) <;> with_reducible rfl
        · exact fun _ _ _ => rfl
        · rfl
        dsimp only [nA, cA]
        apply RGW.on (i := 3) rfl
        · (simp only [gA, gB, gC] <;> rfl)
        · intro γ u W hcur hd
          clear hd
          (try dsimp only)
          refine ⟨rfl, ?_⟩
          go_simp <;> (try go_bits) <;> with_reducible rfl
        · exact fun _ _ _ => rfl
        · rfl
        dsimp only [nA, cA]
        apply RGW.on (i := 4) rfl
        · (simp only [gA, gB, gC] <;> rfl)
        · intro γ u W hcur hd
          obtain ⟨⟨h3, -, -⟩, -⟩ := hd
          dsimp only at h3
          (try simp only [h3])
          refine ⟨rfl, ?_⟩
          go_simp <;> (try go_bits) <;> with_reducible rfl
        · exact fun _ _ _ => rfl
        · rfl
        dsimp only [nA, cA]
        apply RGW.on (i := 5) rfl
        · (simp only [gA, gB, gC] <;> rfl)
        · intro γ u W hcur hd
          clear hd
          (try dsimp only)
          refine ⟨rfl, ?_⟩
          go_simp <;> (try go_bits) <;> with_reducible rfl
        · exact fun _ _ _ => rfl
        · rfl
        dsimp only [nA, cA]
        apply RGW.on (i := 6) rfl
        · (simp only [gA, gB, gC] <;> rfl)
        · intro γ u W hcur hd
          clear hd
          (try dsimp only)
          refine ⟨rfl, ?_⟩
          go_simp <;> (try go_bits) <;> with_reducible rfl
        · exact fun _ _ _ => rfl
        · rfl
        dsimp only [nA, cA]
        apply RGW.on (i := 7) rfl
        · (simp only [gA, gB, gC] <;> rfl)
        · intro γ u W hcur hd
          obtain ⟨⟨h6, -, -⟩, -⟩ := hd
          dsimp only at h6
          (try simp only [h6])
          refine ⟨rfl, ?_⟩
          go_simp <;> (try go_bits) <;> with_reducible rfl
        · exact fun _ _ _ => rfl
        · rfl
        dsimp only [nA, cA]
        apply RGW.on (i := 8) rfl
        · (simp only [gA, gB, gC] <;> rfl)
        · intro γ u W hcur hd
          obtain ⟨⟨h4, -, -⟩, ⟨h5, -, -⟩, ⟨h7, -, -⟩, -⟩ := hd
          dsimp only at h4 h5 h7
          (try simp only [h4, h5, h7])
          refine ⟨rfl, ?_⟩
          go_simp <;> (try go_bits) <;> with_reducible rfl
        · exact fun _ _ _ => rfl
        · rfl
        dsimp only [nA, cA]
        apply RGW.gh (⟨fun γ => .slice (γ 9).A 1 (γ 9).c, fun γ W => Sl cRd 4 W (γ 9).A [x], fun _ => []⟩) (i := 9) rfl
        · (simp only [gA, gB, gC] <;> rfl)
        · intro γ u W hcur hd
          obtain ⟨⟨h8, -, -⟩, -⟩ := hd
          dsimp only at h8
          (try simp only [h8])
          refine ⟨rfl, fun K hK => ?_⟩
          go_simp
          (go_at_call 22; (with_reducible refine (hc1.out _ (bl_tr hb0 hcur)).mono ?_); rintro e w3 ⟨Ax, cx, rfl, hb3, hox⟩; dsimp only; exact hK.out ⟨0, undef, Ax, cx⟩ _ _ (by simp [up]) hb3 (by simpa [up] using hox) (by simp))
        · intro γ γ' hg
          try dsimp only
          have e1 := hg 1 (by decide)
          have e9 := hg 9 (by decide)
          simp only [e1, e9]
          try exact ⟨trivial, fun _ h => h⟩
        · intro γ W W' hbl hR
          first | exact hR.below hbl | exact own_below hR hbl | exact trivial | exact ⟨hR.1.below hbl, hR.2⟩
        · rfl
        dsimp only [nA, cA]
        apply RGW.call (i := 10) rfl
        · (simp only [gA, gB, gC] <;> rfl)
        · intro γ u W hcur hd
          obtain ⟨⟨h1, r1, -⟩, ⟨h2, -, -⟩, ⟨h9, r9, -⟩, -⟩ := hd
          dsimp only at h1 h2 h9 r1 r9
          (try simp only [h1, h2, h9])
          refine ⟨rfl, fun K hK => ?_⟩
          go_simp
          (go_at_call 21; (with_reducible refine (hfx.out _ _ _ _ _ r1 r9).mono ?_); rintro e w3 ⟨rfl, hb3⟩; replace hb3 := bl_tt hb3)
          (try dsimp only)
          exact hK.out _ _ rfl (by (with_reducible (repeat' (first | assumption | apply jA | apply jB | apply jC | apply jD | apply jE | apply jF | apply hb3 | omega | (simp; done) | (simp; omega) | (dsimp only; omega)))))
        · exact fun _ _ _ => rfl
        · rfl
        dsimp only [nA, cA]
        apply RGW.on (i := 11) rfl
        · (simp only [gA, gB, gC] <;> rfl)
        · intro γ u W hcur hd
          obtain ⟨⟨h1, r1, -⟩, ⟨h9, r9, -⟩, ⟨h10, -, -⟩, -⟩ := hd
          dsimp only at h1 h9 h10 r1 r9
          (try simp only [h1, h9, h10])
          refine ⟨rfl, ?_⟩
          go_simp <;> (try go_bits) <;> with_reducible rfl
        · exact fun _ _ _ => rfl
        · rfl
        dsimp only [nA, cA]
        apply RGW.on (i := 12) rfl
        · (simp only [gA, gB, gC] <;> rfl)
        · intro γ u W hcur hd
          obtain ⟨⟨h1, r1, -⟩, ⟨h9, r9, -⟩, ⟨h11, -, -⟩, -⟩ := hd
          dsimp only at h1 h9 h11 r1 r9
          (try simp only [h1, h9, h11])
          refine ⟨rfl, ?_⟩
          go_simp <;> (try go_bits) <;> with_reducible rfl
        · exact fun _ _ _ => rfl
        · rfl
        dsimp only [nA, cA]
        apply RGW.onL (i := 13) rfl
        · (simp only [gA, gB, gC] <;> rfl)
        · intro γ u Wm W hcur hd hX
          obtain ⟨⟨h1, r1, -⟩, ⟨h9, r9, -⟩, ⟨h11, -, -⟩, -⟩ := hd
          dsimp only at h1 h9 h11 r1 r9
          (try simp only [h1, h9, h11])
          refine ⟨rfl, ?_⟩
          go_simp <;> (try go_bits) <;> with_reducible rfl
        · exact fun _ _ _ => rfl
        dsimp only [nA, cA]
        apply RGW.onL (i := 14) rfl
        · (simp only [gA, gB, gC] <;> rfl)
        · intro γ u Wm W hcur hd hX
          obtain ⟨⟨h1, r1, -⟩, ⟨h9, r9, -⟩, ⟨h11, -, -⟩, -⟩ := hd
          dsimp only at h1 h9 h11 r1 r9
          (try simp only [h1, h9, h11])
          refine ⟨rfl, ?_⟩
          go_simp <;> (try go_bits) <;> with_reducible rfl
        · exact fun _ _ _ => rfl
        dsimp only [nA, cA]
        apply RGW.alloc (i := 15) rfl
        · (simp only [gA, gB, gC] <;> rfl)
        · intro γ u W hcur hd
          clear hd
          (try dsimp only)
          refine ⟨rfl, fun K hK => ?_⟩
          go_simp
          exact hK.out _ _ rfl rfl
        · exact fun _ _ _ => rfl
        · rfl
        · rfl
        dsimp only [nA, cA]
        refine RGW.skip (i := 16) rfl rfl ?_
        dsimp only [nA, cA]
        refine RGW.skip (i := 17) rfl rfl ?_
        dsimp only [nA, cA]
        refine RGW.skip (i := 18) rfl rfl ?_
        dsimp only [nA, cA]
        refine RGW.fin (fun γ u z1 hz1 hd hdis => ?_)
        obtain ⟨⟨h0, -, -⟩, ⟨h1, r1, b1⟩, ⟨h2, -, -⟩, ⟨h3, -, -⟩, ⟨h4, -, -⟩, ⟨h5, -, -⟩, ⟨h6, -, -⟩, ⟨h7, -, -⟩, ⟨h8, -, -⟩, ⟨h9, r9, b9⟩, ⟨h10, -, -⟩, ⟨h11, -, -⟩, ⟨h12, -, -⟩, ⟨h13, -, -⟩, ⟨h14, -, -⟩, ⟨h15, r15, b15⟩, -⟩ := hd
        dsimp only at h0 h1 h2 h3 h4 h5 h6 h7 h8 h9 h10 h11 h12 h13 h14 h15 r1 r9 r15 b1 b9 b15
        clear hdis
        simp only [h0, h1, h2, h3, h4, h5, h6, h7, h8, h9, h10, h11, h12, h13, h14, h15]
        clear h15 h14 h13 h12 h11 h10 h9 h8 h7 h6 h5 h4 h3 h2 h1 h0
        replace b15 := b15 _ (List.mem_singleton.2 rfl)
        generalize hγ15 : (γ 15).n = g15 at *
        clear hγ15
        clear u
        simp only [List.map_cons, List.map_nil]
        apply PlanW.step
        · (simp only [gA, gB, gC] <;> rfl)
        · rfl
        intro K hK
        refine wp_store_keep (X := [g15]) (w0 := z1) rfl rfl rfl (by with_reducible first | exact bx_refl _ _ | assumption) (by with_reducible first | assumption | (apply Blk.below (hb := hz1); assumption)) (by simp) (by kernel_rfl) (by rfl) (by simp [Value.oneCell']) (fun hres1 hcur => ?_)
        refine hK.out _ _ hcur (fun _ => ?_)
        clear hK K
        try simp only [Act.put, List.setIfInBounds_toArray, List.set_cons_zero, List.set_cons_succ]
        apply PlanW.step
        · (simp only [gA, gB, gC] <;> rfl)
        · rfl
        intro K hK
        go_simp
        refine hK.out _ _ (by (with_reducible (repeat' (first | assumption | apply jG | apply jH | apply jI | apply jJ | apply jK | apply hb3x | omega | (simp; done) | (simp; omega) | (dsimp only; omega))))) (fun hcur => ?_)
        clear hK K
        try simp only [Act.put, List.setIfInBounds_toArray, List.set_cons_zero, List.set_cons_succ]
        apply PlanW.step
        · (simp only [gA, gB, gC] <;> rfl)
        · rfl
        intro K hK
        go_simp
        refine hK.out _ _ (by (with_reducible (repeat' (first | assumption | apply jG | apply jH | apply jI | apply jJ | apply jK | apply hb3x | omega | (simp; done) | (simp; omega) | (dsimp only; omega))))) (fun hcur => ?_)
        clear hK K
        try simp only [Act.put, List.setIfInBounds_toArray, List.set_cons_zero, List.set_cons_succ]
        refine PlanW.done ?_
        have hb3 := bl_tt hz1
        clear r1 r9
        apply absTB4 (w0 := wr) (g0 := w.heap.size) (g1 := w.heap.size + 1) (g2 := w.heap.size + 2) (g3 := g15)
        iterate 5 (focus ((with_reducible (repeat' (first | assumption | apply jA | apply jB | apply jC | apply jD | apply jE | apply jF | apply hb3 | apply jG | apply jH | apply jI | apply jJ | apply jK | apply hb3x | (apply jL; first | (simp; done) | rfl) | apply jM | apply jN | apply jO | apply jP | apply jQ | apply jR | apply jS | apply jT (hb := hb3 _ (jA _)) | omega | (simp; done) | (simp; omega) | (dsimp only; omega)))); done))
        intro z2 hb0' k0' k1' k2' k7'
        (try simp only [List.setIfInBounds_toArray, List.set_cons_zero, List.set_cons_succ] at k0' k1' k2' k7')
        try clear hb3
        try clear Lk0
        try clear Fk0
        try clear Qk0
        try clear Lk1
        try clear Fk1
        try clear Qk1
        try clear Lk2
        try clear Fk2
        try clear Qk2
        try clear hb0
        try clear k0
        try clear k1
        try clear k2
        try clear k7
        have hb0 := hb0'; clear hb0'
        have k0 := k0'; clear k0'
        have k1 := k1'; clear k1'
        have k2 := k2'; clear k2'
        have k7 := k7'; clear k7'
        have Lk0 := k0.later
        have Fk0 := k0.laterF
        have Qk0 := k0.lt
        have Lk1 := k1.later
        have Fk1 := k1.laterF
        have Qk1 := k1.lt
        have Lk2 := k2.later
        have Fk2 := k2.laterF
        have Qk2 := k2.lt
        have Lk7 := k7.later
        have Fk7 := k7.laterF
        have Qk7 := k7.lt
        have hbz := bl_tr hb hb0
        by_cases hy : aa = 2
        · obtain ⟨rfl, rfl, rfl⟩ := hyes.out hy
          subst hy
          clear hyes hno
          go_wp2
          go_roundw
          case rel => exact ⟨k + 1, by omega, by go_num, hbz⟩
          case measure => simp [intOf]; omega
        · have hy' : (aa == 2) = false := by simp [hy]
          by_cases hz : aa = 0
          · obtain rfl := hno.out hz
            subst hz
            clear hyes hno
            go_wp2
            go_roundw
            case rel => exact ⟨k + 1, by omega, by go_num, hbz⟩
            case measure => simp [intOf]; omega
          · have hz' : (aa == 0) = false := by simp [hz]
            clear hyes hno
            go_wp2
            go_roundw
            case rel => exact ⟨k + 1, by omega, by go_num, hbz⟩
            case measure => simp [intOf]; omega
      · obtain rfl : k = rl := by omega
        go_wp2
        go_ret
        exact ⟨rfl, bl_tr hbw hb⟩
  · skip
    rw [hw] at fM
    have hz5 := hb0.size
    obtain ⟨hv2, hc2, hcn⟩ := fM.out (by simp)
    replace hv2 := Lib.hid hv2
    replace hcn := Lib.hid hcn
    clear fM
    go_upto_region 13 with fail
    refine wp_any (w0 := wf2) ⟨[15, 16, 17], [12, 13], [some 131, some 132, some 133, some 134, some 135, some 136, some 137, some 138, some 139, some 140, some 130, some 141, some 142, some 143, some 13, none, none, none], [[], [0], [], [], [3], [0, 1, 3, 4], [], [6], [0, 1, 3, 4, 5, 6, 7], [0, 1, 2, 3, 4, 5, 6, 7, 8], [0, 1, 2, 3, 4, 5, 6, 7, 8, 9], [0, 1, 2, 3, 4, 5, 6, 7, 8, 9, 10], [0, 1, 2, 3, 4, 5, 6, 7, 8, 9, 10], [0, 1, 2, 3, 4, 5, 6, 7, 8, 9, 10], [], [0, 1, 2, 3, 4, 5, 6, 7, 8, 9, 10, 11, 14], [0, 1, 2, 3, 4, 5, 6, 7, 8, 9, 10, 11, 12, 14, 15], [0, 1, 2, 3, 4, 5, 6, 7, 8, 9, 10, 11, 12, 13, 14, 15, 16]], [[], [0], [], [], [3], [4], [], [6], [5, 7], [1, 2, 5, 8], [1, 5, 9], [1, 5, 10], [1, 5, 10], [1, 5, 10], [], [], [], []]⟩ (fun γ => [(γ 14).n]) (by kernel_rfl) (by kernel_rfl) (by (with_reducible (repeat' (first | assumption | apply jA | apply jB | apply jC | apply jD | apply jE | apply jF | apply hb3 | omega | (simp; done) | (simp; omega) | (dsimp only; omega))))) (fun u => by simp only [putD, Act.put, List.setIfInBounds_toArray, List.set_cons_zero, List.set_cons_succ, Nat.zero_add, Nat.reduceAdd]; rfl) ?_
    apply RGW.on (i := 0) rfl
    · (simp only [gA, gB, gC] <;> rfl)
    · intro γ u W hcur hd
      clear hd
      (try dsimp only)
      refine ⟨rfl, ?_⟩
      go_simp <;> (try go_bits) <;> with_reducible rfl
    · exact fun _ _ _ => rfl
    · rfl
    dsimp only [nA, cA]
    apply RGW.gh (⟨fun γ => vNt n.world (.slice (γ 1).A nl (γ 1).c), fun γ W => NtIn n (γ 1).A (γ 1).c W, fun _ => []⟩) (i := 1) rfl
    · (simp only [gA, gB, gC] <;> rfl)
    · intro γ u W hcur hd
      obtain ⟨⟨h0, -, -⟩, -⟩ := hd
      dsimp only at h0
      (try simp only [h0])
      refine ⟨rfl, fun K hK => ?_⟩
      go_simp
      (go_at_call 13; (with_reducible refine (hcp.out _ (bl_tr hb0 hcur)).mono ?_); rintro e w3 ⟨Ax, cx, rfl, hb3, hox⟩; dsimp only; exact hK.out ⟨0, undef, Ax, cx⟩ _ _ (by simp [up]) hb3 (by simpa [up] using hox) (by simp))
    · intro γ γ' hg
      try dsimp only
      have e1 := hg 1 (by decide)
      simp only [e1]
      try exact ⟨trivial, fun _ h => h⟩
    · intro γ W W' hbl hR
      first | exact hR.below hbl | exact own_below hR hbl | exact trivial | exact ⟨hR.1.below hbl, hR.2⟩
    · rfl
    dsimp only [nA, cA]
    apply RGW.on (i := 2) rfl
    · (simp only [gA, gB, gC] <;> rfl)
    · intro γ u W hcur hd
      clear hd
      (try dsimp only)
      refine ⟨rfl, ?_⟩
      go_simp <;> (try go_bits) <;> with_reducible rfl
    · exact fun _ _ _ => rfl
    · rfl
    dsimp only [nA, cA]
    apply RGW.on (i := 3) rfl
    · (simp only [gA, gB, gC] <;> rfl)
    · intro γ u W hcur hd
      clear hd
      (try dsimp only)
      refine ⟨rfl, ?_⟩
      go_simp <;> (try go_bits) <;> with_reducible rfl
    · exact fun _ _ _ => rfl
    · rfl
    dsimp only [nA, cA]
    apply RGW.on (i := 4) rfl
    · (simp only [gA, gB, gC] <;> rfl)
    · intro γ u W hcur hd
      obtain ⟨⟨h3, -, -⟩, -⟩ := hd
      dsimp only at h3
      (try simp only [h3])
      refine ⟨rfl, ?_⟩
      go_simp <;> (try go_bits) <;> with_reducible rfl
    · exact fun _ _ _ => rfl
    · rfl
    dsimp only [nA, cA]
    apply RGW.gh (⟨fun γ => .slice (γ 5).A rl (γ 5).c, fun γ W => Sl cRd 4 W (γ 5).A l, fun _ => []⟩) (i := 5) rfl
    · (simp only [gA, gB, gC] <;> rfl)
    · intro γ u W hcur hd
      obtain ⟨⟨h4, -, -⟩, -⟩ := hd
      dsimp only at h4
      (try simp only [h4])
      refine ⟨rfl, fun K hK => ?_⟩
      go_simp
      (go_at_call 22; (with_reducible refine (hcr.out _ (bl_tr hb0 hcur)).mono ?_); rintro e w3 ⟨Ax, cx, rfl, hb3, hox⟩; dsimp only; exact hK.out ⟨0, undef, Ax, cx⟩ _ _ (by simp [up]) hb3 (by simpa [up] using hox) (by simp))
    · intro γ γ' hg
      try dsimp only
      have e1 := hg 1 (by decide)
      have e5 := hg 5 (by decide)
      simp only [e1, e5]
      try exact ⟨trivial, fun _ h => h⟩
    · intro γ W W' hbl hR
      first | exact hR.below hbl | exact own_below hR hbl | exact trivial | exact ⟨hR.1.below hbl, hR.2⟩
    · rfl
    dsimp only [nA, cA]
    apply RGW.on (i := 6) rfl
    · (simp only [gA, gB, gC] <;> rfl)
    · intro γ u W hcur hd
      clear hd
      (try dsimp only)
      refine ⟨rfl, ?_⟩
      go_simp <;> (try go_bits) <;> with_reducible rfl
    · exact fun _ _ _ => rfl
    · rfl
    dsimp only [nA, cA]
    apply RGW.on (i := 7) rfl
    · (simp only [gA, gB, gC] <;> rfl)
    · intro γ u W hcur hd
      obtain ⟨⟨h6, -, -⟩, -⟩ := hd
      dsimp only at h6
      (try simp only [h6])
      refine ⟨rfl, ?_⟩
      go_simp <;> (try go_bits) <;> with_reducible rfl
    · exact fun _ _ _ => rfl
    · rfl
    dsimp only [nA, cA]
    apply RGW.on (i := 8) rfl
    · (simp only [gA, gB, gC] <;> rfl)
    · intro γ u W hcur hd
      obtain ⟨⟨h5, r5, -⟩, ⟨h7, -, -⟩, -⟩ := hd
      dsimp only at h5 h7 r5
      (try simp only [h5, h7])
      refine ⟨rfl, ?_⟩
      go_simp <;> (try go_bits) <;> with_reducible rfl
    · intro γ γ' hg
      try dsimp only
      have e1 := hg 1 (by decide)
      have e5 := hg 5 (by decide)
      simp only [e1, e5]
    · rfl
    dsimp only [nA, cA]
    apply RGW.call (i := 9) rfl
    · (simp only [gA, gB, gC] <;> rfl)
    · intro γ u W hcur hd
      obtain ⟨⟨h1, r1, -⟩, ⟨h2, -, -⟩, ⟨h5, r5, -⟩, ⟨h8, -, -⟩, -⟩ := hd
      dsimp only at h1 h2 h5 h8 r1 r5
      (try simp only [h1, h2, h5, h8])
      refine ⟨rfl, fun K hK => ?_⟩
      go_simp
      (go_at_call 23; (with_reducible refine (hv2.out _ _ _ _ _ r1 r5).mono ?_); rintro e w3 ⟨rfl, hb3⟩; replace hb3 := bl_tt hb3)
      (try dsimp only)
      exact hK.out _ _ rfl (by (with_reducible (repeat' (first | assumption | apply jA | apply jB | apply jC | apply jD | apply jE | apply jF | apply hb3 | omega | (simp; done) | (simp; omega) | (dsimp only; omega)))))
    · exact fun _ _ _ => rfl
    · rfl
    dsimp only [nA, cA]
    apply RGW.on (i := 10) rfl
    · (simp only [gA, gB, gC] <;> rfl)
    · intro γ u W hcur hd
      obtain ⟨⟨h1, r1, -⟩, ⟨h5, r5, -⟩, ⟨h9, -, -⟩, -⟩ := hd
      dsimp only at h1 h5 h9 r1 r5
      (try simp only [h1, h5, h9])
      refine ⟨rfl, ?_⟩
      go_simp <;> (try go_bits) <;> with_reducible rfl
    · exact fun _ _ _ => rfl
    · rfl
    dsimp only [nA, cA]
    apply RGW.on (i := 11) rfl
    · (simp only [gA, gB, gC] <;> rfl)
    · intro γ u W hcur hd
      obtain ⟨⟨h1, r1, -⟩, ⟨h5, r5, -⟩, ⟨h10, -, -⟩, -⟩ := hd
      dsimp only at h1 h5 h10 r1 r5
      (try simp only [h1, h5, h10])
      refine ⟨rfl, ?_⟩
      go_simp <;> (try go_bits) <;> with_reducible rfl
    · exact fun _ _ _ => rfl
    · rfl
    dsimp only [nA, cA]
    apply RGW.onL (i := 12) rfl
    · (simp only [gA, gB, gC] <;> rfl)
    · intro γ u Wm W hcur hd hX
      obtain ⟨⟨h1, r1, -⟩, ⟨h5, r5, -⟩, ⟨h10, -, -⟩, -⟩ := hd
      dsimp only at h1 h5 h10 r1 r5
      (try simp only [h1, h5, h10])
      refine ⟨rfl, ?_⟩
      go_simp <;> (try go_bits) <;> with_reducible rfl
    · exact fun _ _ _ => rfl
    dsimp only [nA, cA]
    apply RGW.onL (i := 13) rfl
    · (simp only [gA, gB, gC] <;> rfl)
    · intro γ u Wm W hcur hd hX
      obtain ⟨⟨h1, r1, -⟩, ⟨h5, r5, -⟩, ⟨h10, -, -⟩, -⟩ := hd
      dsimp only at h1 h5 h10 r1 r5
      (try simp only [h1, h5, h10])
      refine ⟨rfl, ?_⟩
      go_simp <;> (try go_bits) <;> with_reducible rfl
    · exact fun _ _ _ => rfl
    dsimp only [nA, cA]
    apply RGW.alloc (i := 14) rfl
    · (simp only [gA, gB, gC] <;> rfl)
    · intro γ u W hcur hd
      clear hd
      (try dsimp only)
      refine ⟨rfl, fun K hK => ?_⟩
      go_simp
      exact hK.out _ _ rfl rfl
    · exact fun _ _ _ => rfl
    · rfl
    · rfl
    dsimp only [nA, cA]
    refine RGW.skip (i := 15) rfl rfl ?_
    dsimp only [nA, cA]
    refine RGW.skip (i := 16) rfl rfl ?_
    dsimp only [nA, cA]
    refine RGW.skip (i := 17) rfl rfl ?_
    dsimp only [nA, cA]
    refine RGW.fin (fun γ u wg hwg hd hdis => ?_)
    obtain ⟨⟨h0, -, -⟩, ⟨h1, r1, b1⟩, ⟨h2, -, -⟩, ⟨h3, -, -⟩, ⟨h4, -, -⟩, ⟨h5, r5, b5⟩, ⟨h6, -, -⟩, ⟨h7, -, -⟩, ⟨h8, -, -⟩, ⟨h9, -, -⟩, ⟨h10, -, -⟩, ⟨h11, -, -⟩, ⟨h12, -, -⟩, ⟨h13, -, -⟩, ⟨h14, r14, b14⟩, -⟩ := hd
    dsimp only at h0 h1 h2 h3 h4 h5 h6 h7 h8 h9 h10 h11 h12 h13 h14 r1 r5 r14 b1 b5 b14
    clear hdis
    simp only [h0, h1, h2, h3, h4, h5, h6, h7, h8, h9, h10, h11, h12, h13, h14]
    clear h14 h13 h12 h11 h10 h9 h8 h7 h6 h5 h4 h3 h2 h1 h0
    replace b14 := b14 _ (List.mem_singleton.2 rfl)
    generalize hγ14 : (γ 14).n = g14 at *
    clear hγ14
    clear u
    simp only [List.map_cons, List.map_nil]
    apply PlanW.step
    · (simp only [gA, gB, gC] <;> rfl)
    · rfl
    intro K hK
    refine wp_store_keep (X := [g14]) (w0 := wg) rfl rfl rfl (by with_reducible first | exact bx_refl _ _ | assumption) (by with_reducible first | assumption | (apply Blk.below (hb := hwg); assumption)) (by simp) (by kernel_rfl) (by rfl) (by simp [Value.oneCell']) (fun hres1 hcur => ?_)
    refine hK.out _ _ hcur (fun _ => ?_)
    clear hK K
    try simp only [Act.put, List.setIfInBounds_toArray, List.set_cons_zero, List.set_cons_succ]
    apply PlanW.step
    · (simp only [gA, gB, gC] <;> rfl)
    · rfl
    intro K hK
    go_simp
    refine hK.out _ _ (by (with_reducible (repeat' (first | assumption | apply jG | apply jH | apply jI | apply jJ | apply jK | apply hb3x | omega | (simp; done) | (simp; omega) | (dsimp only; omega))))) (fun hcur => ?_)
    clear hK K
    try simp only [Act.put, List.setIfInBounds_toArray, List.set_cons_zero, List.set_cons_succ]
    apply PlanW.step
    · (simp only [gA, gB, gC] <;> rfl)
    · rfl
    intro K hK
    go_simp
    refine hK.out _ _ (by (with_reducible (repeat' (first | assumption | apply jG | apply jH | apply jI | apply jJ | apply jK | apply hb3x | omega | (simp; done) | (simp; omega) | (dsimp only; omega))))) (fun hcur => ?_)
    clear hK K
    try simp only [Act.put, List.setIfInBounds_toArray, List.set_cons_zero, List.set_cons_succ]
    refine PlanW.done ?_
    have hb3 := bl_tt hwg
    clear r1 r5
    generalize g14 = gw at *
    apply absTB5 (w0 := w) (g0 := w.heap.size) (g1 := w.heap.size + 1) (g2 := w.heap.size + 2) (g3 := gv) (g4 := gw)
    iterate 6 (focus ((with_reducible (repeat' (first | assumption | apply jA | apply jB | apply jC | apply jD | apply jE | apply jF | apply hb3 | apply jG | apply jH | apply jI | apply jJ | apply jK | apply hb3x | (apply jL; first | (simp; done) | rfl) | apply jM | apply jN | apply jO | apply jP | apply jQ | apply jR | apply jS | apply jT (hb := hb3 _ (jA _)) | omega | (simp; done) | (simp; omega) | (dsimp only; omega)))); done))
    intro wg2 hb0' k0' k1' k2' k3' k4'
    (try simp only [List.setIfInBounds_toArray, List.set_cons_zero, List.set_cons_succ] at k0' k1' k2' k3' k4')
    try clear hb3
    try clear hb0
    try clear k0
    try clear k1
    try clear k2
    try clear k3
    try clear k4
    have hb0 := hb0'; clear hb0'
    have k0 := k0'; clear k0'
    have k1 := k1'; clear k1'
    have k2 := k2'; clear k2'
    have k3 := k3'; clear k3'
    have k4 := k4'; clear k4'
    have Lk0 := k0.later
    have Fk0 := k0.laterF
    have Qk0 := k0.lt
    have Lk1 := k1.later
    have Fk1 := k1.laterF
    have Qk1 := k1.lt
    have Lk2 := k2.later
    have Fk2 := k2.laterF
    have Qk2 := k2.lt
    have Lk3 := k3.later
    have Fk3 := k3.laterF
    have Qk3 := k3.lt
    have Lk4 := k4.later
    have Fk4 := k4.laterF
    have Qk4 := k4.lt
    go_upto_region 14 with fail
    refine wp_any (w0 := wg2) ⟨[], [], [some 144, some 145, some 146, some 147, some 148, some 149, some 150, some 151, some 152, some 153, some 154, some 155, some 156, some 157], [[], [0], [0, 1], [0, 1, 2], [0, 1, 2], [0, 1, 2, 3, 4], [0, 1, 2, 3, 4, 5], [0, 1, 2, 3, 4, 5, 6], [0, 1, 2, 3, 4, 5, 6, 7], [0, 1, 2, 3, 4, 5, 6, 7], [0, 1, 2, 3, 4, 5, 6, 7, 8, 9], [0, 1, 2, 3, 4, 5, 6, 7], [0, 1, 2, 3, 4, 5, 6, 7, 8, 9, 10, 11], [0, 1, 2, 3, 4, 5, 6, 7, 8, 9, 10, 11, 12]], [[], [0], [1], [2], [2], [2, 3, 4], [2, 5], [6], [7], [7], [7, 8, 9], [7], [7, 10, 11], [7, 12]]⟩ (fun _ => []) (by kernel_rfl) (by kernel_rfl) (by (with_reducible (repeat' (first | assumption | apply jA | apply jB | apply jC | apply jD | apply jE | apply jF | apply hb3 | omega | (simp; done) | (simp; omega) | (dsimp only; omega))))) (fun u => by simp only [putD, Act.put, List.setIfInBounds_toArray, List.set_cons_zero, List.set_cons_succ, Nat.zero_add, Nat.reduceAdd]; rfl) ?_
    apply RGW.on (i := 0) rfl
    · (simp only [gA, gB, gC] <;> rfl)
    · intro γ u W hcur hd
      clear hd
      (try dsimp only)
      refine ⟨rfl, ?_⟩
      go_simp <;> (try go_bits) <;> with_reducible rfl
    · exact fun _ _ _ => rfl
    · rfl
    dsimp only [nA, cA]
    apply RGW.on (i := 1) rfl
    · (simp only [gA, gB, gC] <;> rfl)
    · intro γ u W hcur hd
      obtain ⟨⟨h0, -, -⟩, -⟩ := hd
      dsimp only at h0
      (try simp only [h0])
      refine ⟨rfl, ?_⟩
      go_simp <;> (try go_bits) <;> with_reducible rfl
    · exact fun _ _ _ => rfl
    · rfl
    dsimp only [nA, cA]
    apply RGW.on (i := 2) rfl
    · (simp only [gA, gB, gC] <;> rfl)
    · intro γ u W hcur hd
      obtain ⟨⟨h1, -, -⟩, -⟩ := hd
      dsimp only at h1
      (try simp only [h1])
      refine ⟨rfl, ?_⟩
      go_simp <;> (try go_bits) <;> with_reducible rfl
    · exact fun _ _ _ => rfl
    · rfl
    dsimp only [nA, cA]
    apply RGW.on (i := 3) rfl
    · (simp only [gA, gB, gC] <;> rfl)
    · intro γ u W hcur hd
      obtain ⟨⟨h2, -, -⟩, -⟩ := hd
      dsimp only at h2
      (try simp only [h2])
      refine ⟨?_, ?_⟩
      · (simp [Region.wanted, yielded, undef, *]; done)
      go_simp <;> (try go_bits) <;> with_reducible rfl
    · exact fun _ _ _ => rfl
    · rfl
    dsimp only [nA, cA]
    apply RGW.on (i := 4) rfl
    · (simp only [gA, gB, gC] <;> rfl)
    · intro γ u W hcur hd
      obtain ⟨⟨h2, -, -⟩, -⟩ := hd
      dsimp only at h2
      (try simp only [h2])
      refine ⟨?_, ?_⟩
      · (simp [Region.wanted, yielded, undef, *]; done)
      go_simp <;> (try go_bits) <;> with_reducible rfl
    · exact fun _ _ _ => rfl
    · rfl
    dsimp only [nA, cA]
    apply RGW.on (i := 5) rfl
    · (simp only [gA, gB, gC] <;> rfl)
    · intro γ u W hcur hd
      obtain ⟨⟨h2, -, -⟩, ⟨h3, -, -⟩, ⟨h4, -, -⟩, -⟩ := hd
      dsimp only at h2 h3 h4
      (try simp only [h2, h3, h4])
      refine ⟨?_, ?_⟩
      · (simp [Region.wanted, yielded, undef, *]; done)
      go_simp <;> (try go_bits) <;> with_reducible rfl
    · exact fun _ _ _ => rfl
    · rfl
    dsimp only [nA, cA]
    apply RGW.on (i := 6) rfl
    · (simp only [gA, gB, gC] <;> rfl)
    · intro γ u W hcur hd
      obtain ⟨⟨h2, -, -⟩, ⟨h5, -, -⟩, -⟩ := hd
      dsimp only at h2 h5
      (try simp only [h2, h5])
      refine ⟨rfl, ?_⟩
      go_simp <;> (try go_bits) <;> with_reducible rfl
    · exact fun _ _ _ => rfl
    · rfl
    dsimp only [nA, cA]
    apply RGW.on (i := 7) rfl
    · (simp only [gA, gB, gC] <;> rfl)
    · intro γ u W hcur hd
      obtain ⟨⟨h6, -, -⟩, -⟩ := hd
      dsimp only at h6
      (try simp only [h6])
      refine ⟨rfl, ?_⟩
      go_simp <;> (try go_bits) <;> with_reducible rfl
    · exact fun _ _ _ => rfl
    · rfl
    dsimp only [nA, cA]
    apply RGW.on (i := 8) rfl
    · (simp only [gA, gB, gC] <;> rfl)
    · intro γ u W hcur hd
      obtain ⟨⟨h7, -, -⟩, -⟩ := hd
      dsimp only at h7
      (try simp only [h7])
      refine ⟨?_, ?_⟩
      · (simp [Region.wanted, yielded, undef, *]; done)
      go_simp <;> (try go_bits) <;> with_reducible rfl
    · exact fun _ _ _ => rfl
    · rfl
    dsimp only [nA, cA]
    apply RGW.on (i := 9) rfl
    · (simp only [gA, gB, gC] <;> rfl)
    · intro γ u W hcur hd
      obtain ⟨⟨h7, -, -⟩, -⟩ := hd
      dsimp only at h7
      (try simp only [h7])
      refine ⟨?_, ?_⟩
      · (simp [Region.wanted, yielded, undef, *]; done)
      go_simp <;> (try go_bits) <;> with_reducible rfl
    · exact fun _ _ _ => rfl
    · rfl
    dsimp only [nA, cA]
    apply RGW.call (i := 10) rfl
    · (simp only [gA, gB, gC] <;> rfl)
    · intro γ u W hcur hd
      obtain ⟨⟨h7, -, -⟩, ⟨h8, -, -⟩, ⟨h9, -, -⟩, -⟩ := hd
      dsimp only at h7 h8 h9
      (try simp only [h7, h8, h9])
      refine ⟨?_, fun K hK => ?_⟩
      · (simp [Region.wanted, yielded, undef, *]; done)
      go_simp
      (go_at_call 53; (with_reducible refine (hcn.out _).mono ?_); rintro e w3 ⟨rfl, hb3⟩; replace hb3 := bl_tt hb3)
      (try dsimp only)
      exact hK.out _ _ rfl (by (with_reducible (repeat' (first | assumption | apply jA | apply jB | apply jC | apply jD | apply jE | apply jF | apply hb3 | omega | (simp; done) | (simp; omega) | (dsimp only; omega)))))
    · exact fun _ _ _ => rfl
    · rfl
    dsimp only [nA, cA]
    apply RGW.on (i := 11) rfl
    · (simp only [gA, gB, gC] <;> rfl)
    · intro γ u W hcur hd
      obtain ⟨⟨h7, -, -⟩, -⟩ := hd
      dsimp only at h7
      (try simp only [h7])
      refine ⟨?_, ?_⟩
      · (simp [Region.wanted, yielded, undef, *]; done)
      go_simp <;> (try go_bits) <;> with_reducible rfl
    · exact fun _ _ _ => rfl
    · rfl
    dsimp only [nA, cA]
    apply RGW.on (i := 12) rfl
    · (simp only [gA, gB, gC] <;> rfl)
    · intro γ u W hcur hd
      obtain ⟨⟨h7, -, -⟩, ⟨h10, -, -⟩, ⟨h11, -, -⟩, -⟩ := hd
      dsimp only at h7 h10 h11
      (try simp only [h7, h10, h11])
      refine ⟨?_, ?_⟩
      · (simp [Region.wanted, yielded, undef, *]; done)
      go_simp <;> (try go_bits) <;> with_reducible rfl
    · exact fun _ _ _ => rfl
    · rfl
    dsimp only [nA, cA]
    apply RGW.on (i := 13) rfl
    · (simp only [gA, gB, gC] <;> rfl)
    · intro γ u W hcur hd
      obtain ⟨⟨h7, -, -⟩, ⟨h12, -, -⟩, -⟩ := hd
      dsimp only at h7 h12
      (try simp only [h7, h12])
      refine ⟨rfl, ?_⟩
      go_simp <;> (try go_bits) <;> with_reducible rfl
    · exact fun _ _ _ => rfl
    · rfl
    dsimp only [nA, cA]
    refine RGW.fin (fun γ u wh hwh hd hdis => ?_)
    obtain ⟨⟨h0, -, -⟩, ⟨h1, -, -⟩, ⟨h2, -, -⟩, ⟨h3, -, -⟩, ⟨h4, -, -⟩, ⟨h5, -, -⟩, ⟨h6, -, -⟩, ⟨h7, -, -⟩, ⟨h8, -, -⟩, ⟨h9, -, -⟩, ⟨h10, -, -⟩, ⟨h11, -, -⟩, ⟨h12, -, -⟩, ⟨h13, -, -⟩, -⟩ := hd
    dsimp only at h0 h1 h2 h3 h4 h5 h6 h7 h8 h9 h10 h11 h12 h13
    clear hdis
    simp only [h0, h1, h2, h3, h4, h5, h6, h7, h8, h9, h10, h11, h12, h13]
    clear h13 h12 h11 h10 h9 h8 h7 h6 h5 h4 h3 h2 h1 h0
    clear u
    simp only [List.map_nil]
    refine PlanW.done ?_
    have hb3 := bl_tt hwh
    apply absTB3 (w0 := w) (g0 := w.heap.size) (g1 := w.heap.size + 1) (g2 := w.heap.size + 2)
    iterate 4 (focus ((with_reducible (repeat' (first | assumption | apply jA | apply jB | apply jC | apply jD | apply jE | apply jF | apply hb3 | apply jG | apply jH | apply jI | apply jJ | apply jK | apply hb3x | (apply jL; first | (simp; done) | rfl) | apply jM | apply jN | apply jO | apply jP | apply jQ | apply jR | apply jS | apply jT (hb := hb3 _ (jA _)) | omega | (simp; done) | (simp; omega) | (dsimp only; omega)))); done))
    intro y0 hb0' k0' k1' k2'
    (try simp only [List.setIfInBounds_toArray, List.set_cons_zero, List.set_cons_succ] at k0' k1' k2')
    try clear hb3
    try clear Lk0
    try clear Fk0
    try clear Qk0
    try clear Lk1
    try clear Fk1
    try clear Qk1
    try clear Lk2
    try clear Fk2
    try clear Qk2
    try clear Lk3
    try clear Fk3
    try clear Qk3
    try clear Lk4
    try clear Fk4
    try clear Qk4
    try clear hb0
    try clear k0
    try clear k1
    try clear k2
    have hb0 := hb0'; clear hb0'
    have k0 := k0'; clear k0'
    have k1 := k1'; clear k1'
    have k2 := k2'; clear k2'
    have Lk0 := k0.later
    have Fk0 := k0.laterF
    have Qk0 := k0.lt
    have Lk1 := k1.later
    have Fk1 := k1.laterF
    have Qk1 := k1.lt
    have Lk2 := k2.later
    have Fk2 := k2.laterF
    have Qk2 := k2.lt
    go_upto_region 16 with fail
    refine wp_any (w0 := y0) ⟨[12, 13, 14], [9, 10], [some 159, some 160, some 161, some 162, some 163, some 164, some 165, some 158, some 166, some 167, some 168, some 16, none, none, none], [[], [0], [], [], [3], [0, 1, 3, 4], [0, 1, 2, 3, 4, 5], [0, 1, 2, 3, 4, 5, 6], [0, 1, 2, 3, 4, 5, 6, 7], [0, 1, 2, 3, 4, 5, 6, 7], [0, 1, 2, 3, 4, 5, 6, 7], [], [0, 1, 2, 3, 4, 5, 6, 7, 8, 11], [0, 1, 2, 3, 4, 5, 6, 7, 8, 9, 11, 12], [0, 1, 2, 3, 4, 5, 6, 7, 8, 9, 10, 11, 12, 13]], [[], [0], [], [], [3], [4], [1, 2, 5], [1, 5, 6], [1, 5, 7], [1, 5, 7], [1, 5, 7], [], [], [], []]⟩ (fun γ => [(γ 11).n]) (by kernel_rfl) (by kernel_rfl) (by (with_reducible (repeat' (first | assumption | apply jA | apply jB | apply jC | apply jD | apply jE | apply jF | apply hb3 | omega | (simp; done) | (simp; omega) | (dsimp only; omega))))) (fun u => by simp only [putD, Act.put, List.setIfInBounds_toArray, List.set_cons_zero, List.set_cons_succ, Nat.zero_add, Nat.reduceAdd]; rfl) ?_
    apply RGW.on (i := 0) rfl
    · (simp only [gA, gB, gC] <;> rfl)
    · intro γ u W hcur hd
      clear hd
      (try dsimp only)
      refine ⟨rfl, ?_⟩
      go_simp <;> (try go_bits) <;> with_reducible rfl
    · exact fun _ _ _ => rfl
    · rfl
    dsimp only [nA, cA]
    apply RGW.gh (⟨fun γ => vNt n.world (.slice (γ 1).A nl (γ 1).c), fun γ W => NtIn n (γ 1).A (γ 1).c W, fun _ => []⟩) (i := 1) rfl
    · (simp only [gA, gB, gC] <;> rfl)
    · intro γ u W hcur hd
      obtain ⟨⟨h0, -, -⟩, -⟩ := hd
      dsimp only at h0
      (try simp only [h0])
      refine ⟨rfl, fun K hK => ?_⟩
      go_simp
      (go_at_call 13; (with_reducible refine (hcp.out _ (bl_tr hb0 hcur)).mono ?_); rintro e w3 ⟨Ax, cx, rfl, hb3, hox⟩; dsimp only; exact hK.out ⟨0, undef, Ax, cx⟩ _ _ (by simp [up]) hb3 (by simpa [up] using hox) (by simp))
    · intro γ γ' hg
      try dsimp only
      have e1 := hg 1 (by decide)
      simp only [e1]
      try exact ⟨trivial, fun _ h => h⟩
    · intro γ W W' hbl hR
      first | exact hR.below hbl | exact own_below hR hbl | exact trivial | exact ⟨hR.1.below hbl, hR.2⟩
    · rfl
    dsimp only [nA, cA]
    apply RGW.on (i := 2) rfl
    · (simp only [gA, gB, gC] <;> rfl)
    · intro γ u W hcur hd
      clear hd
      (try dsimp only)
      refine ⟨rfl, ?_⟩
      go_simp <;> (try go_bits) <;> with_reducible rfl
    · exact fun _ _ _ => rfl
    · rfl
    dsimp only [nA, cA]
    apply RGW.on (i := 3) rfl
    · (simp only [gA, gB, gC] <;> rfl)
    · intro γ u W hcur hd
      clear hd
      (try dsimp only)
      refine ⟨rfl, ?_⟩
      go_simp <;> (try go_bits) <;> with_reducible rfl
    · exact fun _ _ _ => rfl
    · rfl
    dsimp only [nA, cA]
    apply RGW.on (i := 4) rfl
    · (simp only [gA, gB, gC] <;> rfl)
    · intro γ u W hcur hd
      obtain ⟨⟨h3, -, -⟩, -⟩ := hd
      dsimp only at h3
      (try simp only [h3])
      refine ⟨rfl, ?_⟩
      go_simp <;> (try go_bits) <;> with_reducible rfl
    · exact fun _ _ _ => rfl
    · rfl
    dsimp only [nA, cA]
    apply RGW.gh (⟨fun γ => .slice (γ 5).A rl (γ 5).c, fun γ W => Sl cRd 4 W (γ 5).A l, fun _ => []⟩) (i := 5) rfl
    · (simp only [gA, gB, gC] <;> rfl)
    · intro γ u W hcur hd
      obtain ⟨⟨h4, -, -⟩, -⟩ := hd
      dsimp only at h4
      (try simp only [h4])
      refine ⟨rfl, fun K hK => ?_⟩
      go_simp
      (go_at_call 22; (with_reducible refine (hcr.out _ (bl_tr hb0 hcur)).mono ?_); rintro e w3 ⟨Ax, cx, rfl, hb3, hox⟩; dsimp only; exact hK.out ⟨0, undef, Ax, cx⟩ _ _ (by simp [up]) hb3 (by simpa [up] using hox) (by simp))
    · intro γ γ' hg
      try dsimp only
      have e1 := hg 1 (by decide)
      have e5 := hg 5 (by decide)
      simp only [e1, e5]
      try exact ⟨trivial, fun _ h => h⟩
    · intro γ W W' hbl hR
      first | exact hR.below hbl | exact own_below hR hbl | exact trivial | exact ⟨hR.1.below hbl, hR.2⟩
    · rfl
    dsimp only [nA, cA]
    apply RGW.call (i := 6) rfl
    · (simp only [gA, gB, gC] <;> rfl)
    · intro γ u W hcur hd
      obtain ⟨⟨h1, r1, -⟩, ⟨h2, -, -⟩, ⟨h5, r5, -⟩, -⟩ := hd
      dsimp only at h1 h2 h5 r1 r5
      (try simp only [h1, h2, h5])
      refine ⟨rfl, fun K hK => ?_⟩
      go_simp
      (go_at_call 21; (with_reducible refine (hfi.out _ _ _ _ _ r1 r5).mono ?_); rintro e w3 ⟨rfl, hb3⟩; replace hb3 := bl_tt hb3)
      (try dsimp only)
      exact hK.out _ _ rfl (by (with_reducible (repeat' (first | assumption | apply jA | apply jB | apply jC | apply jD | apply jE | apply jF | apply hb3 | omega | (simp; done) | (simp; omega) | (dsimp only; omega)))))
    · exact fun _ _ _ => rfl
    · rfl
    dsimp only [nA, cA]
    apply RGW.on (i := 7) rfl
    · (simp only [gA, gB, gC] <;> rfl)
    · intro γ u W hcur hd
      obtain ⟨⟨h1, r1, -⟩, ⟨h5, r5, -⟩, ⟨h6, -, -⟩, -⟩ := hd
      dsimp only at h1 h5 h6 r1 r5
      (try simp only [h1, h5, h6])
      refine ⟨rfl, ?_⟩
      go_simp <;> (try go_bits) <;> with_reducible rfl
    · exact fun _ _ _ => rfl
    · rfl
    dsimp only [nA, cA]
    apply RGW.on (i := 8) rfl
    · (simp only [gA, gB, gC] <;> rfl)
    · intro γ u W hcur hd
      obtain ⟨⟨h1, r1, -⟩, ⟨h5, r5, -⟩, ⟨h7, -, -⟩, -⟩ := hd
      dsimp only at h1 h5 h7 r1 r5
      (try simp only [h1, h5, h7])
      refine ⟨rfl, ?_⟩
      go_simp <;> (try go_bits) <;> with_reducible rfl
    · exact fun _ _ _ => rfl
    · rfl
    dsimp only [nA, cA]
    apply RGW.onL (i := 9) rfl
    · (simp only [gA, gB, gC] <;> rfl)
    · intro γ u Wm W hcur hd hX
      obtain ⟨⟨h1, r1, -⟩, ⟨h5, r5, -⟩, ⟨h7, -, -⟩, -⟩ := hd
      dsimp only at h1 h5 h7 r1 r5
      (try simp only [h1, h5, h7])
      refine ⟨rfl, ?_⟩
      go_simp <;> (try go_bits) <;> with_reducible rfl
    · exact fun _ _ _ => rfl
    dsimp only [nA, cA]
    apply RGW.onL (i := 10) rfl
    · (simp only [gA, gB, gC] <;> rfl)
    · intro γ u Wm W hcur hd hX
      obtain ⟨⟨h1, r1, -⟩, ⟨h5, r5, -⟩, ⟨h7, -, -⟩, -⟩ := hd
      dsimp only at h1 h5 h7 r1 r5
      (try simp only [h1, h5, h7])
      refine ⟨rfl, ?_⟩
      go_simp <;> (try go_bits) <;> with_reducible rfl
    · exact fun _ _ _ => rfl
    dsimp only [nA, cA]
    apply RGW.alloc (i := 11) rfl
    · (simp only [gA, gB, gC] <;> rfl)
    · intro γ u W hcur hd
      clear hd
      (try dsimp only)
      refine ⟨rfl, fun K hK => ?_⟩
      go_simp
      exact hK.out _ _ rfl rfl
    · exact fun _ _ _ => rfl
    · rfl
    · rfl
    dsimp only [nA, cA]
    refine RGW.skip (i := 12) rfl rfl ?_
    dsimp only [nA, cA]
    refine RGW.skip (i := 13) rfl rfl ?_
    dsimp only [nA, cA]
    refine RGW.skip (i := 14) rfl rfl ?_
    dsimp only [nA, cA]
    refine RGW.fin (fun γ u y1 hy1 hd hdis => ?_)
    obtain ⟨⟨h0, -, -⟩, ⟨h1, r1, b1⟩, ⟨h2, -, -⟩, ⟨h3, -, -⟩, ⟨h4, -, -⟩, ⟨h5, r5, b5⟩, ⟨h6, -, -⟩, ⟨h7, -, -⟩, ⟨h8, -, -⟩, ⟨h9, -, -⟩, ⟨h10, -, -⟩, ⟨h11, r11, b11⟩, -⟩ := hd
    dsimp only at h0 h1 h2 h3 h4 h5 h6 h7 h8 h9 h10 h11 r1 r5 r11 b1 b5 b11
    clear hdis
    simp only [h0, h1, h2, h3, h4, h5, h6, h7, h8, h9, h10, h11]
    clear h11 h10 h9 h8 h7 h6 h5 h4 h3 h2 h1 h0
    replace b11 := b11 _ (List.mem_singleton.2 rfl)
    generalize hγ11 : (γ 11).n = g11 at *
    clear hγ11
    clear u
    simp only [List.map_cons, List.map_nil]
    apply PlanW.step
    · (simp only [gA, gB, gC] <;> rfl)
    · rfl
    intro K hK
    refine wp_store_keep (X := [g11]) (w0 := y1) rfl rfl rfl (by with_reducible first | exact bx_refl _ _ | assumption) (by with_reducible first | assumption | (apply Blk.below (hb := hy1); assumption)) (by simp) (by kernel_rfl) (by rfl) (by simp [Value.oneCell']) (fun hres1 hcur => ?_)
    refine hK.out _ _ hcur (fun _ => ?_)
    clear hK K
    try simp only [Act.put, List.setIfInBounds_toArray, List.set_cons_zero, List.set_cons_succ]
    apply PlanW.step
    · (simp only [gA, gB, gC] <;> rfl)
    · rfl
    intro K hK
    go_simp
    refine hK.out _ _ (by (with_reducible (repeat' (first | assumption | apply jG | apply jH | apply jI | apply jJ | apply jK | apply hb3x | omega | (simp; done) | (simp; omega) | (dsimp only; omega))))) (fun hcur => ?_)
    clear hK K
    try simp only [Act.put, List.setIfInBounds_toArray, List.set_cons_zero, List.set_cons_succ]
    apply PlanW.step
    · (simp only [gA, gB, gC] <;> rfl)
    · rfl
    intro K hK
    go_simp
    refine hK.out _ _ (by (with_reducible (repeat' (first | assumption | apply jG | apply jH | apply jI | apply jJ | apply jK | apply hb3x | omega | (simp; done) | (simp; omega) | (dsimp only; omega))))) (fun hcur => ?_)
    clear hK K
    try simp only [Act.put, List.setIfInBounds_toArray, List.set_cons_zero, List.set_cons_succ]
    refine PlanW.done ?_
    have hb3 := bl_tt hy1
    clear r1 r5
    generalize g11 = gp at *
    apply absTB4 (w0 := w) (g0 := w.heap.size) (g1 := w.heap.size + 1) (g2 := w.heap.size + 2) (g3 := gp)
    iterate 5 (focus ((with_reducible (repeat' (first | assumption | apply jA | apply jB | apply jC | apply jD | apply jE | apply jF | apply hb3 | apply jG | apply jH | apply jI | apply jJ | apply jK | apply hb3x | (apply jL; first | (simp; done) | rfl) | apply jM | apply jN | apply jO | apply jP | apply jQ | apply jR | apply jS | apply jT (hb := hb3 _ (jA _)) | omega | (simp; done) | (simp; omega) | (dsimp only; omega)))); done))
    intro y12 hb0' k0' k1' k2' k5'
    (try simp only [List.setIfInBounds_toArray, List.set_cons_zero, List.set_cons_succ] at k0' k1' k2' k5')
    try clear hb3
    try clear Lk0
    try clear Fk0
    try clear Qk0
    try clear Lk1
    try clear Fk1
    try clear Qk1
    try clear Lk2
    try clear Fk2
    try clear Qk2
    try clear hb0
    try clear k0
    try clear k1
    try clear k2
    try clear k5
    have hb0 := hb0'; clear hb0'
    have k0 := k0'; clear k0'
    have k1 := k1'; clear k1'
    have k2 := k2'; clear k2'
    have k5 := k5'; clear k5'
    have Lk0 := k0.later
    have Fk0 := k0.laterF
    have Qk0 := k0.lt
    have Lk1 := k1.later
    have Fk1 := k1.laterF
    have Qk1 := k1.lt
    have Lk2 := k2.later
    have Fk2 := k2.laterF
    have Qk2 := k2.lt
    have Lk5 := k5.later
    have Fk5 := k5.laterF
    have Qk5 := k5.lt
    go_upto_region 17 with fail
    refine wp_any (w0 := y12) ⟨[13, 14, 15], [10, 11], [some 170, some 171, some 172, some 173, some 174, some 175, some 176, some 177, some 169, some 178, some 179, some 180, some 19, none, none, none], [[], [0], [], [], [3], [0, 1, 3, 4], [0, 1, 3, 4, 5], [0, 1, 2, 3, 4, 5, 6], [0, 1, 2, 3, 4, 5, 6, 7], [0, 1, 2, 3, 4, 5, 6, 7, 8], [0, 1, 2, 3, 4, 5, 6, 7, 8], [0, 1, 2, 3, 4, 5, 6, 7, 8], [], [0, 1, 2, 3, 4, 5, 6, 7, 8, 9, 12], [0, 1, 2, 3, 4, 5, 6, 7, 8, 9, 10, 12, 13], [0, 1, 2, 3, 4, 5, 6, 7, 8, 9, 10, 11, 12, 13, 14]], [[], [0], [], [], [3], [4], [5], [1, 2, 5, 6], [1, 5, 7], [1, 5, 8], [1, 5, 8], [1, 5, 8], [], [], [], []]⟩ (fun γ => [(γ 12).n]) (by kernel_rfl) (by kernel_rfl) (by (with_reducible (repeat' (first | assumption | apply jA | apply jB | apply jC | apply jD | apply jE | apply jF | apply hb3 | omega | (simp; done) | (simp; omega) | (dsimp only; omega))))) (fun u => by simp only [putD, Act.put, List.setIfInBounds_toArray, List.set_cons_zero, List.set_cons_succ, Nat.zero_add, Nat.reduceAdd]; rfl) ?_
    apply RGW.on (i := 0) rfl
    · (simp only [gA, gB, gC] <;> rfl)
    · intro γ u W hcur hd
      clear hd
      (try dsimp only)
      refine ⟨rfl, ?_⟩
      go_simp <;> (try go_bits) <;> with_reducible rfl
    · exact fun _ _ _ => rfl
    · rfl
    dsimp only [nA, cA]
    apply RGW.gh (⟨fun γ => vNt n.world (.slice (γ 1).A nl (γ 1).c), fun γ W => NtIn n (γ 1).A (γ 1).c W, fun _ => []⟩) (i := 1) rfl
    · (simp only [gA, gB, gC] <;> rfl)
    · intro γ u W hcur hd
      obtain ⟨⟨h0, -, -⟩, -⟩ := hd
      dsimp only at h0
      (try simp only [h0])
      refine ⟨rfl, fun K hK => ?_⟩
      go_simp
      (go_at_call 13; (with_reducible refine (hcp.out _ (bl_tr hb0 hcur)).mono ?_); rintro e w3 ⟨Ax, cx, rfl, hb3, hox⟩; dsimp only; exact hK.out ⟨0, undef, Ax, cx⟩ _ _ (by simp [up]) hb3 (by simpa [up] using hox) (by simp))
    · intro γ γ' hg
      try dsimp only
      have e1 := hg 1 (by decide)
      simp only [e1]
      try exact ⟨trivial, fun _ h => h⟩
    · intro γ W W' hbl hR
      first | exact hR.below hbl | exact own_below hR hbl | exact trivial | exact ⟨hR.1.below hbl, hR.2⟩
    · rfl
    dsimp only [nA, cA]
    apply RGW.on (i := 2) rfl
    · (simp only [gA, gB, gC] <;> rfl)
    · intro γ u W hcur hd
      clear hd
      (try dsimp only)
      refine ⟨rfl, ?_⟩
      go_simp <;> (try go_bits) <;> with_reducible rfl
    · exact fun _ _ _ => rfl
    · rfl
    dsimp only [nA, cA]
    apply RGW.on (i := 3) rfl
    · (simp only [gA, gB, gC] <;> rfl)
    · intro γ u W hcur hd
      clear hd
      (try dsimp only)
      refine ⟨rfl, ?_⟩
      go_simp <;> (try go_bits) <;> with_reducible rfl
    · exact fun _ _ _ => rfl
    · rfl
    dsimp only [nA, cA]
    apply RGW.on (i := 4) rfl
    · (simp only [gA, gB, gC] <;> rfl)
    · intro γ u W hcur hd
      obtain ⟨⟨h3, -, -⟩, -⟩ := hd
      dsimp only at h3
      (try simp only [h3])
      refine ⟨rfl, ?_⟩
      go_simp <;> (try go_bits) <;> with_reducible rfl
    · exact fun _ _ _ => rfl
    · rfl
    dsimp only [nA, cA]
    apply RGW.gh (⟨fun γ => .slice (γ 5).A rl (γ 5).c, fun γ W => Sl cRd 4 W (γ 5).A l, fun _ => []⟩) (i := 5) rfl
    · (simp only [gA, gB, gC] <;> rfl)
    · intro γ u W hcur hd
      obtain ⟨⟨h4, -, -⟩, -⟩ := hd
      dsimp only at h4
      (try simp only [h4])
      refine ⟨rfl, fun K hK => ?_⟩
      go_simp
      (go_at_call 22; (with_reducible refine (hcr.out _ (bl_tr hb0 hcur)).mono ?_); rintro e w3 ⟨Ax, cx, rfl, hb3, hox⟩; dsimp only; exact hK.out ⟨0, undef, Ax, cx⟩ _ _ (by simp [up]) hb3 (by simpa [up] using hox) (by simp))
    · intro γ γ' hg
      try dsimp only
      have e1 := hg 1 (by decide)
      have e5 := hg 5 (by decide)
      simp only [e1, e5]
      try exact ⟨trivial, fun _ h => h⟩
    · intro γ W W' hbl hR
      first | exact hR.below hbl | exact own_below hR hbl | exact trivial | exact ⟨hR.1.below hbl, hR.2⟩
    · rfl
    dsimp only [nA, cA]
    apply RGW.on (i := 6) rfl
    · (simp only [gA, gB, gC] <;> rfl)
    · intro γ u W hcur hd
      obtain ⟨⟨h5, r5, -⟩, -⟩ := hd
      dsimp only at h5 r5
      (try simp only [h5])
      refine ⟨rfl, ?_⟩
      go_simp <;> (try go_bits) <;> with_reducible rfl
    · intro γ γ' hg
      try dsimp only
      have e1 := hg 1 (by decide)
      have e5 := hg 5 (by decide)
      simp only [e1, e5]
    · rfl
    dsimp only [nA, cA]
    apply RGW.call (i := 7) rfl
    · (simp only [gA, gB, gC] <;> rfl)
    · intro γ u W hcur hd
      obtain ⟨⟨h1, r1, -⟩, ⟨h2, -, -⟩, ⟨h5, r5, -⟩, ⟨h6, -, -⟩, -⟩ := hd
      dsimp only at h1 h2 h5 h6 r1 r5
      (try simp only [h1, h2, h5, h6])
      refine ⟨rfl, fun K hK => ?_⟩
      go_simp
      (go_at_call 23; (with_reducible refine (hv0.out _ _ _ _ _ r1 r5).mono ?_); rintro e w3 ⟨rfl, hb3⟩; replace hb3 := bl_tt hb3)
      (try dsimp only)
      exact hK.out _ _ rfl (by (with_reducible (repeat' (first | assumption | apply jA | apply jB | apply jC | apply jD | apply jE | apply jF | apply hb3 | omega | (simp; done) | (simp; omega) | (dsimp only; omega)))))
    · exact fun _ _ _ => rfl
    · rfl
    dsimp only [nA, cA]
    apply RGW.on (i := 8) rfl
    · (simp only [gA, gB, gC] <;> rfl)
    · intro γ u W hcur hd
      obtain ⟨⟨h1, r1, -⟩, ⟨h5, r5, -⟩, ⟨h7, -, -⟩, -⟩ := hd
      dsimp only at h1 h5 h7 r1 r5
      (try simp only [h1, h5, h7])
      refine ⟨rfl, ?_⟩
      go_simp <;> (try go_bits) <;> with_reducible rfl
    · exact fun _ _ _ => rfl
    · rfl
    dsimp only [nA, cA]
    apply RGW.on (i := 9) rfl
    · (simp only [gA, gB, gC] <;> rfl)
    · intro γ u W hcur hd
      obtain ⟨⟨h1, r1, -⟩, ⟨h5, r5, -⟩, ⟨h8, -, -⟩, -⟩ := hd
      dsimp only at h1 h5 h8 r1 r5
      (try simp only [h1, h5, h8])
      refine ⟨rfl, ?_⟩
      go_simp <;> (try go_bits) <;> with_reducible rfl
    · exact fun _ _ _ => rfl
    · rfl
    dsimp only [nA, cA]
    apply RGW.onL (i := 10) rfl
    · (simp only [gA, gB, gC] <;> rfl)
    · intro γ u Wm W hcur hd hX
      obtain ⟨⟨h1, r1, -⟩, ⟨h5, r5, -⟩, ⟨h8, -, -⟩, -⟩ := hd
      dsimp only at h1 h5 h8 r1 r5
      (try simp only [h1, h5, h8])
      refine ⟨rfl, ?_⟩
      go_simp <;> (try go_bits) <;> with_reducible rfl
    · exact fun _ _ _ => rfl
    dsimp only [nA, cA]
    apply RGW.onL (i := 11) rfl
    · (simp only [gA, gB, gC] <;> rfl)
    · intro γ u Wm W hcur hd hX
      obtain ⟨⟨h1, r1, -⟩, ⟨h5, r5, -⟩, ⟨h8, -, -⟩, -⟩ := hd
      dsimp only at h1 h5 h8 r1 r5
      (try simp only [h1, h5, h8])
      refine ⟨rfl, ?_⟩
      go_simp <;> (try go_bits) <;> with_reducible rfl
    · exact fun _ _ _ => rfl
    dsimp only [nA, cA]
    apply RGW.alloc (i := 12) rfl
    · (simp only [gA, gB, gC] <;> rfl)
    · intro γ u W hcur hd
      clear hd
      (try dsimp only)
      refine ⟨rfl, fun K hK => ?_⟩
      go_simp
      exact hK.out _ _ rfl rfl
    · exact fun _ _ _ => rfl
    · rfl
    · rfl
    dsimp only [nA, cA]
    refine RGW.skip (i := 13) rfl rfl ?_
    dsimp only [nA, cA]
    refine RGW.skip (i := 14) rfl rfl ?_
    dsimp only [nA, cA]
    refine RGW.skip (i := 15) rfl rfl ?_
    dsimp only [nA, cA]
    refine RGW.fin (fun γ u y2 hy2 hd hdis => ?_)
    obtain ⟨⟨h0, -, -⟩, ⟨h1, r1, b1⟩, ⟨h2, -, -⟩, ⟨h3, -, -⟩, ⟨h4, -, -⟩, ⟨h5, r5, b5⟩, ⟨h6, -, -⟩, ⟨h7, -, -⟩, ⟨h8, -, -⟩, ⟨h9, -, -⟩, ⟨h10, -, -⟩, ⟨h11, -, -⟩, ⟨h12, r12, b12⟩, -⟩ := hd
    dsimp only at h0 h1 h2 h3 h4 h5 h6 h7 h8 h9 h10 h11 h12 r1 r5 r12 b1 b5 b12
    clear hdis
    simp only [h0, h1, h2, h3, h4, h5, h6, h7, h8, h9, h10, h11, h12]
    clear h12 h11 h10 h9 h8 h7 h6 h5 h4 h3 h2 h1 h0
    replace b12 := b12 _ (List.mem_singleton.2 rfl)
    generalize hγ12 : (γ 12).n = g12 at *
    clear hγ12
    clear u
    simp only [List.map_cons, List.map_nil]
    apply PlanW.step
    · (simp only [gA, gB, gC] <;> rfl)
    · rfl
    intro K hK
    refine wp_store_keep (X := [g12]) (w0 := y2) rfl rfl rfl (by with_reducible first | exact bx_refl _ _ | assumption) (by with_reducible first | assumption | (apply Blk.below (hb := hy2); assumption)) (by simp) (by kernel_rfl) (by rfl) (by simp [Value.oneCell']) (fun hres1 hcur => ?_)
    refine hK.out _ _ hcur (fun _ => ?_)
    clear hK K
    try simp only [Act.put, List.setIfInBounds_toArray, List.set_cons_zero, List.set_cons_succ]
    apply PlanW.step
    · (simp only [gA, gB, gC] <;> rfl)
    · rfl
    intro K hK
    go_simp
    refine hK.out _ _ (by (with_reducible (repeat' (first | assumption | apply jG | apply jH | apply jI | apply jJ | apply jK | apply hb3x | omega | (simp; done) | (simp; omega) | (dsimp only; omega))))) (fun hcur => ?_)
    clear hK K
    try simp only [Act.put, List.setIfInBounds_toArray, List.set_cons_zero, List.set_cons_succ]
    apply PlanW.step
    · (simp only [gA, gB, gC] <;> rfl)
    · rfl
    intro K hK
    go_simp
    refine hK.out _ _ (by (with_reducible (repeat' (first | assumption | apply jG | apply jH | apply jI | apply jJ | apply jK | apply hb3x | omega | (simp; done) | (simp; omega) | (dsimp only; omega))))) (fun hcur => ?_)
    clear hK K
    try simp only [Act.put, List.setIfInBounds_toArray, List.set_cons_zero, List.set_cons_succ]
    refine PlanW.done ?_
    have hb3 := bl_tt hy2
    clear r1 r5
    generalize g12 = gq at *
    apply absTB5 (w0 := w) (g0 := w.heap.size) (g1 := w.heap.size + 1) (g2 := w.heap.size + 2) (g3 := gp) (g4 := gq)
    iterate 6 (focus ((with_reducible (repeat' (first | assumption | apply jA | apply jB | apply jC | apply jD | apply jE | apply jF | apply hb3 | apply jG | apply jH | apply jI | apply jJ | apply jK | apply hb3x | (apply jL; first | (simp; done) | rfl) | apply jM | apply jN | apply jO | apply jP | apply jQ | apply jR | apply jS | apply jT (hb := hb3 _ (jA _)) | omega | (simp; done) | (simp; omega) | (dsimp only; omega)))); done))
    intro y22 hb0' k0' k1' k2' k5' k6'
    (try simp only [List.setIfInBounds_toArray, List.set_cons_zero, List.set_cons_succ] at k0' k1' k2' k5' k6')
    try clear hb3
    try clear Lk0
    try clear Fk0
    try clear Qk0
    try clear Lk1
    try clear Fk1
    try clear Qk1
    try clear Lk2
    try clear Fk2
    try clear Qk2
    try clear Lk5
    try clear Fk5
    try clear Qk5
    try clear hb0
    try clear k0
    try clear k1
    try clear k2
    try clear k5
    try clear k6
    have hb0 := hb0'; clear hb0'
    have k0 := k0'; clear k0'
    have k1 := k1'; clear k1'
    have k2 := k2'; clear k2'
    have k5 := k5'; clear k5'
    have k6 := k6'; clear k6'
    have Lk0 := k0.later
    have Fk0 := k0.laterF
    have Qk0 := k0.lt
    have Lk1 := k1.later
    have Fk1 := k1.laterF
    have Qk1 := k1.lt
    have Lk2 := k2.later
    have Fk2 := k2.laterF
    have Qk2 := k2.lt
    have Lk5 := k5.later
    have Fk5 := k5.laterF
    have Qk5 := k5.lt
    have Lk6 := k6.later
    have Fk6 := k6.laterF
    have Qk6 := k6.lt
    go_upto_region 20 with fail
    refine wp_any (w0 := y22) ⟨[], [], [some 195, some 196, some 197, some 198, some 199, some 200, some 201, some 194, some 202, some 203, some 22, some 23], [[], [0], [], [], [3], [0, 1, 3, 4], [0, 1, 2, 3, 4, 5], [0, 1, 2, 3, 4, 5, 6], [0, 1, 2, 3, 4, 5, 6, 7], [0, 1, 2, 3, 4, 5, 6, 7], [0, 1, 2, 3, 4, 5, 6, 7, 8], [0, 1, 2, 3, 4, 5, 6, 7, 8, 9, 10]], [[], [0], [], [], [3], [4], [1, 2, 5], [1, 5, 6], [1, 5, 6, 7], [1, 5, 6, 7], [1, 5, 6, 8], [1, 5, 6, 9]]⟩ (fun _ => []) (by kernel_rfl) (by kernel_rfl) (by (with_reducible (repeat' (first | assumption | apply jA | apply jB | apply jC | apply jD | apply jE | apply jF | apply hb3 | omega | (simp; done) | (simp; omega) | (dsimp only; omega))))) (fun u => by simp only [putD, Act.put, List.setIfInBounds_toArray, List.set_cons_zero, List.set_cons_succ, Nat.zero_add, Nat.reduceAdd]; rfl) ?_
    apply RGW.on (i := 0) rfl
    · (simp only [gA, gB, gC] <;> rfl)
    · intro γ u W hcur hd
      clear hd
      (try dsimp only)
      refine ⟨rfl, ?_⟩
      go_simp <;> (try go_bits) <;> with_reducible rfl
    · exact fun _ _ _ => rfl
    · rfl
    dsimp only [nA, cA]
    apply RGW.gh (⟨fun γ => vNt n.world (.slice (γ 1).A nl (γ 1).c), fun γ W => NtIn n (γ 1).A (γ 1).c W, fun _ => []⟩) (i := 1) rfl
    · (simp only [gA, gB, gC] <;> rfl)
    · intro γ u W hcur hd
      obtain ⟨⟨h0, -, -⟩, -⟩ := hd
      dsimp only at h0
      (try simp only [h0])
      refine ⟨rfl, fun K hK => ?_⟩
      go_simp
      (go_at_call 13; (with_reducible refine (hcp.out _ (bl_tr hb0 hcur)).mono ?_); rintro e w3 ⟨Ax, cx, rfl, hb3, hox⟩; dsimp only; exact hK.out ⟨0, undef, Ax, cx⟩ _ _ (by simp [up]) hb3 (by simpa [up] using hox) (by simp))
    · intro γ γ' hg
      try dsimp only
      have e1 := hg 1 (by decide)
      simp only [e1]
      try exact ⟨trivial, fun _ h => h⟩
    · intro γ W W' hbl hR
      first | exact hR.below hbl | exact own_below hR hbl | exact trivial | exact ⟨hR.1.below hbl, hR.2⟩
    · rfl
    dsimp only [nA, cA]
    apply RGW.on (i := 2) rfl
    · (simp only [gA, gB, gC] <;> rfl)
    · intro γ u W hcur hd
      clear hd
      (try dsimp only)
      refine ⟨rfl, ?_⟩
      go_simp <;> (try go_bits) <;> with_reducible rfl
    · exact fun _ _ _ => rfl
    · rfl
    dsimp only [nA, cA]
    apply RGW.on (i := 3) rfl
    · (simp only [gA, gB, gC] <;> rfl)
    · intro γ u W hcur hd
      clear hd
      (try dsimp only)
      refine ⟨rfl, ?_⟩
      go_simp <;> (try go_bits) <;> with_reducible rfl
    · exact fun _ _ _ => rfl
    · rfl
    dsimp only [nA, cA]
    apply RGW.on (i := 4) rfl
    · (simp only [gA, gB, gC] <;> rfl)
    · intro γ u W hcur hd
      obtain ⟨⟨h3, -, -⟩, -⟩ := hd
      dsimp only at h3
      (try simp only [h3])
      refine ⟨rfl, ?_⟩
      go_simp <;> (try go_bits) <;> with_reducible rfl
    · exact fun _ _ _ => rfl
    · rfl
    dsimp only [nA, cA]
    apply RGW.gh (⟨fun γ => .slice (γ 5).A rl (γ 5).c, fun γ W => Sl cRd 4 W (γ 5).A l, fun _ => []⟩) (i := 5) rfl
    · (simp only [gA, gB, gC] <;> rfl)
    · intro γ u W hcur hd
      obtain ⟨⟨h4, -, -⟩, -⟩ := hd
      dsimp only at h4
      (try simp only [h4])
      refine ⟨rfl, fun K hK => ?_⟩
      go_simp
      (go_at_call 22; (with_reducible refine (hcr.out _ (bl_tr hb0 hcur)).mono ?_); rintro e w3 ⟨Ax, cx, rfl, hb3, hox⟩; dsimp only; exact hK.out ⟨0, undef, Ax, cx⟩ _ _ (by simp [up]) hb3 (by simpa [up] using hox) (by simp))
    · intro γ γ' hg
      try dsimp only
      have e1 := hg 1 (by decide)
      have e5 := hg 5 (by decide)
      simp only [e1, e5]
      try exact ⟨trivial, fun _ h => h⟩
    · intro γ W W' hbl hR
      first | exact hR.below hbl | exact own_below hR hbl | exact trivial | exact ⟨hR.1.below hbl, hR.2⟩
    · rfl
    dsimp only [nA, cA]
    apply RGW.gh (⟨fun γ => .tuple #[.slice (γ 6).A rl (γ 6).c, .int .i64 0], fun γ W => Sl cI 1 W (γ 6).A aL, fun _ => []⟩) (i := 6) rfl
    · (simp only [gA, gB, gC] <;> rfl)
    · intro γ u W hcur hd
      obtain ⟨⟨h1, r1, -⟩, ⟨h2, -, -⟩, ⟨h5, r5, -⟩, -⟩ := hd
      dsimp only at h1 h2 h5 r1 r5
      (try simp only [h1, h2, h5])
      refine ⟨rfl, fun K hK => ?_⟩
      go_simp
      (go_at_call 39; (with_reducible refine (han.out _ _ _ _ _ r1 r5).mono ?_); rintro e w3 ⟨Ax, cx, rfl, hb3, hox⟩; dsimp only; exact hK.out ⟨0, undef, Ax, cx⟩ _ _ (by simp [up]) hb3 (by simpa [up] using hox) (by simp))
    · intro γ γ' hg
      try dsimp only
      have e1 := hg 1 (by decide)
      have e5 := hg 5 (by decide)
      have e6 := hg 6 (by decide)
      simp only [e1, e5, e6]
      try exact ⟨trivial, fun _ h => h⟩
    · intro γ W W' hbl hR
      first | exact hR.below hbl | exact own_below hR hbl | exact trivial | exact ⟨hR.1.below hbl, hR.2⟩
    · rfl
    dsimp only [nA, cA]
    apply RGW.on (i := 7) rfl
    · (simp only [gA, gB, gC] <;> rfl)
    · intro γ u W hcur hd
      obtain ⟨⟨h1, r1, -⟩, ⟨h5, r5, -⟩, ⟨h6, r6, -⟩, -⟩ := hd
      dsimp only at h1 h5 h6 r1 r5 r6
      (try simp only [h1, h5, h6])
      refine ⟨rfl, ?_⟩
      go_simp <;> (try go_bits) <;> with_reducible rfl
    · intro γ γ' hg
      try dsimp only
      have e1 := hg 1 (by decide)
      have e5 := hg 5 (by decide)
      have e6 := hg 6 (by decide)
      simp only [e1, e5, e6]
    · rfl
    dsimp only [nA, cA]
    apply RGW.on (i := 8) rfl
    · (simp only [gA, gB, gC] <;> rfl)
    · intro γ u W hcur hd
      obtain ⟨⟨h1, r1, -⟩, ⟨h5, r5, -⟩, ⟨h6, r6, -⟩, ⟨h7, -, -⟩, -⟩ := hd
      dsimp only at h1 h5 h6 h7 r1 r5 r6
      (try simp only [h1, h5, h6, h7])
      refine ⟨rfl, ?_⟩
      go_simp <;> (try go_bits) <;> with_reducible rfl
    · intro γ γ' hg
      try dsimp only
      have e1 := hg 1 (by decide)
      have e5 := hg 5 (by decide)
      have e6 := hg 6 (by decide)
      simp only [e1, e5, e6]
    · rfl
    dsimp only [nA, cA]
    apply RGW.on (i := 9) rfl
    · (simp only [gA, gB, gC] <;> rfl)
    · intro γ u W hcur hd
      obtain ⟨⟨h1, r1, -⟩, ⟨h5, r5, -⟩, ⟨h6, r6, -⟩, ⟨h7, -, -⟩, -⟩ := hd
      dsimp only at h1 h5 h6 h7 r1 r5 r6
      (try simp only [h1, h5, h6, h7])
      refine ⟨rfl, ?_⟩
      go_simp <;> (try go_bits) <;> with_reducible rfl
    · exact fun _ _ _ => rfl
    · rfl
    dsimp only [nA, cA]
    apply RGW.on (i := 10) rfl
    · (simp only [gA, gB, gC] <;> rfl)
    · intro γ u W hcur hd
      obtain ⟨⟨h1, r1, -⟩, ⟨h5, r5, -⟩, ⟨h6, r6, -⟩, ⟨h8, -, -⟩, -⟩ := hd
      dsimp only at h1 h5 h6 h8 r1 r5 r6
      (try simp only [h1, h5, h6, h8])
      refine ⟨rfl, ?_⟩
      go_simp <;> (try go_bits) <;> with_reducible rfl
    · intro γ γ' hg
      try dsimp only
      have e1 := hg 1 (by decide)
      have e5 := hg 5 (by decide)
      have e6 := hg 6 (by decide)
      simp only [e1, e5, e6]
    · rfl
    dsimp only [nA, cA]
    apply RGW.on (i := 11) rfl
    · (simp only [gA, gB, gC] <;> rfl)
    · intro γ u W hcur hd
      obtain ⟨⟨h1, r1, -⟩, ⟨h5, r5, -⟩, ⟨h6, r6, -⟩, ⟨h9, -, -⟩, -⟩ := hd
      dsimp only at h1 h5 h6 h9 r1 r5 r6
      (try simp only [h1, h5, h6, h9])
      refine ⟨rfl, ?_⟩
      go_simp <;> (try go_bits) <;> with_reducible rfl
    · exact fun _ _ _ => rfl
    · rfl
    dsimp only [nA, cA]
    refine RGW.fin (fun γ u y3 hy3 hd hdis => ?_)
    obtain ⟨⟨h0, -, -⟩, ⟨h1, r1, b1⟩, ⟨h2, -, -⟩, ⟨h3, -, -⟩, ⟨h4, -, -⟩, ⟨h5, r5, b5⟩, ⟨h6, r6, b6⟩, ⟨h7, -, -⟩, ⟨h8, -, -⟩, ⟨h9, -, -⟩, ⟨h10, -, -⟩, ⟨h11, -, -⟩, -⟩ := hd
    dsimp only at h0 h1 h2 h3 h4 h5 h6 h7 h8 h9 h10 h11 r1 r5 r6 b1 b5 b6
    clear hdis
    simp only [h0, h1, h2, h3, h4, h5, h6, h7, h8, h9, h10, h11]
    clear h11 h10 h9 h8 h7 h6 h5 h4 h3 h2 h1 h0
    clear u
    simp only [List.map_nil]
    refine PlanW.done ?_
    have hb3 := bl_tt hy3
    have SA := Lib.hid fun (W : World) (h : Below y3.heap.size y3 W) => r6.below h
    clear r1 r5 r6
    replace k0 := k0.below hy3
    replace k1 := k1.below hy3
    replace k2 := k2.below hy3
    have hbw := bl_tr hb0 hy3
    clear Lk0 Lk1 Lk2 Fk0 Fk1 Fk2 hb3 hb0
    have hb0 := bl_refl y3
    generalize (γ 6).A = AY at *
    generalize (γ 6).c = cY at *
    have Lk0 := k0.later
    have Fk0 := k0.laterF
    have Qk0 := k0.lt
    have Lk1 := k1.later
    have Fk1 := k1.laterF
    have Qk1 := k1.lt
    have Lk2 := k2.later
    have Fk2 := k2.laterF
    have Qk2 := k2.lt
    go_wp2
    go_loopw [24] (fun i wr => ∃ k : Nat, k ≤ rl ∧ i = .int .i64 k ∧ Below y3.heap.size y3 wr) (fun i _ => rl - (intOf i).toNat)
    case atStart => exact ⟨0, Nat.zero_le _, rfl, Below.refl _ _⟩
    case round =>
      obtain ⟨k, hk, rfl, hb⟩ := hrel
      by_cases hlt : k < rl
      · obtain ⟨x, hx, ob, sz, oe, hfx, hyes, hno⟩ := hel.out k hlt
        have hbw := bl_tr hbw hb
        obtain ⟨bb, off, hA, hc⟩ := Hl.out k x hx
        have S1 : Hid (Sl cRd 4 w (some ⟨bb, off + k * 4, none⟩) [x]) := sl_one hc
        obtain ⟨ba, oa, hAY, hcA⟩ := SA.out wr hb k _ (haL.out k hlt)
        have c0 : ∀ W, Below wr.heap.size wr W → W.cell? ⟨ba, oa + k, none⟩ = some (.int .i64 (aAt k)) := later (by have := hcA 0 _ rfl; simpa using this)
        clear hc hcA
        subst hA hAY
        have hc1 : Hid (∀ W : World, Below wr.heap.size wr W → Calls Try.prog 22 #[.slice (some ⟨bb, off + k * 4, none⟩) 1 (c' - k)] W (fun e w' => ∃ A2 c2, e = .returned (.slice A2 1 c2) ∧ Below W.heap.size W w' ∧ Sl cRd 4 w' A2 [x])) := fun W h => hcw.out x _ _ W (S1.out.below (bl_tr hbw h))
        replace hfx := Lib.hid hfx
        replace hx := Lib.hid hx
        have n4 : ¬ c' = k := by omega
        have hk1 : (k : Int) + 1 ≤ (c' : Int) := by omega
        have hk2 : k < c' := by omega
        have hk3 : k + 1 ≤ c' := by omega
        have hk4 : (0 : Int) ≤ (k : Int) + 1 ∧ (k : Int) + 1 ≤ (c' : Int) := by omega
        have hk5 : (0 : Int) ≤ (k : Int) + 1 := by omega
        have k0 := k0.below hb
        have k1 := k1.below hb
        have k2 := k2.below hb
        have hsz := hb.size
        clear S1 SA Lk0 Lk1 Lk2 Fk0 Fk1 Fk2 Qk0 Qk1 Qk2 hb0 hcw hel haL
        have hb0 := bl_refl wr
        have Lk0 := k0.later
        have Fk0 := k0.laterF
        have Qk0 := k0.lt
        have Lk1 := k1.later
        have Fk1 := k1.laterF
        have Qk1 := k1.lt
        have Lk2 := k2.later
        have Fk2 := k2.laterF
        have Qk2 := k2.lt
        generalize aAt k = aa at *
        go_upto_region 26 with fail
        refine wp_any (w0 := wr) ⟨[16, 17, 18], [13, 14], [some 221, some 222, some 223, some 224, some 225, some 226, some 227, some 228, some 229, some 230, some 231, some 220, some 232, some 233, some 234, some 25, none, none, none], [[], [0], [], [], [3], [], [], [6], [3, 4, 5, 6, 7], [0, 1, 3, 4, 5, 6, 7, 8], [0, 1, 2, 3, 4, 5, 6, 7, 8, 9], [0, 1, 2, 3, 4, 5, 6, 7, 8, 9, 10], [0, 1, 2, 3, 4, 5, 6, 7, 8, 9, 10, 11], [0, 1, 2, 3, 4, 5, 6, 7, 8, 9, 10, 11], [0, 1, 2, 3, 4, 5, 6, 7, 8, 9, 10, 11], [], [0, 1, 2, 3, 4, 5, 6, 7, 8, 9, 10, 11, 12, 15], [0, 1, 2, 3, 4, 5, 6, 7, 8, 9, 10, 11, 12, 13, 15, 16], [0, 1, 2, 3, 4, 5, 6, 7, 8, 9, 10, 11, 12, 13, 14, 15, 16, 17]], [[], [0], [], [], [3], [], [], [6], [4, 5, 7], [8], [1, 2, 9], [1, 9, 10], [1, 9, 11], [1, 9, 11], [1, 9, 11], [], [], [], []]⟩ (fun γ => [(γ 15).n]) (by kernel_rfl) (by kernel_rfl) (by (with_reducible (repeat' (first | assumption | apply jA | apply jB | apply jC | apply jD | apply jE | apply jF | apply hb3 | omega | (simp; done) | (simp; omega) | (dsimp only; omega))))) (fun u => by simp only [putD, Act.put, List.setIfInBounds_toArray, List.set_cons_zero, List.set_cons_succ, Nat.zero_add, Nat.reduceAdd]; rfl) ?_
        apply RGW.on (i := 0) rfl
        · (simp only [gA, gB, gC] <;> rfl)
        · intro γ u W hcur hd
          clear hd
          (try dsimp only)
          refine ⟨rfl, ?_⟩
          go_simp <;> (try go_bits) <;> with_reducible rfl
        · exact fun _ _ _ => rfl
        · rfl
        dsimp only [nA, cA]
        apply RGW.gh (⟨fun γ => vNt n.world (.slice (γ 1).A nl (γ 1).c), fun γ W => NtIn n (γ 1).A (γ 1).c W, fun _ => []⟩) (i := 1) rfl
        · (simp only [gA, gB, gC] <;> rfl)
        · intro γ u W hcur hd
          obtain ⟨⟨h0, -, -⟩, -⟩ := hd
          dsimp only at h0
          (try simp only [h0])
          refine ⟨rfl, fun K hK => ?_⟩
          go_simp
          (go_at_call 13; (with_reducible refine (hcp.out _ (bl_tr hbw (bl_tr hb0 hcur))).mono ?_); rintro e w3 ⟨Ax, cx, rfl, hb3, hox⟩; dsimp only; exact hK.out ⟨0, undef, Ax, cx⟩ _ _ (by simp [up]) hb3 (by simpa [up] using hox) (by simp))
        · intro γ γ' hg
          try dsimp only
          have e1 := hg 1 (by decide)
          simp only [e1]
          try exact ⟨trivial, fun _ h => h⟩
        · intro γ W W' hbl hR
          first | exact hR.below hbl | exact own_below hR hbl | exact trivial | exact ⟨hR.1.below hbl, hR.2⟩
        · rfl
        dsimp only [nA, cA]
        apply RGW.on (i := 2) rfl
        · (simp only [gA, gB, gC] <;> rfl)
        · intro γ u W hcur hd
          clear hd
          (try dsimp only)
          refine ⟨rfl, ?_⟩
          go_simp <;> (try go_bits) <;> with_reducible rfl
        · exact fun _ _ _ => rfl
        · rfl
        dsimp only [nA, cA]
        apply RGW.on (i := 3) rfl
        · (simp only [gA, gB, gC] <;> rfl)
        · intro γ u W hcur hd
          clear hd
          (try dsimp only)
          refine ⟨rfl, ?_⟩
          go_simp <;> (try go_bits) <;> with_reducible rfl
        · exact fun _ _ _ => rfl
        · rfl
        dsimp only [nA, cA]
        apply RGW.on (i := 4) rfl
        · (simp only [gA, gB, gC] <;> rfl)
        · intro γ u W hcur hd
          obtain ⟨⟨h3, -, -⟩, -⟩ := hd
          dsimp only at h3
          (try simp only [h3])
          refine ⟨rfl, ?_⟩
          go_simp <;> (try go_bits) <;> with_reducible rfl
        · exact fun _ _ _ => rfl
        · rfl
        dsimp only [nA, cA]
        apply RGW.on (i := 5) rfl
        · (simp only [gA, gB, gC] <;> rfl)
        · intro γ u W hcur hd
          clear hd
          (try dsimp only)
          refine ⟨rfl, ?_⟩
          go_simp <;> (try go_bits) <;> with_reducible rfl
        · exact fun _ _ _ => rfl
        · rfl
        dsimp only [nA, cA]
        apply RGW.on (i := 6) rfl
        · (simp only [gA, gB, gC] <;> rfl)
        · intro γ u W hcur hd
          clear hd
          (try dsimp only)
          refine ⟨rfl, ?_⟩
          go_simp <;> (try go_bits) <;> with_reducible rfl
        · exact fun _ _ _ => rfl
        · rfl
        dsimp only [nA, cA]
        apply RGW.on (i := 7) rfl
        · (simp only [gA, gB, gC] <;> rfl)
        · intro γ u W hcur hd
          obtain ⟨⟨h6, -, -⟩, -⟩ := hd
          dsimp only at h6
          (try simp only [h6])
          refine ⟨rfl, ?_⟩
          go_simp <;> (try go_bits) <;> with_reducible rfl
        · exact fun _ _ _ => rfl
        · rfl
        dsimp only [nA, cA]
        apply RGW.on (i := 8) rfl
        · (simp only [gA, gB, gC] <;> rfl)
        · intro γ u W hcur hd
          obtain ⟨⟨h4, -, -⟩, ⟨h5, -, -⟩, ⟨h7, -, -⟩, -⟩ := hd
          dsimp only at h4 h5 h7
          (try simp only [h4, h5, h7])
          refine ⟨rfl, ?_⟩
          go_simp <;> (try go_bits) <;> with_reducible rfl
        · exact fun _ _ _ => rfl
        · rfl
        dsimp only [nA, cA]
        apply RGW.gh (⟨fun γ => .slice (γ 9).A 1 (γ 9).c, fun γ W => Sl cRd 4 W (γ 9).A [x], fun _ => []⟩) (i := 9) rfl
        · (simp only [gA, gB, gC] <;> rfl)
        · intro γ u W hcur hd
          obtain ⟨⟨h8, -, -⟩, -⟩ := hd
          dsimp only at h8
          (try simp only [h8])
          refine ⟨rfl, fun K hK => ?_⟩
          go_simp
          (go_at_call 22; (with_reducible refine (hc1.out _ (bl_tr hb0 hcur)).mono ?_); rintro e w3 ⟨Ax, cx, rfl, hb3, hox⟩; dsimp only; exact hK.out ⟨0, undef, Ax, cx⟩ _ _ (by simp [up]) hb3 (by simpa [up] using hox) (by simp))
        · intro γ γ' hg
          try dsimp only
          have e1 := hg 1 (by decide)
          have e9 := hg 9 (by decide)
          simp only [e1, e9]
          try exact ⟨trivial, fun _ h => h⟩
        · intro γ W W' hbl hR
          first | exact hR.below hbl | exact own_below hR hbl | exact trivial | exact ⟨hR.1.below hbl, hR.2⟩
        · rfl
        dsimp only [nA, cA]
        apply RGW.call (i := 10) rfl
        · (simp only [gA, gB, gC] <;> rfl)
        · intro γ u W hcur hd
          obtain ⟨⟨h1, r1, -⟩, ⟨h2, -, -⟩, ⟨h9, r9, -⟩, -⟩ := hd
          dsimp only at h1 h2 h9 r1 r9
          (try simp only [h1, h2, h9])
          refine ⟨rfl, fun K hK => ?_⟩
          go_simp
          (go_at_call 21; (with_reducible refine (hfx.out _ _ _ _ _ r1 r9).mono ?_); rintro e w3 ⟨rfl, hb3⟩; replace hb3 := bl_tt hb3)
          (try dsimp only)
          exact hK.out _ _ rfl (by (with_reducible (repeat' (first | assumption | apply jA | apply jB | apply jC | apply jD | apply jE | apply jF | apply hb3 | omega | (simp; done) | (simp; omega) | (dsimp only; omega)))))
        · exact fun _ _ _ => rfl
        · rfl
        dsimp only [nA, cA]
        apply RGW.on (i := 11) rfl
        · (simp only [gA, gB, gC] <;> rfl)
        · intro γ u W hcur hd
          obtain ⟨⟨h1, r1, -⟩, ⟨h9, r9, -⟩, ⟨h10, -, -⟩, -⟩ := hd
          dsimp only at h1 h9 h10 r1 r9
          (try simp only [h1, h9, h10])
          refine ⟨rfl, ?_⟩
          go_simp <;> (try go_bits) <;> with_reducible rfl
        · exact fun _ _ _ => rfl
        · rfl
        dsimp only [nA, cA]
        apply RGW.on (i := 12) rfl
        · (simp only [gA, gB, gC] <;> rfl)
        · intro γ u W hcur hd
          obtain ⟨⟨h1, r1, -⟩, ⟨h9, r9, -⟩, ⟨h11, -, -⟩, -⟩ := hd
          dsimp only at h1 h9 h11 r1 r9
          (try simp only [h1, h9, h11])
          refine ⟨rfl, ?_⟩
          go_simp <;> (try go_bits) <;> with_reducible rfl
        · exact fun _ _ _ => rfl
        · rfl
        dsimp only [nA, cA]
        apply RGW.onL (i := 13) rfl
        · (simp only [gA, gB, gC] <;> rfl)
        · intro γ u Wm W hcur hd hX
          obtain ⟨⟨h1, r1, -⟩, ⟨h9, r9, -⟩, ⟨h11, -, -⟩, -⟩ := hd
          dsimp only at h1 h9 h11 r1 r9
          (try simp only [h1, h9, h11])
          refine ⟨rfl, ?_⟩
          go_simp <;> (try go_bits) <;> with_reducible rfl
        · exact fun _ _ _ => rfl
        dsimp only [nA, cA]
        apply RGW.onL (i := 14) rfl
        · (simp only [gA, gB, gC] <;> rfl)
        · intro γ u Wm W hcur hd hX
          obtain ⟨⟨h1, r1, -⟩, ⟨h9, r9, -⟩, ⟨h11, -, -⟩, -⟩ := hd
          dsimp only at h1 h9 h11 r1 r9
          (try simp only [h1, h9, h11])
          refine ⟨rfl, ?_⟩
          go_simp <;> (try go_bits) <;> with_reducible rfl
        · exact fun _ _ _ => rfl
        dsimp only [nA, cA]
        apply RGW.alloc (i := 15) rfl
        · (simp only [gA, gB, gC] <;> rfl)
        · intro γ u W hcur hd
          clear hd
          (try dsimp only)
          refine ⟨rfl, fun K hK => ?_⟩
          go_simp
          exact hK.out _ _ rfl rfl
        · exact fun _ _ _ => rfl
        · rfl
        · rfl
        dsimp only [nA, cA]
        refine RGW.skip (i := 16) rfl rfl ?_
        dsimp only [nA, cA]
        refine RGW.skip (i := 17) rfl rfl ?_
        dsimp only [nA, cA]
        refine RGW.skip (i := 18) rfl rfl ?_
        dsimp only [nA, cA]
        refine RGW.fin (fun γ u z1 hz1 hd hdis => ?_)
        obtain ⟨⟨h0, -, -⟩, ⟨h1, r1, b1⟩, ⟨h2, -, -⟩, ⟨h3, -, -⟩, ⟨h4, -, -⟩, ⟨h5, -, -⟩, ⟨h6, -, -⟩, ⟨h7, -, -⟩, ⟨h8, -, -⟩, ⟨h9, r9, b9⟩, ⟨h10, -, -⟩, ⟨h11, -, -⟩, ⟨h12, -, -⟩, ⟨h13, -, -⟩, ⟨h14, -, -⟩, ⟨h15, r15, b15⟩, -⟩ := hd
        dsimp only at h0 h1 h2 h3 h4 h5 h6 h7 h8 h9 h10 h11 h12 h13 h14 h15 r1 r9 r15 b1 b9 b15
        clear hdis
        simp only [h0, h1, h2, h3, h4, h5, h6, h7, h8, h9, h10, h11, h12, h13, h14, h15]
        clear h15 h14 h13 h12 h11 h10 h9 h8 h7 h6 h5 h4 h3 h2 h1 h0
        replace b15 := b15 _ (List.mem_singleton.2 rfl)
        generalize hγ15 : (γ 15).n = g15 at *
        clear hγ15
        clear u
        simp only [List.map_cons, List.map_nil]
        apply PlanW.step
        · (simp only [gA, gB, gC] <;> rfl)
        · rfl
        intro K hK
        refine wp_store_keep (X := [g15]) (w0 := z1) rfl rfl rfl (by with_reducible first | exact bx_refl _ _ | assumption) (by with_reducible first | assumption | (apply Blk.below (hb := hz1); assumption)) (by simp) (by kernel_rfl) (by rfl) (by simp [Value.oneCell']) (fun hres1 hcur => ?_)
        refine hK.out _ _ hcur (fun _ => ?_)
        clear hK K
        try simp only [Act.put, List.setIfInBounds_toArray, List.set_cons_zero, List.set_cons_succ]
        apply PlanW.step
        · (simp only [gA, gB, gC] <;> rfl)
        · rfl
        intro K hK
        go_simp
        refine hK.out _ _ (by (with_reducible (repeat' (first | assumption | apply jG | apply jH | apply jI | apply jJ | apply jK | apply hb3x | omega | (simp; done) | (simp; omega) | (dsimp only; omega))))) (fun hcur => ?_)
        clear hK K
        try simp only [Act.put, List.setIfInBounds_toArray, List.set_cons_zero, List.set_cons_succ]
        apply PlanW.step
        · (simp only [gA, gB, gC] <;> rfl)
        · rfl
        intro K hK
        go_simp
        refine hK.out _ _ (by (with_reducible (repeat' (first | assumption | apply jG | apply jH | apply jI | apply jJ | apply jK | apply hb3x | omega | (simp; done) | (simp; omega) | (dsimp only; omega))))) (fun hcur => ?_)
        clear hK K
        try simp only [Act.put, List.setIfInBounds_toArray, List.set_cons_zero, List.set_cons_succ]
        refine PlanW.done ?_
        have hb3 := bl_tt hz1
        clear r1 r9
        apply absTB4 (w0 := wr) (g0 := w.heap.size) (g1 := w.heap.size + 1) (g2 := w.heap.size + 2) (g3 := g15)
        iterate 5 (focus ((with_reducible (repeat' (first | assumption | apply jA | apply jB | apply jC | apply jD | apply jE | apply jF | apply hb3 | apply jG | apply jH | apply jI | apply jJ | apply jK | apply hb3x | (apply jL; first | (simp; done) | rfl) | apply jM | apply jN | apply jO | apply jP | apply jQ | apply jR | apply jS | apply jT (hb := hb3 _ (jA _)) | omega | (simp; done) | (simp; omega) | (dsimp only; omega)))); done))
        intro z2 hb0' k0' k1' k2' k7'
        (try simp only [List.setIfInBounds_toArray, List.set_cons_zero, List.set_cons_succ] at k0' k1' k2' k7')
        try clear hb3
        try clear Lk0
        try clear Fk0
        try clear Qk0
        try clear Lk1
        try clear Fk1
        try clear Qk1
        try clear Lk2
        try clear Fk2
        try clear Qk2
        try clear hb0
        try clear k0
        try clear k1
        try clear k2
        try clear k7
        have hb0 := hb0'; clear hb0'
        have k0 := k0'; clear k0'
        have k1 := k1'; clear k1'
        have k2 := k2'; clear k2'
        have k7 := k7'; clear k7'
        have Lk0 := k0.later
        have Fk0 := k0.laterF
        have Qk0 := k0.lt
        have Lk1 := k1.later
        have Fk1 := k1.laterF
        have Qk1 := k1.lt
        have Lk2 := k2.later
        have Fk2 := k2.laterF
        have Qk2 := k2.lt
        have Lk7 := k7.later
        have Fk7 := k7.laterF
        have Qk7 := k7.lt
        have hbz := bl_tr hb hb0
        by_cases hy : aa = 2
        · obtain ⟨rfl, rfl, rfl⟩ := hyes.out hy
          subst hy
          clear hyes hno
          go_wp2
          go_roundw
          case rel => exact ⟨k + 1, by omega, by go_num, hbz⟩
          case measure => simp [intOf]; omega
        · have hy' : (aa == 2) = false := by simp [hy]
          by_cases hz : aa = 0
          · obtain rfl := hno.out hz
            subst hz
            clear hyes hno
            go_wp2
            go_roundw
            case rel => exact ⟨k + 1, by omega, by go_num, hbz⟩
            case measure => simp [intOf]; omega
          · have hz' : (aa == 0) = false := by simp [hz]
            clear hyes hno
            go_wp2
            go_roundw
            case rel => exact ⟨k + 1, by omega, by go_num, hbz⟩
            case measure => simp [intOf]; omega
      · obtain rfl : k = rl := by omega
        go_wp2
        go_ret
        exact ⟨rfl, bl_tr hbw hb⟩
theorem l_FixTrue (n : Nt) (b : Bx) (l : List Rd) (p : Pl) (A A' : Option Addr) (c c' : Nat) (w : World) (hs : Sl cBc 4 w A n.bs) (hc : n.bs.length ≤ c) (hnm : ∀ b ∈ n.bs, b.name.size ≤ maxLen) (hl : Sl cRd 4 w A' l) (hlc : l.length ≤ c') (hcm : c' ≤ maxLen) :
    Calls Try.prog 9 #[vNt n.world (.slice A n.bs.length c), vBx b, .agg #[.slice A' l.length c', .int .i64 p.x, .int .i64 p.y, .int .i64 p.z]] w (Ret (.bool true) w) := by
  cases hF : (decide (n.bs.length ≤ 8) && decide (l.length ≤ 10))
  · exact l_True_few n b l p A A' c c' w hF
  · have hF' := hF
    simp only [Bool.and_eq_true, decide_eq_true_eq] at hF'
    have hn : NtIn n A c w := ⟨by omega, hc, hnm, hs⟩
    by_cases h : boxErr n b = 0 ∧ refRdsE n l = 0 ∧ decide (20000 < b.size) = false ∧ lightB n b = true ∧ b.has p = true
    · exact l_True n b l p A A' c c' w hF hn hl hF'.2 hlc hcm h.1 h.2.1 h.2.2.1 h.2.2.2.1 h.2.2.2.2
    · exact l_True_no n b l p A A' c c' w hF hn hl (by omega) (Lib.hid fun h1 h2 h3 h4 => by
        cases h5 : b.has p
        · rfl
        · exact absurd ⟨h1, h2, h3, h4, h5⟩ h)
end Go.Proofs.Ytephimmamkafoaa
