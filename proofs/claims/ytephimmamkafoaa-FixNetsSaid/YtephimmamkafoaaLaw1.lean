/-
  Walks: the document's examples.
-/
import Derived.Test.YtephimmamkafoaaEval
import Derived.Test.YtephimmamkafoaaCopy
import Derived.Test.YtephimmamkafoaaInts
namespace Go.Proofs.Ytephimmamkafoaa
set_option linter.unusedSimpArgs false
set_option linter.unusedVariables false
open Go.RowKit Go.Shelf
attribute [local go_sem] bl_al bl_drew bl_drewN bl_refl bx_al bx_drew bx_drewN bx_refl
set_option maxRecDepth 20000
theorem Blk.slC {α : Type} {cs : α → List Value} {sz : Nat} (hcs : ∀ x, (cs x).length = sz) {w : World} {g : Nat} {t : TypeId} {l : List α} (h : Blk w g t (l.flatMap cs).toArray) : Sl cs sz w (some ⟨g, 0, none⟩) l := fun k x hx =>
  ⟨g, 0, rfl, fun j v hv => by
    have := flat_get hcs hx hv
    have e := h.cell (k * sz + j)
    rw [Nat.zero_add, e]
    simpa using this⟩
theorem r_Net (w : World) : Calls Try.prog 54 #[] w (fun e w' => ∃ A c, e = .returned (vNt net0.world (.slice A 2 c)) ∧ Below w.heap.size w w' ∧ NtIn net0 A c w') := by
  go_enter Try.func54, Try.ntmps54
  go_wp2
  first
  | apply absPB2 (w0 := w) (g0 := w.heap.size) (g1 := w.heap.size + 1)
  | apply absPMB2 (w0 := w) (g0 := w.heap.size) (g1 := w.heap.size + 1)
  iterate 3 (focus ((with_reducible (repeat' (first | assumption | apply bl_refl | apply bl_al | apply bl_drew | apply bl_drewN | (apply bl_set; case hp => (first | (simp; done) | (simp; omega) | (dsimp only; omega))) | (apply bl_row; case hg => (first | (simp; done) | (simp; omega) | omega)) | apply hb3 | apply bx_refl | (apply bx_set; case hp => (first | exact Or.inl (by simp; done) | exact Or.inr (by first | (simp; done) | (simp; omega) | (dsimp only; omega)))) | apply bx_drew | apply bx_al | apply bx_drewN | apply hb3x | (apply Blk.newAt; first | (simp; done) | rfl) | apply Blk.alloc | apply Blk.drew | apply Blk.drewN | apply Blk.set | (apply Blk.other; case hne => first | assumption | (simp; done) | (simp; omega) | omega) | apply Blk.row | (apply Blk.rowOther; case hne => first | assumption | (simp; done) | (simp; omega) | omega) | apply Blk.below (hb := hb3 _ (bl_refl _))))); done))
  intro wz hb0' k0' k1'
  (try simp only [List.setIfInBounds_toArray, List.set_cons_zero, List.set_cons_succ] at k0' k1')
  try clear hb3
  try clear hb0
  try clear k0
  try clear k1
  have hb0 := hb0'; clear hb0'
  have k0 := k0'; clear k0'
  have k1 := k1'; clear k1'
  have hr := k0.cell
  refine bodyPost_ret (v := vNt net0.world (.slice (some ⟨w.heap.size + 1, 0, none⟩) 2 2)) (by simp [results, Try.results54, go_sem, hr, net0]) rfl ⟨_, _, rfl, hb0, by decide, by decide, fun b hb => ?_, Blk.slC (cs := cBc) (l := net0.bs) (fun _ => rfl) k1⟩
  have : b.name.size = 1 := by
    simp [net0] at hb
    rcases hb with rfl | rfl <;> rfl
  rw [this]
  unfold maxLen
  omega
theorem r_Start (w : World) : Calls Try.prog 55 #[] w (Ret (vBx start0) w) := by
  go_enter Try.func55, Try.ntmps55
  go_wp2
  exact bodyPost_ret (v := vBx start0) (by simp [results, Try.results55, go_sem, start0]) rfl ⟨rfl, by solve_by_elim (maxDepth := 40) only [bl_al, bl_drew, bl_refl, *]⟩
theorem r_Field (w : World) : Calls Try.prog 57 #[] w (Ret (vBx field0) w) := by
  go_enter Try.func57, Try.ntmps57
  go_wp2
  exact bodyPost_ret (v := vBx field0) (by simp [results, Try.results57, go_sem, field0]) rfl ⟨rfl, by solve_by_elim (maxDepth := 40) only [bl_al, bl_drew, bl_refl, *]⟩
theorem r_Move (w : World) : Calls Try.prog 56 #[] w (Ret (vMv move0) w) := by
  go_enter Try.func56, Try.ntmps56
  go_wp2
  exact bodyPost_ret (v := vMv move0) (by simp [results, Try.results56, go_sem, move0]) rfl ⟨rfl, by solve_by_elim (maxDepth := 40) only [bl_al, bl_drew, bl_refl, *]⟩
theorem r_Readings (w : World) : Calls Try.prog 58 #[] w (fun e w' => ∃ A c, e = .returned (.slice A 3 c) ∧ Below w.heap.size w w' ∧ Sl cRd 4 w' A reads0) := by
  go_enter Try.func58, Try.ntmps58
  go_wp2
  go_ret
  exact ⟨some ⟨w.heap.size, 0, none⟩, 3, rfl, bl_al _ (bl_refl w), Blk.slC (cs := cRd) (l := reads0) (fun _ => rfl) (Blk.new w _ _)⟩
theorem r_few (n : Nt) (A A' : Option Addr) (c c' k : Nat) (w : World) : Calls Try.prog 11 #[vNt n.world (.slice A n.bs.length c), .slice A' k c'] w (Ret (.bool (decide (n.bs.length ≤ 8) && decide (k ≤ 10))) w) := by
  obtain ⟨b1, h1⟩ : ∃ b, decide ((n.bs.length : Int) ≤ 8) = b := ⟨_, rfl⟩
  have e : decide (n.bs.length ≤ 8) = b1 := by rw [← h1]; simp; omega
  rw [e]
  cases b1
  · go_enter Try.func11, Try.ntmps11
    go_wp2
    go_ret
    exact ⟨rfl, by solve_by_elim (maxDepth := 40) only [bl_al, bl_drew, bl_refl, *]⟩
  · go_enter Try.func11, Try.ntmps11
    go_wp2
    go_ret
    exact ⟨by simp <;> omega, by solve_by_elim (maxDepth := 40) only [bl_al, bl_drew, bl_refl, *]⟩
set_option maxHeartbeats 8000000 in
theorem r_awake (w : World) : Calls Try.prog 10 #[] w (Ret (.bool true) w) := by
  have h1 : Hid (∀ (W : World) (A : Option Addr) (c : Nat), NtIn net0 A c W → Calls Try.prog 34 #[vNt net0.world (.slice A 2 c), vBx start0, vMv move0] W (Ret (.tuple #[vBx ⟨⟨2, 10⟩, ⟨0, 2⟩, ⟨1, 3⟩⟩, .int .i64 0]) W)) := fun W A c h => by
    have := c_Carried net0 start0 move0 A c W h
    rw [ev_carried] at this
    exact this
  have h2 : Hid (∀ (W : World), Calls Try.prog 14 #[vRg ⟨10, 11⟩, vRg ⟨1000, 1100⟩] W (Ret (.tuple #[vRg ⟨9, 11⟩, .int .i64 0]) W)) := fun W => by
    have := c_DepthIn ⟨10, 11⟩ ⟨1000, 1100⟩ W
    rw [ev_depth] at this
    exact this
  have h3 : Hid (∀ (W : World) (A : Option Addr) (c : Nat) (A' : Option Addr) (c' : Nat), NtIn net0 A c W → Sl cRd 4 W A' reads0 → Calls Try.prog 44 #[vNt net0.world (.slice A 2 c), vBx field0, .slice A' 3 c'] W (RetW [0] ⟨1, 0, 0⟩ 0 W)) := fun W A c A' c' h hl => by
    have := c_WrongOf net0 field0 reads0 A A' c c' W h hl (by decide) (by decide)
    rw [ev_wrong] at this
    exact this
  have h4 : Hid (∀ (W : World) (A : Option Addr) (c : Nat) (A' : Option Addr) (c' : Nat), NtIn net0 A c W → Sl cRd 4 W A' reads0 → Calls Try.prog 23 #[vNt net0.world (.slice A 2 c), vBx field0, vVt A' 3 c' 1] W (Ret (.tuple #[vBx ⟨⟨1, 5⟩, ⟨0, 0⟩, ⟨0, 4⟩⟩, .int .i64 3, .int .i64 0]) W)) := fun W A c A' c' h hl => by
    have := c_VotedIn net0 field0 ⟨reads0, 1⟩ A A' c c' W h hl (by decide) (by decide)
    rw [ev_voted] at this
    exact this
  have h5 : Hid (∀ (W : World) (A : Option Addr) (c g : Nat), NtIn net0 A c W → Blk W g 110 #[.int .i64 0, .int .i64 1, .int .i64 3, .int .i64 7, .int .i64 0, .int .i64 1, .int .i64 1, .int .i64 3, .int .i64 1, .int .i64 0, .int .i64 4, .int .i64 9] →
      Calls Try.prog 39 #[vNt net0.world (.slice A 2 c), vBx start0, .slice (some ⟨g, 0, none⟩) 3 3] W (RetE [2, 0, 1] 0 W)) := fun W A c g h hb => by
    have := c_AnswersOf net0 start0 asks0 A (some ⟨g, 0, none⟩) c 3 W h (Blk.slC (cs := cRd) (l := asks0) (fun _ => rfl) hb) (by decide) (by decide)
    rw [ev_ans.1, ev_ans.2] at this
    exact this
  have h6 : Hid (∀ (W : World) (A : Option Addr) (c g : Nat), Sl cI 1 W A [0] → Blk W g 3 #[.int .i64 0] → Calls Try.prog 41 #[.slice A 1 c, .slice (some ⟨g, 0, none⟩) 1 1] W (Ret (.bool true) W)) := fun W A c g h hb =>
    r_Ints [0] [0] A (some ⟨g, 0, none⟩) c 1 W h (Blk.ints (l := [0]) hb) (by decide) (by decide)
  have h7 : Hid (∀ (W : World) (A : Option Addr) (c g : Nat), Sl cI 1 W A [2, 0, 1] → Blk W g 3 #[.int .i64 2, .int .i64 0, .int .i64 1] → Calls Try.prog 41 #[.slice A 3 c, .slice (some ⟨g, 0, none⟩) 3 3] W (Ret (.bool true) W)) := fun W A c g h hb =>
    r_Ints [2, 0, 1] [2, 0, 1] A (some ⟨g, 0, none⟩) c 3 W h (Blk.ints (l := [2, 0, 1]) hb) (by decide) (by decide)
  go_enter Try.func10, Try.ntmps10
  go_upto_region 2 with (first | (go_at_call 54; (with_reducible refine (r_Net _).mono ?_); rintro e wn ⟨A1, c1, rfl, hb3, hn1⟩; replace hb3 := bl_tt hb3) | (go_at_call 55; (with_reducible refine (r_Start _).mono ?_); rintro e wn ⟨rfl, hb4⟩; replace hn1 := hn1.below hb4; replace hb3 := fun w h => bl_tt hb4 w (hb3 w h)) | (go_at_call 56; (with_reducible refine (r_Move _).mono ?_); rintro e wn ⟨rfl, hb4⟩; replace hn1 := hn1.below hb4; replace hb3 := fun w h => bl_tt hb4 w (hb3 w h)) | (go_at_call 34; (with_reducible refine (h1.out _ _ _ hn1).mono ?_); rintro e v1 ⟨rfl, hb4⟩; replace hb3 := fun w h => bl_tt hb4 w (hb3 w h)))
  have hbw := hb3 w (bl_refl w)
  first
  | apply absB1 (w0 := v1) (g0 := v1.heap.size)
  | apply absTB1 (w0 := v1) (g0 := v1.heap.size)
  | apply absIB1 (w0 := v1) (g0 := v1.heap.size)
  iterate 2 (focus ((with_reducible (repeat' (first | assumption | apply bl_refl | apply bl_al | apply bl_drew | apply bl_drewN | (apply bl_set; case hp => (first | (simp; done) | (simp; omega) | (dsimp only; omega))) | (apply bl_row; case hg => (first | (simp; done) | (simp; omega) | omega)) | apply hb3 | apply bx_refl | (apply bx_set; case hp => (first | exact Or.inl (by simp; done) | exact Or.inr (by first | (simp; done) | (simp; omega) | (dsimp only; omega)))) | apply bx_drew | apply bx_al | apply bx_drewN | apply hb3x | (apply Blk.newAt; first | (simp; done) | rfl) | apply Blk.alloc | apply Blk.drew | apply Blk.drewN | apply Blk.set | (apply Blk.other; case hne => first | assumption | (simp; done) | (simp; omega) | omega) | apply Blk.row | (apply Blk.rowOther; case hne => first | assumption | (simp; done) | (simp; omega) | omega) | apply Blk.below (hb := hb3 _ (bl_refl _))))); done))
  intro wa hb0' k1'
  (try simp only [List.setIfInBounds_toArray, List.set_cons_zero, List.set_cons_succ] at k1')
  try clear hb3
  try clear hb0
  try clear k1
  have hb0 := hb0'; clear hb0'
  have k1 := k1'; clear k1'
  replace hbw := bl_tr hbw hb0
  go_upto_region 3 with (go_at_call 14; (with_reducible refine (h2.out _).mono ?_); rintro e w3 ⟨rfl, hb3⟩; replace hb3 := bl_tt hb3)
  have hb2 := hb3 wa (bl_refl wa)
  replace k1 := k1.below hb2
  replace hbw := bl_tr hbw hb2
  first
  | apply absB2 (w0 := w3) (g0 := v1.heap.size) (g1 := w3.heap.size)
  | apply absTB2 (w0 := w3) (g0 := v1.heap.size) (g1 := w3.heap.size)
  | apply absIB2 (w0 := w3) (g0 := v1.heap.size) (g1 := w3.heap.size)
  iterate 3 (focus ((with_reducible (repeat' (first | assumption | apply bl_refl | apply bl_al | apply bl_drew | apply bl_drewN | (apply bl_set; case hp => (first | (simp; done) | (simp; omega) | (dsimp only; omega))) | (apply bl_row; case hg => (first | (simp; done) | (simp; omega) | omega)) | apply hb3 | apply bx_refl | (apply bx_set; case hp => (first | exact Or.inl (by simp; done) | exact Or.inr (by first | (simp; done) | (simp; omega) | (dsimp only; omega)))) | apply bx_drew | apply bx_al | apply bx_drewN | apply hb3x | (apply Blk.newAt; first | (simp; done) | rfl) | apply Blk.alloc | apply Blk.drew | apply Blk.drewN | apply Blk.set | (apply Blk.other; case hne => first | assumption | (simp; done) | (simp; omega) | omega) | apply Blk.row | (apply Blk.rowOther; case hne => first | assumption | (simp; done) | (simp; omega) | omega) | apply Blk.below (hb := hb3 _ (bl_refl _))))); done))
  intro wb hb0' k1' k2'
  (try simp only [List.setIfInBounds_toArray, List.set_cons_zero, List.set_cons_succ] at k1' k2')
  try clear hb3
  try clear hb0
  try clear k1
  try clear k2
  have hb0 := hb0'; clear hb0'
  have k1 := k1'; clear k1'
  have k2 := k2'; clear k2'
  replace hbw := bl_tr hbw hb0
  clear hn1
  go_upto_region 4 with (first | (go_at_call 54; (with_reducible refine (r_Net _).mono ?_); rintro e wn ⟨A1, c1, rfl, hb3, hn1⟩; replace hb3 := bl_tt hb3) | (go_at_call 57; (with_reducible refine (r_Field _).mono ?_); rintro e wn ⟨rfl, hb4⟩; replace hn1 := hn1.below hb4; replace hb3 := fun w h => bl_tt hb4 w (hb3 w h)) | (go_at_call 58; (with_reducible refine (r_Readings _).mono ?_); rintro e wn ⟨A2, c2, rfl, hb4, hl1⟩; replace hn1 := hn1.below hb4; replace hb3 := fun w h => bl_tt hb4 w (hb3 w h)) | (go_at_call 44; (with_reducible refine (h3.out _ _ _ _ _ hn1 hl1).mono ?_); rintro e v3 ⟨A3, c3, rfl, hb4, ho3⟩; replace hb3 := fun w h => bl_tt hb4 w (hb3 w h)))
  have hb2 := hb3 wb (bl_refl wb)
  replace k1 := k1.below hb2
  replace k2 := k2.below hb2
  replace hbw := bl_tr hbw hb2
  first
  | apply absB3 (w0 := v3) (g0 := v1.heap.size) (g1 := w3.heap.size) (g2 := v3.heap.size)
  | apply absTB3 (w0 := v3) (g0 := v1.heap.size) (g1 := w3.heap.size) (g2 := v3.heap.size)
  | apply absIB3 (w0 := v3) (g0 := v1.heap.size) (g1 := w3.heap.size) (g2 := v3.heap.size)
  iterate 4 (focus ((with_reducible (repeat' (first | assumption | apply bl_refl | apply bl_al | apply bl_drew | apply bl_drewN | (apply bl_set; case hp => (first | (simp; done) | (simp; omega) | (dsimp only; omega))) | (apply bl_row; case hg => (first | (simp; done) | (simp; omega) | omega)) | apply hb3 | apply bx_refl | (apply bx_set; case hp => (first | exact Or.inl (by simp; done) | exact Or.inr (by first | (simp; done) | (simp; omega) | (dsimp only; omega)))) | apply bx_drew | apply bx_al | apply bx_drewN | apply hb3x | (apply Blk.newAt; first | (simp; done) | rfl) | apply Blk.alloc | apply Blk.drew | apply Blk.drewN | apply Blk.set | (apply Blk.other; case hne => first | assumption | (simp; done) | (simp; omega) | omega) | apply Blk.row | (apply Blk.rowOther; case hne => first | assumption | (simp; done) | (simp; omega) | omega) | apply Blk.below (hb := hb3 _ (bl_refl _))))); done))
  intro wc hb0' k1' k2' k3'
  (try simp only [List.setIfInBounds_toArray, List.set_cons_zero, List.set_cons_succ] at k1' k2' k3')
  try clear hb3
  try clear hb0
  try clear k1
  try clear k2
  try clear k3
  have hb0 := hb0'; clear hb0'
  have k1 := k1'; clear k1'
  have k2 := k2'; clear k2'
  have k3 := k3'; clear k3'
  replace hbw := bl_tr hbw hb0
  have hs3 := (own_sl (L := [0]) ho3).below hb0
  clear hn1 hl1 ho3
  go_upto_region 5 with (first | (go_at_call 54; (with_reducible refine (r_Net _).mono ?_); rintro e wn ⟨A1, c1, rfl, hb3, hn1⟩; replace hb3 := bl_tt hb3) | (go_at_call 57; (with_reducible refine (r_Field _).mono ?_); rintro e wn ⟨rfl, hb4⟩; replace hn1 := hn1.below hb4; replace hb3 := fun w h => bl_tt hb4 w (hb3 w h)) | (go_at_call 58; (with_reducible refine (r_Readings _).mono ?_); rintro e wn ⟨A2, c2, rfl, hb4, hl1⟩; replace hn1 := hn1.below hb4; replace hb3 := fun w h => bl_tt hb4 w (hb3 w h)) | (go_at_call 23; (with_reducible refine (h4.out _ _ _ _ _ hn1 hl1).mono ?_); rintro e v4 ⟨rfl, hb4⟩; replace hb3 := fun w h => bl_tt hb4 w (hb3 w h)))
  have hb2 := hb3 wc (bl_refl wc)
  replace k1 := k1.below hb2
  replace k2 := k2.below hb2
  replace k3 := k3.below hb2
  replace hs3 := hs3.below hb2
  replace hbw := bl_tr hbw hb2
  first
  | apply absB4 (w0 := v4) (g0 := v1.heap.size) (g1 := w3.heap.size) (g2 := v3.heap.size) (g3 := v4.heap.size)
  | apply absTB4 (w0 := v4) (g0 := v1.heap.size) (g1 := w3.heap.size) (g2 := v3.heap.size) (g3 := v4.heap.size)
  | apply absIB4 (w0 := v4) (g0 := v1.heap.size) (g1 := w3.heap.size) (g2 := v3.heap.size) (g3 := v4.heap.size)
  iterate 5 (focus ((with_reducible (repeat' (first | assumption | apply bl_refl | apply bl_al | apply bl_drew | apply bl_drewN | (apply bl_set; case hp => (first | (simp; done) | (simp; omega) | (dsimp only; omega))) | (apply bl_row; case hg => (first | (simp; done) | (simp; omega) | omega)) | apply hb3 | apply bx_refl | (apply bx_set; case hp => (first | exact Or.inl (by simp; done) | exact Or.inr (by first | (simp; done) | (simp; omega) | (dsimp only; omega)))) | apply bx_drew | apply bx_al | apply bx_drewN | apply hb3x | (apply Blk.newAt; first | (simp; done) | rfl) | apply Blk.alloc | apply Blk.drew | apply Blk.drewN | apply Blk.set | (apply Blk.other; case hne => first | assumption | (simp; done) | (simp; omega) | omega) | apply Blk.row | (apply Blk.rowOther; case hne => first | assumption | (simp; done) | (simp; omega) | omega) | apply Blk.below (hb := hb3 _ (bl_refl _))))); done))
  intro wd hb0' k1' k2' k3' k4'
  (try simp only [List.setIfInBounds_toArray, List.set_cons_zero, List.set_cons_succ] at k1' k2' k3' k4')
  try clear hb3
  try clear hb0
  try clear k1
  try clear k2
  try clear k3
  try clear k4
  have hb0 := hb0'; clear hb0'
  have k1 := k1'; clear k1'
  have k2 := k2'; clear k2'
  have k3 := k3'; clear k3'
  have k4 := k4'; clear k4'
  replace hbw := bl_tr hbw hb0
  replace hs3 := hs3.below hb0
  clear hn1 hl1
  go_upto_region 6 with (first | (go_at_call 54; (with_reducible refine (r_Net _).mono ?_); rintro e wn ⟨A1, c1, rfl, hb3, hn1⟩; replace hb3 := bl_tt hb3) | (go_at_call 55; (with_reducible refine (r_Start _).mono ?_); rintro e wn ⟨rfl, hb4⟩; replace hn1 := hn1.below hb4; replace hb3 := fun w h => bl_tt hb4 w (hb3 w h)) | (go_at_call 39; (with_reducible refine (h5.out _ _ _ _ (hn1.below (bl_al _ (bl_refl _))) (Blk.new _ _ _)).mono ?_); rintro e v5 ⟨A5, c5, rfl, hb4, ho5⟩; replace hb3 := fun w h => bl_tt hb4 w (bl_al _ (hb3 w h))))
  have hb2 := hb3 wd (bl_refl wd)
  replace k1 := k1.below hb2
  replace k2 := k2.below hb2
  replace k3 := k3.below hb2
  replace k4 := k4.below hb2
  replace hs3 := hs3.below hb2
  replace hbw := bl_tr hbw hb2
  have hs5 := own_sl (L := [2, 0, 1]) ho5
  clear hn1 ho5 hb3
  have Lk1 := k1.later
  have Fk1 := k1.laterF
  have Qk1 := k1.lt
  have Lk2 := k2.later
  have Fk2 := k2.laterF
  have Qk2 := k2.lt
  have Lk3 := k3.later
  have Fk3 := k3.laterF
  have Qk3 := k3.lt
  have Lk4 := k4.later
  have Fk4 := k4.laterF
  have Qk4 := k4.lt
  have S3 := Lib.hid fun (W : World) (h : Below v5.heap.size v5 W) => hs3.below h
  have S5 := Lib.hid fun (W : World) (h : Below v5.heap.size v5 W) => hs5.below h
  clear hs3 hs5
  go_wp2_with (go_at_call 41; (with_reducible first | refine (h6.out _ _ _ _ (S3.out _ (by (with_reducible (repeat' (first | assumption | apply bl_refl | apply bl_al | apply bl_drew | apply bl_drewN | (apply bl_set; case hp => (first | (simp; done) | (simp; omega) | (dsimp only; omega))) | (apply bl_row; case hg => (first | (simp; done) | (simp; omega) | omega)) | apply hb3))))) (Blk.new _ _ _)).mono ?_ | refine (h7.out _ _ _ _ (S5.out _ (by (with_reducible (repeat' (first | assumption | apply bl_refl | apply bl_al | apply bl_drew | apply bl_drewN | (apply bl_set; case hp => (first | (simp; done) | (simp; omega) | (dsimp only; omega))) | (apply bl_row; case hg => (first | (simp; done) | (simp; omega) | omega)) | apply hb3))))) (Blk.new _ _ _)).mono ?_); rintro e w3 ⟨rfl, hb3⟩; replace hb3 := bl_tt hb3; have hv5 := hb3 v5 (by (with_reducible (repeat' (first | assumption | apply bl_refl | apply bl_al | apply bl_drew | apply bl_drewN | (apply bl_set; case hp => (first | (simp; done) | (simp; omega) | (dsimp only; omega))) | (apply bl_row; case hg => (first | (simp; done) | (simp; omega) | omega)) | apply hb3)))))
  go_ret
  exact ⟨rfl, bl_tr hbw hv5⟩
end Go.Proofs.Ytephimmamkafoaa
