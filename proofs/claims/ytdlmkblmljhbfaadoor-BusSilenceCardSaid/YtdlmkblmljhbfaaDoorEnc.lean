/-
  Walk: the frame of a message.
-/
import Derived.Test.YtdlmkblmljhbfaaDoorMsg
import Derived.Laws.CopyOwn
namespace Go.Proofs.YtdlmkblmljhbfaaDoor
set_option linter.unusedSimpArgs false
set_option linter.unusedVariables false
open Go.RowKit Go.Shelf
attribute [local go_sem] bl_al bl_drew bl_drewN bl_refl bx_al bx_drew bx_drewN bx_refl
set_option maxRecDepth 20000
theorem ms_ok {m : Ms} (h : msE m = 0) : ∀ n ∈ [m.src, m.num, m.kind, m.d0, m.d1, m.d2, m.d3], 0 ≤ n ∧ n ≤ 255 := by
  unfold msE at h
  simp only [fst_cons] at h
  obtain ⟨h1, h2, -⟩ := h
  rw [unl_zero (by decide)] at h1
  simp only [Bool.and_eq_true, byteB, inR_iff] at h1
  have hd := bytes_ok h2
  simp only [List.mem_cons, List.not_mem_nil, or_false, forall_eq_or_imp, forall_eq] at hd ⊢
  omega
set_option maxHeartbeats 4000000 in
theorem c_Encoded (m : Ms) (w : World) : Calls Tryd.prog 24 #[vMs m] w (Ret (.tuple #[vFr (encS m).1, .int .i64 (encS m).2]) w) := by
  have hcm := Lib.hid fun (W : World) => c_CheckMessage m W
  have h1 : Hid (msE m ≠ 0 → encS m = (fr0, msE m)) := fun h => by rw [encS, if_neg h]
  have h2 : Hid (msE m = 0 → encS m = (frameOf m, 0)) := fun h => by rw [encS, if_pos h]
  have hb := Lib.hid fun h : msE m = 0 => ms_ok h
  have hfr : Hid (frameOf m = ⟨m.src, m.num, m.kind, m.d0, m.d1, m.d2, m.d3, remI [m.src, m.num, m.kind, m.d0, m.d1, m.d2, m.d3]⟩) := rfl
  go_enter Tryd.func24, Tryd.ntmps24
  go_wp2_with fail
  refine (hcm.out _).mono ?_
  rintro e w3 ⟨rfl, hb3⟩
  replace hb3 := bl_tt hb3
  apply absX2 (w0 := w) (w := w3) (g0 := w.heap.size) (g1 := w.heap.size + 1)
  iterate 3 (focus ((with_reducible (repeat' (first | assumption | apply jA | apply jB | apply jC | apply jD | apply jE | apply jF | apply hb3 | apply jG | apply jH | apply jI | apply jJ | apply jK | apply hb3x | (apply jL; first | (simp; done) | rfl) | apply jM | apply jN | apply jO | apply jP | apply jQ | apply jR | apply jS | apply jT (hb := hb3 _ (jA _)) | omega | (simp; done) | (simp; omega) | (dsimp only; omega)))); done))
  intro wa hb0' k0' k1'
  (try simp only [List.setIfInBounds_toArray, List.set_cons_zero, List.set_cons_succ] at k0' k1')
  try clear hb3
  try clear hb0
  try clear k0
  try clear k1
  have hb0 := hb0'; clear hb0'
  have k0 := k0'; clear k0'
  have k1 := k1'; clear k1'
  have Lk0 := k0.later
  have Fk0 := k0.laterF
  have Qk0 := k0.lt
  have Lk1 := k1.later
  have Fk1 := k1.laterF
  have Qk1 := k1.lt
  have hq1 := k1.lt
  clear hcm
  by_cases h0 : msE m = 0
  · have h0' : (msE m != 0) = false := by simp [h0]
    have hs := Lib.hid (h2.out h0)
    have hbd := Lib.hid (hb.out h0)
    replace h0 := Lib.hid h0
    clear h1 h2 hb
    go_upto_region 5 with fail
    first
    | apply absB3 (w0 := w) (g0 := w.heap.size) (g1 := w.heap.size + 1) (g2 := wa.heap.size)
    | apply absTB3 (w0 := w) (g0 := w.heap.size) (g1 := w.heap.size + 1) (g2 := wa.heap.size)
    | apply absIB3 (w0 := w) (g0 := w.heap.size) (g1 := w.heap.size + 1) (g2 := wa.heap.size)
    iterate 4 (focus ((with_reducible (repeat' (first | assumption | apply jA | apply jB | apply jC | apply jD | apply jE | apply jF | apply hb3 | apply jG | apply jH | apply jI | apply jJ | apply jK | apply hb3x | (apply jL; first | (simp; done) | rfl) | apply jM | apply jN | apply jO | apply jP | apply jQ | apply jR | apply jS | apply jT (hb := hb3 _ (jA _)) | omega | (simp; done) | (simp; omega) | (dsimp only; omega)))); done))
    intro wb hb0' k0' k1' k2'
    (try simp only [List.setIfInBounds_toArray, List.set_cons_zero, List.set_cons_succ] at k0' k1' k2')
    try clear hb3
    try clear Lk0
    try clear Fk0
    try clear Qk0
    try clear Lk1
    try clear Fk1
    try clear Qk1
    try clear hb0
    try clear k0
    try clear k1
    try clear k2
    have hb0 := hb0'; clear hb0'
    have k0 := k0'; clear k0'
    have k1 := k1'; clear k1'
    have k2 := k2'; clear k2'
    have Lk0 := k0.later
    have Fk0 := k0.laterF
    have Qk0 := k0.lt
    have Lk1 := k1.later
    have Fk1 := k1.laterF
    have Qk1 := k1.lt
    have Lk2 := k2.later
    have Fk2 := k2.laterF
    have Qk2 := k2.lt
    have hcp := run_copy_row (P := Tryd.prog) wb.drew 22 22 3 3 wa.heap.size 3 4 5 ⟨w.heap.size, 3, none⟩ 4 4 _ _ [.int .i64 m.d0, .int .i64 m.d1, .int .i64 m.d2, .int .i64 m.d3] Tryd.underlying22 (by kernel_rfl) (Blk.drew k2) rfl
      (fun j v hj => by
        have hc := (Blk.drew k0).cell
        match j, hj with
        | 0, hj | 1, hj | 2, hj | 3, hj =>
          simp only [List.getElem?_cons_zero, List.getElem?_cons_succ] at hj
          rw [← hj, Go.WideShapes.add_plain, hc]
          rfl) (by simp) (by simp [Value.oneCell'])
    simp only [List.take, List.drop, List.length_cons, List.length_nil, List.cons_append, List.nil_append, Nat.reduceAdd] at hcp
    go_region
    clear hcp
    have k2' := Blk.row (Blk.drew k2) #[.int .i64 m.src, .int .i64 m.num, .int .i64 m.kind, .int .i64 m.d0, .int .i64 m.d1, .int .i64 m.d2, .int .i64 m.d3, .int .i64 0]
    have hbr : Below w.heap.size w (wb.drew.setRow wa.heap.size #[.int .i64 m.src, .int .i64 m.num, .int .i64 m.kind, .int .i64 m.d0, .int .i64 m.d1, .int .i64 m.d2, .int .i64 m.d3, .int .i64 0]) := below_setRow (bl_drew hb0) (by omega) _
    have k1' := Blk.rowOther (Blk.drew k1) (show w.heap.size + 1 ≠ wa.heap.size by omega) #[.int .i64 m.src, .int .i64 m.num, .int .i64 m.kind, .int .i64 m.d0, .int .i64 m.d1, .int .i64 m.d2, .int .i64 m.d3, .int .i64 0]
    generalize wb.drew.setRow wa.heap.size _ = wc at *
    clear Lk0 Lk1 Lk2 Fk0 Fk1 Fk2 hb0 k0 k1 k2
    apply absX2 (w0 := w) (w := wc) (g0 := w.heap.size + 1) (g1 := wa.heap.size)
    iterate 3 (focus ((with_reducible (repeat' (first | assumption | apply jA | apply jB | apply jC | apply jD | apply jE | apply jF | apply hb3 | apply jG | apply jH | apply jI | apply jJ | apply jK | apply hb3x | (apply jL; first | (simp; done) | rfl) | apply jM | apply jN | apply jO | apply jP | apply jQ | apply jR | apply jS | apply jT (hb := hb3 _ (jA _)) | omega | (simp; done) | (simp; omega) | (dsimp only; omega)))); done))
    intro wd hb0' k1'' k2''
    (try simp only [List.setIfInBounds_toArray, List.set_cons_zero, List.set_cons_succ] at k1'' k2'')
    try clear hb3
    try clear hb0
    try clear k1'
    try clear k2'
    have hb0 := hb0'; clear hb0'
    have k1' := k1''; clear k1''
    have k2' := k2''; clear k2''
    have Lk1' := k1'.later
    have Fk1' := k1'.laterF
    have Qk1' := k1'.lt
    have Lk2' := k2'.later
    have Fk2' := k2'.laterF
    have Qk2' := k2'.lt
    have hrm : Hid (Calls Tryd.prog 83 #[.slice (some ⟨wa.heap.size, 0, none⟩) 7 8] wd (Same (.int .i64 (remI [m.src, m.num, m.kind, m.d0, m.d1, m.d2, m.d3] : Nat)) wd)) :=
      c_remainder [m.src, m.num, m.kind, m.d0, m.d1, m.d2, m.d3] (some ⟨wa.heap.size, 0, none⟩) 8 wd (by simp) hbd.out (k2'.sub (l := [m.src, m.num, m.kind, m.d0, m.d1, m.d2, m.d3]) (fun k x hx => by match k, hx with | 0, hx | 1, hx | 2, hx | 3, hx | 4, hx | 5, hx | 6, hx => simpa using hx))
    go_wp2_with (go_at_call 83; (with_reducible refine hrm.out.mono ?_); rintro e w4 ⟨rfl, rfl⟩)
    first
    | apply absPB2 (w0 := w) (g0 := w.heap.size + 1) (g1 := wa.heap.size)
    | apply absPMB2 (w0 := w) (g0 := w.heap.size + 1) (g1 := wa.heap.size)
    iterate 3 (focus ((with_reducible (repeat' (first | assumption | apply jA | apply jB | apply jC | apply jD | apply jE | apply jF | apply hb3 | apply jG | apply jH | apply jI | apply jJ | apply jK | apply hb3x | (apply jL; first | (simp; done) | rfl) | apply jM | apply jN | apply jO | apply jP | apply jQ | apply jR | apply jS | apply jT (hb := hb3 _ (jA _)) | omega | (simp; done) | (simp; omega) | (dsimp only; omega)))); done))
    intro wz hb0' k1'' k2''
    (try simp only [List.setIfInBounds_toArray, List.set_cons_zero, List.set_cons_succ] at k1'' k2'')
    try clear hb3
    try clear Lk1'
    try clear Fk1'
    try clear Qk1'
    try clear Lk2'
    try clear Fk2'
    try clear Qk2'
    try clear hb0
    try clear k1'
    try clear k2'
    have hb0 := hb0'; clear hb0'
    have k1' := k1''; clear k1''
    have k2' := k2''; clear k2''
    have hr := k1'.cell
    exact bodyPost_ret (v := .tuple #[vFr (frameOf m), .int .i64 0]) (by simp [results, Tryd.results24, go_sem, hr, hfr.out]) rfl ⟨by rw [hs.out] <;> rfl, hb0⟩
  · have h0' : (msE m != 0) = true := by simp [h0]
    have hs := Lib.hid (h1.out h0)
    replace h0 := Lib.hid h0
    clear h1 h2 hb
    go_wp2
    first
    | apply absPB1 (w0 := w) (g0 := w.heap.size + 1)
    | apply absPMB1 (w0 := w) (g0 := w.heap.size + 1)
    iterate 2 (focus ((with_reducible (repeat' (first | assumption | apply jA | apply jB | apply jC | apply jD | apply jE | apply jF | apply hb3 | apply jG | apply jH | apply jI | apply jJ | apply jK | apply hb3x | (apply jL; first | (simp; done) | rfl) | apply jM | apply jN | apply jO | apply jP | apply jQ | apply jR | apply jS | apply jT (hb := hb3 _ (jA _)) | omega | (simp; done) | (simp; omega) | (dsimp only; omega)))); done))
    intro wz hb0' k1'
    (try simp only [List.setIfInBounds_toArray, List.set_cons_zero, List.set_cons_succ] at k1')
    try clear hb3
    try clear hb0
    try clear k1
    have hb0 := hb0'; clear hb0'
    have k1 := k1'; clear k1'
    have hr := k1.cell
    exact bodyPost_ret (v := .tuple #[vFr fr0, .int .i64 (msE m)]) (by simp [results, Tryd.results24, go_sem, hr, fr0]) rfl ⟨by rw [hs.out] <;> rfl, hb0⟩
end Go.Proofs.YtdlmkblmljhbfaaDoor
