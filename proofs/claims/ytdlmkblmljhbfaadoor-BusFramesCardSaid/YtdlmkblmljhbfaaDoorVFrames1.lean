/-
  Walks: the remainder of bytes that is asked; the message of a frame.
  Walks: the error of a message, of bytes, the remainder, a frame and its message, by the reference.
  Walks: a frame, and the message of a frame, by the reference.
  Frames and messages are equal to themselves.
  Walk: the law on frames.
-/
import Derived.Test.YtdlmkblmljhbfaaDoorU5
import Derived.Test.YtdlmkblmljhbfaaDoorU6
import Derived.Laws.StructEq
namespace Go.Proofs.YtdlmkblmljhbfaaDoor
set_option linter.unusedSimpArgs false
set_option linter.unusedVariables false
open Go.RowKit Go.Shelf
attribute [local go_sem] bl_al bl_drew bl_drewN bl_refl bx_al bx_drew bx_drewN bx_refl
set_option maxRecDepth 20000
/-- The remainder that is asked: it, and an error. -/
def remS (l : List Int) : Int × Int := if remE l = 0 then (((remI l : Nat) : Int), 0) else (0, remE l)
set_option maxHeartbeats 4000000 in
theorem c_RemainderOf (l : List Int) (A : Option Addr) (c : Nat) (w : World) (hl : l.length ≤ 1000000) (hr : Sl cI 1 w A l) : Calls Tryd.prog 23 #[.slice A l.length c] w (Ret (.tuple #[.int .i64 (remS l).1, .int .i64 (remS l).2]) w) := by
  have hcb := Lib.hid fun W (hb : Below w.heap.size w W) => c_bytesErr l A c W hl (hr.below hb)
  have hcr := Lib.hid fun (hb : ∀ n ∈ l, 0 ≤ n ∧ n ≤ 255) W (hw : Below w.heap.size w W) => c_remainder l A c W hl hb (hr.below hw)
  have hE : Hid (remE l = fstE [unl (decide ((l.length : Int) ≤ 60)) 8, bytesE l]) := rfl
  have h1 : Hid (remE l ≠ 0 → remS l = (0, remE l)) := fun h => by rw [remS, if_neg h]
  have h2 : Hid (remE l = 0 → remS l = (((remI l : Nat) : Int), 0)) := fun h => by rw [remS, if_pos h]
  have hby : Hid (remE l = 0 → ∀ n ∈ l, 0 ≤ n ∧ n ≤ 255) := fun h => bytes_ok ((fst_cons _ _).1 ((fst_cons _ _).1 h).2).1
  clear hr
  generalize remE l = E at *
  generalize l.length = n at *
  go_enter Tryd.func23, Tryd.ntmps23
  go_upto_region 2 with (first | (go_at_call 78; (with_reducible refine (c_unless _ _ _).mono ?_); rintro e w3 ⟨rfl, rfl⟩) | (go_at_call 82; (with_reducible refine (hcb.out _ (by (with_reducible (repeat' (first | assumption | apply jA | apply jB | apply jC | apply jD | apply jE | apply jF | apply hb3 | omega | (simp; done) | (simp; omega) | (dsimp only; omega)))))).mono ?_); rintro e w3 ⟨rfl, hb3⟩; replace hb3 := bl_tt hb3) | (go_at_call 77; (with_reducible refine (c_first2 (by (with_reducible (repeat' (first | assumption | (apply jL; first | (simp; done) | rfl) | apply jM | apply jN | apply jO | apply jP | apply jQ | apply jR | apply jS | apply jT (hb := hb3 _ (jA _)) | omega | (simp; done) | (simp; omega) | (dsimp only; omega)))))).mono ?_); rintro e w3 ⟨rfl, rfl⟩))
  rw [← hE.out]
  clear hcb
  by_cases h0 : E = 0
  · have h0' : (E != 0) = false := by simp [h0]
    have hs := Lib.hid (h2.out h0)
    have hbd := Lib.hid (hby.out h0)
    replace h0 := Lib.hid h0
    go_wp2_with (go_at_call 83; (with_reducible refine (hcr.out hbd.out _ (by (with_reducible (repeat' (first | assumption | apply jA | apply jB | apply jC | apply jD | apply jE | apply jF | apply hb3 | omega | (simp; done) | (simp; omega) | (dsimp only; omega)))))).mono ?_); rintro e w4 ⟨rfl, rfl⟩)
    go_ret2
    exact ⟨by rw [hs.out] <;> rfl, by (with_reducible (repeat' (first | assumption | apply jA | apply jB | apply jC | apply jD | apply jE | apply jF | apply hb3 | omega | (simp; done) | (simp; omega) | (dsimp only; omega))))⟩
  · have h0' : (E != 0) = true := by simp [h0]
    have hs := Lib.hid (h1.out h0)
    replace h0 := Lib.hid h0
    go_wp2
    go_ret2
    exact ⟨by rw [hs.out] <;> rfl, by (with_reducible (repeat' (first | assumption | apply jA | apply jB | apply jC | apply jD | apply jE | apply jF | apply hb3 | omega | (simp; done) | (simp; omega) | (dsimp only; omega))))⟩
/-- The message of a frame, by the reference's order of errors. -/
theorem decS_bytes {f : Fr} (h : bytesE f.l ≠ 0) : decS f = (ms0, bytesE f.l) := by rw [decS, if_neg h]
theorem decS_bad {f : Fr} (h : bytesE f.l = 0) (h2 : fstE [unl (decide (f.a7 = (remI f.head : Int))) 19, msE f.ms] ≠ 0) : decS f = (ms0, fstE [unl (decide (f.a7 = (remI f.head : Int))) 19, msE f.ms]) := by rw [decS, if_pos h, if_neg h2]
theorem decS_ok {f : Fr} (h : bytesE f.l = 0) (h2 : fstE [unl (decide (f.a7 = (remI f.head : Int))) 19, msE f.ms] = 0) : decS f = (f.ms, 0) := by rw [decS, if_pos h, if_pos h2]
theorem head_bd {f : Fr} (h : bytesE f.l = 0) : ∀ n ∈ f.head, 0 ≤ n ∧ n ≤ 255 := fun n hn => bytes_ok h n (by
  simp only [Fr.head, Fr.l, List.mem_cons, List.not_mem_nil, or_false] at hn ⊢
  omega)
set_option maxHeartbeats 8000000 in
theorem c_Decoded (f : Fr) (w : World) : Calls Tryd.prog 25 #[vFr f] w (Ret (.tuple #[vMs (decS f).1, .int .i64 (decS f).2]) w) := by
  have hb1 := Lib.hid fun h => decS_bytes (f := f) h
  have hb2 := Lib.hid fun h h2 => decS_bad (f := f) h h2
  have hb3' := Lib.hid fun h h2 => decS_ok (f := f) h h2
  have hhd := Lib.hid fun h => head_bd (f := f) h
  obtain ⟨a0, a1, a2, a3, a4, a5, a6, a7⟩ := f
  dsimp only [Fr.l, Fr.head, Fr.ms] at hb1 hb2 hb3' hhd
  go_enter Tryd.func25, Tryd.ntmps25
  go_upto_region 1 with fail
  first
  | apply absB2 (w0 := w) (g0 := w.heap.size) (g1 := w.heap.size + 1)
  | apply absTB2 (w0 := w) (g0 := w.heap.size) (g1 := w.heap.size + 1)
  | apply absIB2 (w0 := w) (g0 := w.heap.size) (g1 := w.heap.size + 1)
  iterate 3 (focus ((with_reducible (repeat' (first | assumption | apply jA | apply jB | apply jC | apply jD | apply jE | apply jF | apply hb3 | apply jG | apply jH | apply jI | apply jJ | apply jK | apply hb3x | (apply jL; first | (simp; done) | rfl) | apply jM | apply jN | apply jO | apply jP | apply jQ | apply jR | apply jS | apply jT (hb := hb3 _ (jA _)) | omega | (simp; done) | (simp; omega) | (dsimp only; omega)))); done))
  intro wa hb0' k0' k1'
  (try simp only [List.setIfInBounds_toArray, List.set_cons_zero, List.set_cons_succ] at k0' k1')
  try clear hb3
  try clear hb0
  try clear k0
  try clear k1
  have hb0 := hb0'; clear hb0'
  have k0 := k0'; clear k0'
  have k1 := k1'; clear k1'
  have hcb : Hid (Calls Tryd.prog 82 #[.slice (some ⟨w.heap.size, 0, none⟩) 8 8] wa (Ret (.int .i64 (bytesE [a0, a1, a2, a3, a4, a5, a6, a7])) wa)) := c_bytesErr [a0, a1, a2, a3, a4, a5, a6, a7] (some ⟨w.heap.size, 0, none⟩) 8 wa (by simp) (k0.sub (l := [a0, a1, a2, a3, a4, a5, a6, a7]) (fun k x hx => by match k, hx with | 0, hx | 1, hx | 2, hx | 3, hx | 4, hx | 5, hx | 6, hx | 7, hx => simpa using hx))
  go_wp2_with fail
  refine hcb.out.mono ?_
  rintro e wb ⟨rfl, hb3⟩
  replace hb0 := bl_tr hb0 hb3
  replace k0 := k0.below hb3
  replace k1 := k1.below hb3
  clear hb3 hcb
  generalize hBE : bytesE [a0, a1, a2, a3, a4, a5, a6, a7] = B at *
  clear hBE
  by_cases h0 : B = 0
  rotate_left
  · have h0' : (B != 0) = true := by simp [h0]
    have hs := Lib.hid (hb1.out h0)
    replace h0 := Lib.hid h0
    clear hb1 hb2 hb3' hhd
    have L1 := k1.cell
    have F1 := k1.frozen
    go_wp2
    first
    | apply absPB2 (w0 := w) (g0 := w.heap.size) (g1 := w.heap.size + 1)
    | apply absPMB2 (w0 := w) (g0 := w.heap.size) (g1 := w.heap.size + 1)
    iterate 3 (focus ((with_reducible (repeat' (first | assumption | apply jA | apply jB | apply jC | apply jD | apply jE | apply jF | apply hb3 | apply jG | apply jH | apply jI | apply jJ | apply jK | apply hb3x | (apply jL; first | (simp; done) | rfl) | apply jM | apply jN | apply jO | apply jP | apply jQ | apply jR | apply jS | apply jT (hb := hb3 _ (jA _)) | omega | (simp; done) | (simp; omega) | (dsimp only; omega)))); done))
    intro wz hb0' k0' k1'
    (try simp only [List.setIfInBounds_toArray, List.set_cons_zero, List.set_cons_succ] at k0' k1')
    try clear hb3
    try clear hb0
    try clear k0
    try clear k1
    have hb0 := hb0'; clear hb0'
    have k0 := k0'; clear k0'
    have k1 := k1'; clear k1'
    have hr := k1.cell
    exact bodyPost_ret (v := .tuple #[vMs ms0, .int .i64 B]) (by simp [results, Tryd.results25, go_sem, hr, ms0]) rfl ⟨by rw [hs.out] <;> rfl, hb0⟩
  have h0' : (B != 0) = false := by simp [h0]
  replace hb2 := Lib.hid (hb2.out h0)
  replace hb3' := Lib.hid (hb3'.out h0)
  replace hhd := Lib.hid (hhd.out h0)
  clear hb1
  replace h0 := Lib.hid h0
  have L0 := k0.cell
  have hat : ∀ W : World, (Instr.arrayAt 37 (.slice (some ⟨w.heap.size, 3, none⟩) 4 5)).run Tryd.prog W = .ok (.pointer (some ⟨w.heap.size, 3, none⟩)) W := fun W => by simp [Instr.arrayAt, run_underlying (Tryd.underlying37)]
  have hq0 := hb0.size
  have hq4 := k0.lt
  have hq5 := k1.lt
  go_upto_region 5 with fail
  first
  | apply absB3 (w0 := w) (g0 := w.heap.size) (g1 := w.heap.size + 1) (g2 := wb.heap.size)
  | apply absTB3 (w0 := w) (g0 := w.heap.size) (g1 := w.heap.size + 1) (g2 := wb.heap.size)
  | apply absIB3 (w0 := w) (g0 := w.heap.size) (g1 := w.heap.size + 1) (g2 := wb.heap.size)
  iterate 4 (focus ((with_reducible (repeat' (first | assumption | apply jA | apply jB | apply jC | apply jD | apply jE | apply jF | apply hb3 | apply jG | apply jH | apply jI | apply jJ | apply jK | apply hb3x | (apply jL; first | (simp; done) | rfl) | apply jM | apply jN | apply jO | apply jP | apply jQ | apply jR | apply jS | apply jT (hb := hb3 _ (jA _)) | omega | (simp; done) | (simp; omega) | (dsimp only; omega)))); done))
  intro wc hb0' k0' k1' k2'
  (try simp only [List.setIfInBounds_toArray, List.set_cons_zero, List.set_cons_succ] at k0' k1' k2')
  try clear hb3
  try clear hb0
  try clear k0
  try clear k1
  try clear k2
  have hb0 := hb0'; clear hb0'
  have k0 := k0'; clear k0'
  have k1 := k1'; clear k1'
  have k2 := k2'; clear k2'
  clear L0
  have L0 := k0.cell
  have L2 := k2.cell
  have F2 := k2.frozen
  have hq1 := hb0.size
  have hq2 := k1.lt
  have hq3 := k2.lt
  go_upto_region 6 with fail
  first
  | apply absB3 (w0 := w) (g0 := w.heap.size) (g1 := w.heap.size + 1) (g2 := wb.heap.size)
  | apply absTB3 (w0 := w) (g0 := w.heap.size) (g1 := w.heap.size + 1) (g2 := wb.heap.size)
  | apply absIB3 (w0 := w) (g0 := w.heap.size) (g1 := w.heap.size + 1) (g2 := wb.heap.size)
  iterate 4 (focus ((with_reducible (repeat' (first | assumption | apply jA | apply jB | apply jC | apply jD | apply jE | apply jF | apply hb3 | apply jG | apply jH | apply jI | apply jJ | apply jK | apply hb3x | (apply jL; first | (simp; done) | rfl) | apply jM | apply jN | apply jO | apply jP | apply jQ | apply jR | apply jS | apply jT (hb := hb3 _ (jA _)) | omega | (simp; done) | (simp; omega) | (dsimp only; omega)))); done))
  intro wd hb0' k0' k1' k2'
  (try simp only [List.setIfInBounds_toArray, List.set_cons_zero, List.set_cons_succ] at k0' k1' k2')
  try clear hb3
  try clear hb0
  try clear k0
  try clear k1
  try clear k2
  have hb0 := hb0'; clear hb0'
  have k0 := k0'; clear k0'
  have k1 := k1'; clear k1'
  have k2 := k2'; clear k2'
  have Lk0 := k0.later
  have Fk0 := k0.laterF
  have Qk0 := k0.lt
  have Lk1 := k1.later
  have Fk1 := k1.laterF
  have Qk1 := k1.lt
  have Lk2 := k2.later
  have Fk2 := k2.laterF
  have Qk2 := k2.lt
  clear L0 L2 F2
  have hrm : Hid (∀ W : World, Below wd.heap.size wd W → Calls Tryd.prog 83 #[.slice (some ⟨w.heap.size, 0, none⟩) 7 8] W (Same (.int .i64 (remI [a0, a1, a2, a3, a4, a5, a6] : Nat)) W)) := fun W hb =>
    c_remainder [a0, a1, a2, a3, a4, a5, a6] (some ⟨w.heap.size, 0, none⟩) 8 W (by simp) hhd.out ((k0.sub (l := [a0, a1, a2, a3, a4, a5, a6]) (fun k x hx => by match k, hx with | 0, hx | 1, hx | 2, hx | 3, hx | 4, hx | 5, hx | 6, hx => simpa using hx)).below hb)
  have hcm := Lib.hid fun W : World => c_CheckMessage ⟨a0, a1, a2, a3, a4, a5, a6⟩ W
  refine wp_any (w0 := wd) ⟨[], [], [some 24, some 25, some 26, some 27, some 28, some 29, some 30, some 31, some 32, some 33, some 6], [[], [0], [], [2], [0, 1, 2, 3], [0, 1, 2, 3, 4], [], [0, 1, 2, 3, 4, 5, 6], [0, 1, 2, 3, 4, 5, 6, 7], [0, 1, 2, 3, 4, 5, 6, 7, 8], [0, 1, 2, 3, 4, 5, 6, 7, 8, 9]], [[], [0], [], [2], [1, 3], [4], [], [6], [5, 7], [8], [8, 9]]⟩ (fun _ => []) (by kernel_rfl) (by kernel_rfl) (by (with_reducible (repeat' (first | assumption | apply jA | apply jB | apply jC | apply jD | apply jE | apply jF | apply hb3 | omega | (simp; done) | (simp; omega) | (dsimp only; omega))))) (fun u => by simp only [putD, Act.put, List.setIfInBounds_toArray, List.set_cons_zero, List.set_cons_succ, Nat.zero_add, Nat.reduceAdd]; rfl) ?_
  apply RGW.on (i := 0) rfl
  · (simp only [gA, gB, gC] <;> rfl)
  · intro γ u W hcur hd
    clear hd
    (try dsimp only)
    refine ⟨rfl, ?_⟩
    go_simp <;> (try go_bits) <;> with_reducible rfl
  · exact fun _ _ _ => rfl
  · rfl
  dsimp only [nA, cA]
  apply RGW.on (i := 1) rfl
  · (simp only [gA, gB, gC] <;> rfl)
  · intro γ u W hcur hd
    obtain ⟨⟨h0, -, -⟩, -⟩ := hd
    dsimp only at h0
    (try simp only [h0])
    refine ⟨rfl, ?_⟩
    go_simp <;> (try go_bits) <;> with_reducible rfl
  · exact fun _ _ _ => rfl
  · rfl
  dsimp only [nA, cA]
  apply RGW.on (i := 2) rfl
  · (simp only [gA, gB, gC] <;> rfl)
  · intro γ u W hcur hd
    clear hd
    (try dsimp only)
    refine ⟨rfl, ?_⟩
    go_simp <;> (try go_bits) <;> with_reducible rfl
  · exact fun _ _ _ => rfl
  · rfl
  dsimp only [nA, cA]
  apply RGW.call (i := 3) rfl
  · (simp only [gA, gB, gC] <;> rfl)
  · intro γ u W hcur hd
    obtain ⟨⟨h2, -, -⟩, -⟩ := hd
    dsimp only at h2
    (try simp only [h2])
    refine ⟨rfl, fun K hK => ?_⟩
    go_simp
    first
    | (go_at_call 83; (with_reducible refine (hrm.out _ (by (with_reducible (repeat' (first | assumption | apply jA | apply jB | apply jC | apply jD | apply jE | apply jF | apply hb3 | omega | (simp; done) | (simp; omega) | (dsimp only; omega)))))).mono ?_); rintro e w3 ⟨rfl, rfl⟩)
    | (go_at_call 78; (with_reducible refine (c_unless _ _ _).mono ?_); rintro e w3 ⟨rfl, rfl⟩)
    | (go_at_call 22; (with_reducible refine (hcm.out _).mono ?_); rintro e w3 ⟨rfl, hb3⟩; replace hb3 := bl_tt hb3)
    | (go_at_call 77; (with_reducible refine (c_first2 (by (with_reducible (repeat' (first | assumption | (apply jL; first | (simp; done) | rfl) | apply jM | apply jN | apply jO | apply jP | apply jQ | apply jR | apply jS | apply jT (hb := hb3 _ (jA _)) | omega | (simp; done) | (simp; omega) | (dsimp only; omega)))))).mono ?_); rintro e w3 ⟨rfl, rfl⟩)
    (try dsimp only)
    exact hK.out _ _ rfl (by (with_reducible (repeat' (first | assumption | apply jA | apply jB | apply jC | apply jD | apply jE | apply jF | apply hb3 | omega | (simp; done) | (simp; omega) | (dsimp only; omega)))))
  · exact fun _ _ _ => rfl
  · rfl
  dsimp only [nA, cA]
  apply RGW.on (i := 4) rfl
  · (simp only [gA, gB, gC] <;> rfl)
  · intro γ u W hcur hd
    obtain ⟨⟨h1, -, -⟩, ⟨h3, -, -⟩, -⟩ := hd
    dsimp only at h1 h3
    (try simp only [h1, h3])
    refine ⟨rfl, ?_⟩
    go_simp <;> (try go_bits) <;> with_reducible rfl
  · exact fun _ _ _ => rfl
  · rfl
  dsimp only [nA, cA]
  apply RGW.call (i := 5) rfl
  · (simp only [gA, gB, gC] <;> rfl)
  · intro γ u W hcur hd
    obtain ⟨⟨h4, -, -⟩, -⟩ := hd
    dsimp only at h4
    (try simp only [h4])
    refine ⟨rfl, fun K hK => ?_⟩
    go_simp
    first
    | (go_at_call 83; (with_reducible refine (hrm.out _ (by (with_reducible (repeat' (first | assumption | apply jA | apply jB | apply jC | apply jD | apply jE | apply jF | apply hb3 | omega | (simp; done) | (simp; omega) | (dsimp only; omega)))))).mono ?_); rintro e w3 ⟨rfl, rfl⟩)
    | (go_at_call 78; (with_reducible refine (c_unless _ _ _).mono ?_); rintro e w3 ⟨rfl, rfl⟩)
    | (go_at_call 22; (with_reducible refine (hcm.out _).mono ?_); rintro e w3 ⟨rfl, hb3⟩; replace hb3 := bl_tt hb3)
    | (go_at_call 77; (with_reducible refine (c_first2 (by (with_reducible (repeat' (first | assumption | (apply jL; first | (simp; done) | rfl) | apply jM | apply jN | apply jO | apply jP | apply jQ | apply jR | apply jS | apply jT (hb := hb3 _ (jA _)) | omega | (simp; done) | (simp; omega) | (dsimp only; omega)))))).mono ?_); rintro e w3 ⟨rfl, rfl⟩)
    (try dsimp only)
    exact hK.out _ _ rfl (by (with_reducible (repeat' (first | assumption | apply jA | apply jB | apply jC | apply jD | apply jE | apply jF | apply hb3 | omega | (simp; done) | (simp; omega) | (dsimp only; omega)))))
  · exact fun _ _ _ => rfl
  · rfl
  dsimp only [nA, cA]
  apply RGW.on (i := 6) rfl
  · (simp only [gA, gB, gC] <;> rfl)
  · intro γ u W hcur hd
    clear hd
    (try dsimp only)
    refine ⟨rfl, ?_⟩
    go_simp <;> (try go_bits) <;> with_reducible rfl
  · exact fun _ _ _ => rfl
  · rfl
  dsimp only [nA, cA]
  apply RGW.call (i := 7) rfl
  · (simp only [gA, gB, gC] <;> rfl)
  · intro γ u W hcur hd
    obtain ⟨⟨h6, -, -⟩, -⟩ := hd
    dsimp only at h6
    (try simp only [h6])
    refine ⟨rfl, fun K hK => ?_⟩
    go_simp
    first
    | (go_at_call 83; (with_reducible refine (hrm.out _ (by (with_reducible (repeat' (first | assumption | apply jA | apply jB | apply jC | apply jD | apply jE | apply jF | apply hb3 | omega | (simp; done) | (simp; omega) | (dsimp only; omega)))))).mono ?_); rintro e w3 ⟨rfl, rfl⟩)
    | (go_at_call 78; (with_reducible refine (c_unless _ _ _).mono ?_); rintro e w3 ⟨rfl, rfl⟩)
    | (go_at_call 22; (with_reducible refine (hcm.out _).mono ?_); rintro e w3 ⟨rfl, hb3⟩; replace hb3 := bl_tt hb3)
    | (go_at_call 77; (with_reducible refine (c_first2 (by (with_reducible (repeat' (first | assumption | (apply jL; first | (simp; done) | rfl) | apply jM | apply jN | apply jO | apply jP | apply jQ | apply jR | apply jS | apply jT (hb := hb3 _ (jA _)) | omega | (simp; done) | (simp; omega) | (dsimp only; omega)))))).mono ?_); rintro e w3 ⟨rfl, rfl⟩)
    (try dsimp only)
    exact hK.out _ _ rfl (by (with_reducible (repeat' (first | assumption | apply jA | apply jB | apply jC | apply jD | apply jE | apply jF | apply hb3 | omega | (simp; done) | (simp; omega) | (dsimp only; omega)))))
  · exact fun _ _ _ => rfl
  · rfl
  dsimp only [nA, cA]
  apply RGW.bslice (i := 8) rfl
  · (simp only [gA, gB, gC] <;> rfl)
  · intro γ u W hcur hd
    obtain ⟨⟨h5, -, -⟩, ⟨h7, -, -⟩, -⟩ := hd
    dsimp only at h5 h7
    (try simp only [h5, h7])
    refine ⟨rfl, fun K hK => ?_⟩
    go_simp
    exact hK.out _ _ rfl rfl
  · exact fun _ _ _ => rfl
  · rfl
  · rfl
  dsimp only [nA, cA]
  apply RGW.call (i := 9) rfl
  · (simp only [gA, gB, gC] <;> rfl)
  · intro γ u W hcur hd
    obtain ⟨⟨h8, r8, -⟩, -⟩ := hd
    dsimp only at h8 r8
    have L8 := r8.cell
    (try simp only [h8])
    refine ⟨rfl, fun K hK => ?_⟩
    go_simp
    first
    | (go_at_call 83; (with_reducible refine (hrm.out _ (by (with_reducible (repeat' (first | assumption | apply jA | apply jB | apply jC | apply jD | apply jE | apply jF | apply hb3 | omega | (simp; done) | (simp; omega) | (dsimp only; omega)))))).mono ?_); rintro e w3 ⟨rfl, rfl⟩)
    | (go_at_call 78; (with_reducible refine (c_unless _ _ _).mono ?_); rintro e w3 ⟨rfl, rfl⟩)
    | (go_at_call 22; (with_reducible refine (hcm.out _).mono ?_); rintro e w3 ⟨rfl, hb3⟩; replace hb3 := bl_tt hb3)
    | (go_at_call 77; (with_reducible refine (c_first2 (by (with_reducible (repeat' (first | assumption | (apply jL; first | (simp; done) | rfl) | apply jM | apply jN | apply jO | apply jP | apply jQ | apply jR | apply jS | apply jT (hb := hb3 _ (jA _)) | omega | (simp; done) | (simp; omega) | (dsimp only; omega)))))).mono ?_); rintro e w3 ⟨rfl, rfl⟩)
    (try dsimp only)
    exact hK.out _ _ rfl (by (with_reducible (repeat' (first | assumption | apply jA | apply jB | apply jC | apply jD | apply jE | apply jF | apply hb3 | omega | (simp; done) | (simp; omega) | (dsimp only; omega)))))
  · first
    | exact fun _ _ _ => rfl
    | intro γ γ' hg
      try dsimp only
      have e8 := hg 8 (by decide)
      simp only [e8]
  · rfl
  dsimp only [nA, cA]
  apply RGW.on (i := 10) rfl
  · (simp only [gA, gB, gC] <;> rfl)
  · intro γ u W hcur hd
    obtain ⟨⟨h8, r8, -⟩, ⟨h9, -, -⟩, -⟩ := hd
    dsimp only at h8 h9 r8
    have L8 := r8.cell
    (try simp only [h8, h9])
    refine ⟨rfl, ?_⟩
    go_simp <;> (try go_bits) <;> with_reducible rfl
  · first
    | exact fun _ _ _ => rfl
    | intro γ γ' hg
      try dsimp only
      have e8 := hg 8 (by decide)
      simp only [e8]
  · rfl
  dsimp only [nA, cA]
  refine RGW.fin (fun γ u we hwe hd hdis => ?_)
  obtain ⟨⟨h0, -, -⟩, ⟨h1, -, -⟩, ⟨h2, -, -⟩, ⟨h3, -, -⟩, ⟨h4, -, -⟩, ⟨h5, -, -⟩, ⟨h6, -, -⟩, ⟨h7, -, -⟩, ⟨h8, r8, b8⟩, ⟨h9, -, -⟩, ⟨h10, -, -⟩, -⟩ := hd
  dsimp only at h0 h1 h2 h3 h4 h5 h6 h7 h8 h9 h10 r8 b8
  clear hdis
  simp only [h0, h1, h2, h3, h4, h5, h6, h7, h8, h9, h10]
  clear h10 h9 h8 h7 h6 h5 h4 h3 h2 h1 h0
  replace b8 := b8 _ (List.mem_singleton.2 rfl)
  generalize hγ8 : (γ 8).n = g8 at *
  clear hγ8
  clear u
  simp only [List.map_nil]
  refine PlanW.done ?_
  have hb3 := bl_tt hwe
  have hbe := hb3 _ hb0
  replace k1 := k1.below hwe
  replace k2 := k2.below hwe
  clear Lk0 Lk1 Lk2 Fk0 Fk1 Fk2 k0 hb0 hb3 hrm hcm hwe
  replace hb2 : Hid (fstE [unl (a7 == ((remI [a0, a1, a2, a3, a4, a5, a6] : Nat) : Int)) 19, msE ⟨a0, a1, a2, a3, a4, a5, a6⟩] ≠ 0 → decS ⟨a0, a1, a2, a3, a4, a5, a6, a7⟩ = (ms0, fstE [unl (a7 == ((remI [a0, a1, a2, a3, a4, a5, a6] : Nat) : Int)) 19, msE ⟨a0, a1, a2, a3, a4, a5, a6⟩])) := hb2
  replace hb3' : Hid (fstE [unl (a7 == ((remI [a0, a1, a2, a3, a4, a5, a6] : Nat) : Int)) 19, msE ⟨a0, a1, a2, a3, a4, a5, a6⟩] = 0 → decS ⟨a0, a1, a2, a3, a4, a5, a6, a7⟩ = (⟨a0, a1, a2, a3, a4, a5, a6⟩, 0)) := hb3'
  obtain ⟨E, hE⟩ : ∃ E, fstE [unl (a7 == ((remI [a0, a1, a2, a3, a4, a5, a6] : Nat) : Int)) 19, msE ⟨a0, a1, a2, a3, a4, a5, a6⟩] = E := ⟨_, rfl⟩
  rw [hE] at hb2 hb3' ⊢
  clear hE h0' hhd
  have hb0 := hbe
  have L1 := k1.cell
  have F1 := k1.frozen
  by_cases hE0 : E = 0
  · have hE' : (E != 0) = false := by simp [hE0]
    have hs := Lib.hid (hb3'.out hE0)
    replace hE0 := Lib.hid hE0
    have L2 := k2.cell
    clear hb2 hb3'
    go_wp2
    first
    | apply absPB1 (w0 := w) (g0 := w.heap.size + 1)
    | apply absPMB1 (w0 := w) (g0 := w.heap.size + 1)
    iterate 2 (focus ((with_reducible (repeat' (first | assumption | apply jA | apply jB | apply jC | apply jD | apply jE | apply jF | apply hb3 | apply jG | apply jH | apply jI | apply jJ | apply jK | apply hb3x | (apply jL; first | (simp; done) | rfl) | apply jM | apply jN | apply jO | apply jP | apply jQ | apply jR | apply jS | apply jT (hb := hb3 _ (jA _)) | omega | (simp; done) | (simp; omega) | (dsimp only; omega)))); done))
    intro wz hb0' k1'
    (try simp only [List.setIfInBounds_toArray, List.set_cons_zero, List.set_cons_succ] at k1')
    try clear hb3
    try clear hb0
    try clear k1
    have hb0 := hb0'; clear hb0'
    have k1 := k1'; clear k1'
    have hr := k1.cell
    exact bodyPost_ret (v := .tuple #[vMs ⟨a0, a1, a2, a3, a4, a5, a6⟩, .int .i64 0]) (by simp [results, Tryd.results25, go_sem, hr]) rfl ⟨by rw [hs.out] <;> rfl, hb0⟩
  · have hE' : (E != 0) = true := by simp [hE0]
    have hs := Lib.hid (hb2.out hE0)
    replace hE0 := Lib.hid hE0
    clear hb2 hb3'
    go_wp2
    first
    | apply absPB1 (w0 := w) (g0 := w.heap.size + 1)
    | apply absPMB1 (w0 := w) (g0 := w.heap.size + 1)
    iterate 2 (focus ((with_reducible (repeat' (first | assumption | apply jA | apply jB | apply jC | apply jD | apply jE | apply jF | apply hb3 | apply jG | apply jH | apply jI | apply jJ | apply jK | apply hb3x | (apply jL; first | (simp; done) | rfl) | apply jM | apply jN | apply jO | apply jP | apply jQ | apply jR | apply jS | apply jT (hb := hb3 _ (jA _)) | omega | (simp; done) | (simp; omega) | (dsimp only; omega)))); done))
    intro wz hb0' k1'
    (try simp only [List.setIfInBounds_toArray, List.set_cons_zero, List.set_cons_succ] at k1')
    try clear hb3
    try clear hb0
    try clear k1
    have hb0 := hb0'; clear hb0'
    have k1 := k1'; clear k1'
    have hr := k1.cell
    exact bodyPost_ret (v := .tuple #[vMs ms0, .int .i64 E]) (by simp [results, Tryd.results25, go_sem, hr, ms0]) rfl ⟨by rw [hs.out] <;> rfl, hb0⟩
end Go.Proofs.YtdlmkblmljhbfaaDoor
namespace Go.Proofs.YtdlmkblmljhbfaaDoor
set_option linter.unusedSimpArgs false
set_option linter.unusedVariables false
open Go.RowKit Go.Shelf
attribute [local go_sem] bl_al bl_drew bl_drewN bl_refl bx_al bx_drew bx_drewN bx_refl
set_option maxRecDepth 20000
theorem r_IsByte (n : Int) (w : World) : Calls Tryd.prog 84 #[.int .i64 n] w (Same (.bool (byteB n)) w) := by
  go_enter Tryd.func84, Tryd.ntmps84
  go_wp2_with (go_at_call 21; (with_reducible refine (r_Within _ _ _ _).mono ?_); rintro e w3 ⟨rfl, rfl⟩)
  go_ret
  exact ⟨rfl, rfl⟩
theorem bytesE_cons (x : Int) (l : List Int) : bytesE (x :: l) = if byteB x then bytesE l else 2 := by
  have h : ∀ (l : List Int) (k j : Nat), (eachS (fun _ n => unl (byteB n) 2) l k).2 = (eachS (fun _ n => unl (byteB n) 2) l j).2 := by
    intro l
    induction l with
    | nil => intro k j; rfl
    | cons y l ih =>
      intro k j
      unfold eachS
      cases byteB y <;> simp [unl]
      exact ih _ _
  unfold bytesE
  rw [eachS]
  cases byteB x <;> simp [unl]
  exact h l _ _
theorem bytesE_nil : bytesE [] = 0 := rfl
/-- The error of a message, test by test. -/
theorem msE_eq (m : Ms) : msE m = if inR m.src 0 15 && inR m.kind 0 3 && byteB m.num then bytesE [m.d0, m.d1, m.d2, m.d3] else 2 := by
  unfold msE fstE unl
  cases inR m.src 0 15 && inR m.kind 0 3 && byteB m.num <;> simp [fstE]
  intro h
  exact h.symm
set_option maxHeartbeats 8000000 in
theorem r_MessageErr (m : Ms) (w : World) : Calls Tryd.prog 26 #[vMs m] w (Ret (.int .i64 (msE m)) w) := by
  have he := msE_eq m
  rw [bytesE_cons, bytesE_cons, bytesE_cons, bytesE_cons, bytesE_nil] at he
  obtain ⟨s, n, kd, a, b, c, d⟩ := m
  dsimp only at he
  obtain ⟨bs, hs⟩ : ∃ b', inR s 0 15 = b' := ⟨_, rfl⟩
  have cs := Lib.hid fun W : World => hs ▸ r_Within s 0 15 W
  rw [hs] at he
  clear hs
  obtain ⟨bk, hk⟩ : ∃ b', inR kd 0 3 = b' := ⟨_, rfl⟩
  have ck := Lib.hid fun W : World => hk ▸ r_Within kd 0 3 W
  rw [hk] at he
  clear hk
  obtain ⟨bn, hn⟩ : ∃ b', byteB n = b' := ⟨_, rfl⟩
  have cn := Lib.hid fun W : World => hn ▸ r_IsByte n W
  rw [hn] at he
  clear hn
  obtain ⟨ba, ha⟩ : ∃ b', byteB a = b' := ⟨_, rfl⟩
  have ca := Lib.hid fun W : World => ha ▸ r_IsByte a W
  rw [ha] at he
  clear ha
  obtain ⟨bb, hb⟩ : ∃ b', byteB b = b' := ⟨_, rfl⟩
  have cb := Lib.hid fun W : World => hb ▸ r_IsByte b W
  rw [hb] at he
  clear hb
  obtain ⟨bc, hc⟩ : ∃ b', byteB c = b' := ⟨_, rfl⟩
  have cc := Lib.hid fun W : World => hc ▸ r_IsByte c W
  rw [hc] at he
  clear hc
  obtain ⟨bd, hd⟩ : ∃ b', byteB d = b' := ⟨_, rfl⟩
  have cd := Lib.hid fun W : World => hd ▸ r_IsByte d W
  rw [hd] at he
  clear hd
  go_enter Tryd.func26, Tryd.ntmps26
  go_upto_region 1 with fail
  first
  | apply absB1 (w0 := w) (g0 := w.heap.size)
  | apply absTB1 (w0 := w) (g0 := w.heap.size)
  | apply absIB1 (w0 := w) (g0 := w.heap.size)
  iterate 2 (focus ((with_reducible (repeat' (first | assumption | apply jA | apply jB | apply jC | apply jD | apply jE | apply jF | apply hb3 | apply jG | apply jH | apply jI | apply jJ | apply jK | apply hb3x | (apply jL; first | (simp; done) | rfl) | apply jM | apply jN | apply jO | apply jP | apply jQ | apply jR | apply jS | apply jT (hb := hb3 _ (jA _)) | omega | (simp; done) | (simp; omega) | (dsimp only; omega)))); done))
  intro wa hb0' k0'
  (try simp only [List.setIfInBounds_toArray, List.set_cons_zero, List.set_cons_succ] at k0')
  try clear hb3
  try clear hb0
  try clear k0
  have hb0 := hb0'; clear hb0'
  have k0 := k0'; clear k0'
  have L0 := k0.cell
  cases bs
  · go_wp2_with (go_at_call 21; (first | (with_reducible refine (cs.out _).mono ?_) | (with_reducible refine (ck.out _).mono ?_)); rintro e w3 ⟨rfl, rfl⟩)
    go_ret
    exact ⟨by rw [he] <;> rfl, hb0⟩
  cases bk
  · go_wp2_with (go_at_call 21; (first | (with_reducible refine (cs.out _).mono ?_) | (with_reducible refine (ck.out _).mono ?_)); rintro e w3 ⟨rfl, rfl⟩)
    go_ret
    exact ⟨by rw [he] <;> rfl, hb0⟩
  cases bn
  · go_wp2_with (first | (go_at_call 21; (first | (with_reducible refine (cs.out _).mono ?_) | (with_reducible refine (ck.out _).mono ?_)); rintro e w3 ⟨rfl, rfl⟩) | (go_at_call 84; (with_reducible refine (cn.out _).mono ?_); rintro e w3 ⟨rfl, rfl⟩))
    go_ret
    exact ⟨by rw [he] <;> rfl, hb0⟩
  go_upto_region 3 with (first | (go_at_call 21; (first | (with_reducible refine (cs.out _).mono ?_) | (with_reducible refine (ck.out _).mono ?_)); rintro e w3 ⟨rfl, rfl⟩) | (go_at_call 84; (with_reducible refine (cn.out _).mono ?_); rintro e w3 ⟨rfl, rfl⟩))
  clear cs ck cn
  go_wp2
  refine wp_loop_rounds 5 ?_
  rw [rounds_succ]
  cases ba
  · go_wp2_with (go_at_call 84; (first | (with_reducible refine (ca.out _).mono ?_) | (with_reducible refine (cb.out _).mono ?_) | (with_reducible refine (cc.out _).mono ?_) | (with_reducible refine (cd.out _).mono ?_)); rintro e w3 ⟨rfl, rfl⟩)
    go_ret
    exact ⟨by rw [he] <;> rfl, hb0⟩
  go_wp2_with (go_at_call 84; (first | (with_reducible refine (ca.out _).mono ?_) | (with_reducible refine (cb.out _).mono ?_) | (with_reducible refine (cc.out _).mono ?_) | (with_reducible refine (cd.out _).mono ?_)); rintro e w3 ⟨rfl, rfl⟩)
  rw [rounds_succ]
  cases bb
  · go_wp2_with (go_at_call 84; (first | (with_reducible refine (ca.out _).mono ?_) | (with_reducible refine (cb.out _).mono ?_) | (with_reducible refine (cc.out _).mono ?_) | (with_reducible refine (cd.out _).mono ?_)); rintro e w3 ⟨rfl, rfl⟩)
    go_ret
    exact ⟨by rw [he] <;> rfl, hb0⟩
  go_wp2_with (go_at_call 84; (first | (with_reducible refine (ca.out _).mono ?_) | (with_reducible refine (cb.out _).mono ?_) | (with_reducible refine (cc.out _).mono ?_) | (with_reducible refine (cd.out _).mono ?_)); rintro e w3 ⟨rfl, rfl⟩)
  rw [rounds_succ]
  cases bc
  · go_wp2_with (go_at_call 84; (first | (with_reducible refine (ca.out _).mono ?_) | (with_reducible refine (cb.out _).mono ?_) | (with_reducible refine (cc.out _).mono ?_) | (with_reducible refine (cd.out _).mono ?_)); rintro e w3 ⟨rfl, rfl⟩)
    go_ret
    exact ⟨by rw [he] <;> rfl, hb0⟩
  go_wp2_with (go_at_call 84; (first | (with_reducible refine (ca.out _).mono ?_) | (with_reducible refine (cb.out _).mono ?_) | (with_reducible refine (cc.out _).mono ?_) | (with_reducible refine (cd.out _).mono ?_)); rintro e w3 ⟨rfl, rfl⟩)
  rw [rounds_succ]
  cases bd
  · go_wp2_with (go_at_call 84; (first | (with_reducible refine (ca.out _).mono ?_) | (with_reducible refine (cb.out _).mono ?_) | (with_reducible refine (cc.out _).mono ?_) | (with_reducible refine (cd.out _).mono ?_)); rintro e w3 ⟨rfl, rfl⟩)
    go_ret
    exact ⟨by rw [he] <;> rfl, hb0⟩
  go_wp2_with (go_at_call 84; (first | (with_reducible refine (ca.out _).mono ?_) | (with_reducible refine (cb.out _).mono ?_) | (with_reducible refine (cc.out _).mono ?_) | (with_reducible refine (cd.out _).mono ?_)); rintro e w3 ⟨rfl, rfl⟩)
  rw [rounds_succ]
  go_wp2
  go_ret
  exact ⟨by rw [he] <;> rfl, hb0⟩
theorem bytesE_drop {l : List Int} {k : Nat} {x : Int} (hx : l[k]? = some x) : bytesE (l.drop k) = if byteB x then bytesE (l.drop (k + 1)) else 2 := by
  have hk := (List.getElem?_eq_some_iff.1 hx).1
  rw [List.drop_eq_getElem_cons hk, (List.getElem?_eq_some_iff.1 hx).2, bytesE_cons]
set_option maxHeartbeats 4000000 in
theorem r_BytesErr (l : List Int) (A : Option Addr) (c : Nat) (w : World) (hl : l.length ≤ 1000) (hr : Sl cI 1 w A l) : Calls Tryd.prog 29 #[.slice A l.length c] w (Ret (.int .i64 (remE l)) w) := by
  have Hr := Lib.hid hr
  clear hr
  have h1 : Hid (¬ (l.length : Int) ≤ 60 → remE l = 8) := fun h => by simp [remE, fstE, unl, h]
  have h2 : Hid ((l.length : Int) ≤ 60 → remE l = bytesE l) := fun h => by
    simp [remE, fstE, unl, h]
    intro h0
    exact h0.symm
  have hd := Lib.hid fun k x (hx : l[k]? = some x) => bytesE_drop hx
  have he : Hid (bytesE (l.drop l.length) = 0) := Lib.hid (by rw [List.drop_length]; rfl)
  obtain ⟨n, Hn⟩ : ∃ n, Hid (l.length = n) := ⟨_, rfl⟩
  rw [Hn.out] at hl h1 h2 he ⊢
  by_cases h60 : (n : Int) ≤ 60
  rotate_left
  · rw [h1.out h60]
    have h60' : (60 : Int) < n := by omega
    go_enter Tryd.func29, Tryd.ntmps29
    go_wp2
    go_ret
    exact ⟨rfl, by (with_reducible (repeat' (first | assumption | apply jA | apply jB | apply jC | apply jD | apply jE | apply jF | apply hb3 | omega | (simp; done) | (simp; omega) | (dsimp only; omega))))⟩
  rw [h2.out h60]
  have h60' : ¬ (60 : Int) < n := by omega
  clear h1 h2
  obtain ⟨g, hg⟩ : ∃ g : Nat → Int, ∀ k, bytesE (l.drop k) = g k := ⟨_, fun _ => rfl⟩
  have hg0 : bytesE l = g 0 := hg 0
  rw [hg0]
  simp only [hg] at hd he
  clear hg hg0
  go_enter Tryd.func29, Tryd.ntmps29
  go_wp2
  go_loop [3] (fun i => ∃ k : Nat, k ≤ n ∧ i = .int .i64 k ∧ g 0 = g k) (fun i => n - (intOf i).toNat)
  case atStart => exact ⟨0, Nat.zero_le _, rfl, rfl⟩
  case round =>
    obtain ⟨k, hk, rfl, hi⟩ := hrel
    replace hi := Lib.hid hi
    by_cases hlt : k < n
    · have hx : l[k]? = some (l[k]'(by rw [Hn.out]; exact hlt)) := List.getElem?_eq_getElem _
      generalize l[k]'(by rw [Hn.out]; exact hlt) = x at hx
      have hs := Lib.hid (hd.out k x hx)
      obtain ⟨b, off, rfl, hc⟩ := Hr.out k x hx
      have c0 : w.cell? ⟨b, off + k, none⟩ = some (.int .i64 x) := by simpa using hc 0 _ rfl
      clear hc hx
      cases hT : byteB x
      · rw [hT] at hs
        go_wp2_with (go_at_call 84; (with_reducible refine (hT ▸ r_IsByte x _).mono ?_); rintro e w3 ⟨rfl, rfl⟩)
        go_ret
        exact ⟨by rw [hi.out, hs.out] <;> rfl, by (with_reducible (repeat' (first | assumption | apply jA | apply jB | apply jC | apply jD | apply jE | apply jF | apply hb3 | omega | (simp; done) | (simp; omega) | (dsimp only; omega))))⟩
      · rw [hT] at hs
        go_wp2_with (go_at_call 84; (with_reducible refine (hT ▸ r_IsByte x _).mono ?_); rintro e w3 ⟨rfl, rfl⟩)
        go_round
        case rel => exact ⟨k + 1, by omega, by go_num, by rw [hi.out, hs.out] <;> rfl⟩
        case measure => simp [intOf]; omega
    · have e : k = n := by omega
      go_wp2
      go_ret
      exact ⟨by rw [hi.out, e, he.out] <;> rfl, by (with_reducible (repeat' (first | assumption | apply jA | apply jB | apply jC | apply jD | apply jE | apply jF | apply hb3 | omega | (simp; done) | (simp; omega) | (dsimp only; omega))))⟩
theorem crc_hi2 {s : Nat} (hs : s < 256) (h : 256 ≤ 2 * s) : bits .xor .i64 (2 * (s : Int)) 263 = ((crc1 s : Nat) : Int) := by
  rw [Int.mul_comm]
  exact crc_hi hs h
theorem crc_lo2 {s : Nat} (h : ¬ 256 ≤ 2 * s) : 2 * (s : Int) = ((crc1 s : Nat) : Int) := by
  rw [Int.mul_comm]
  exact crc_lo h
set_option maxHeartbeats 2000000 in
theorem r_Remainder (l : List Int) (A : Option Addr) (c : Nat) (w : World) (hl : l.length ≤ 1000000) (hb : ∀ n ∈ l, 0 ≤ n ∧ n ≤ 255) (hr : Sl cI 1 w A l) : Calls Tryd.prog 30 #[.slice A l.length c] w (Same (.int .i64 (remI l : Nat)) w) := by
  have Hr := Lib.hid hr
  clear hr
  have hlast : Hid (remN ((l.map Int.toNat).take l.length) 0 = remI l) := by rw [List.take_of_length_le (by simp)]; exact Lib.hid rfl
  have hstep : Hid (∀ k x, l[k]? = some x → remN ((l.map Int.toNat).take (k + 1)) 0 = crcK 8 (remN ((l.map Int.toNat).take k) 0 ^^^ x.toNat)) := fun k x hx => by
    rw [List.take_add_one, List.getElem?_map, hx]
    exact remN_snoc _ _ _
  have hlt : Hid (∀ k, remN ((l.map Int.toNat).take k) 0 < 256) := fun k => remN_lt _ (by decide) fun n hn => by
    obtain ⟨m, hm, rfl⟩ := List.mem_map.1 (List.mem_of_mem_take hn)
    have := hb m hm
    omega
  have hbd := Lib.hid fun k x (hx : l[k]? = some x) => hb x (List.mem_of_getElem? hx)
  have h0 : Hid (remN ((l.map Int.toNat).take 0) 0 = 0) := rfl
  generalize (fun k => remN ((l.map Int.toNat).take k) 0) = R at *
  obtain ⟨R, hR⟩ : ∃ R : Nat → Nat, ∀ k, remN ((l.map Int.toNat).take k) 0 = R k := ⟨_, fun _ => rfl⟩
  simp only [hR] at hlast hstep hlt h0
  clear hR hb
  obtain ⟨n, Hn⟩ : ∃ n, Hid (l.length = n) := ⟨_, rfl⟩
  rw [Hn.out] at hl hlast ⊢
  go_enter Tryd.func30, Tryd.ntmps30
  go_wp2
  go_loop [3, 4] (fun r i => ∃ k : Nat, k ≤ n ∧ i = .int .i64 k ∧ r = .int .i64 (R k : Nat)) (fun _ i => n - (intOf i).toNat)
  case atStart => exact ⟨0, Nat.zero_le _, rfl, by rw [h0.out]; rfl⟩
  case round =>
    obtain ⟨k, hk, rfl, rfl⟩ := hrel
    by_cases hltn : k < n
    · have hx : l[k]? = some (l[k]'(by rw [Hn.out]; exact hltn)) := List.getElem?_eq_getElem _
      generalize l[k]'(by rw [Hn.out]; exact hltn) = x at hx
      obtain ⟨b, off, rfl, hc⟩ := Hr.out k x hx
      have c0 : w.cell? ⟨b, off + k, none⟩ = some (.int .i64 x) := by simpa using hc 0 _ rfl
      clear hc
      have hbx := hbd.out k x hx
      obtain ⟨m, rfl⟩ : ∃ m : Nat, x = m := ⟨x.toNat, by omega⟩
      have hRk := hlt.out k
      have hxor := i64_xor (R k) m (by omega) (by omega)
      have hs := hstep.out k m hx
      have hb8 := xor_byte hRk (show m < 256 by omega)
      rw [Int.toNat_natCast] at hs
      replace hs := Lib.hid hs
      generalize hy : R k ^^^ m = y at *
      replace hxor := Lib.hid hxor
      clear hy hx
      go_wp2_with (simp only [hxor.out])
      go_loop [3, 5] (fun r i => ∃ j : Nat, j ≤ 8 ∧ i = .int .i64 j ∧ r = .int .i64 (crcK j y : Nat)) (fun _ i => 8 - (intOf i).toNat)
      case atStart => exact ⟨0, by omega, rfl, rfl⟩
      case round =>
        obtain ⟨j, hj, rfl, rfl⟩ := hrel
        by_cases hj8 : j < 8
        · have hs1 := crcK_lt j hb8
          have hsc := Lib.hid (crcK_succ j y)
          generalize hg : crcK j y = s at *
          replace hg := Lib.hid hg
          by_cases h2 : 256 ≤ 2 * s
          · have e := Lib.hid (crc_hi2 hs1 h2)
            go_wp2_with (simp only [e.out])
            go_round
            case rel => exact ⟨j + 1, by omega, by go_num, by rw [hsc.out]⟩
            case measure => simp [intOf]; omega
          · have e := Lib.hid (crc_lo2 h2)
            go_wp2
            go_round
            case rel => exact ⟨j + 1, by omega, by go_num, by rw [hsc.out, ← e.out]⟩
            case measure => simp [intOf]; omega
        · have : j = 8 := by omega
          subst this
          go_wp2
          go_round
          case rel => exact ⟨k + 1, by omega, by go_num, by rw [hs.out]⟩
          case measure => simp [intOf]; omega
    · go_wp2
      go_ret
      have : k = n := by omega
      exact ⟨by rw [this, hlast.out] <;> rfl, rfl⟩
end Go.Proofs.YtdlmkblmljhbfaaDoor
namespace Go.Proofs.YtdlmkblmljhbfaaDoor
set_option linter.unusedSimpArgs false
set_option linter.unusedVariables false
open Go.RowKit Go.Shelf
attribute [local go_sem] bl_al bl_drew bl_drewN bl_refl bx_al bx_drew bx_drewN bx_refl
set_option maxRecDepth 20000
set_option maxHeartbeats 8000000 in
theorem r_Frame (m : Ms) (w : World) (hm : msE m = 0) : Calls Tryd.prog 27 #[vMs m] w (Ret (vFr (frameOf m)) w) := by
  have hb := Lib.hid (ms_ok hm)
  have hfr : Hid (frameOf m = ⟨m.src, m.num, m.kind, m.d0, m.d1, m.d2, m.d3, remI [m.src, m.num, m.kind, m.d0, m.d1, m.d2, m.d3]⟩) := rfl
  clear hm
  obtain ⟨s, n, kd, a, b, c, d⟩ := m
  dsimp only at hb hfr
  go_enter Tryd.func27, Tryd.ntmps27
  go_upto_region 1 with fail
  first
  | apply absB2 (w0 := w) (g0 := w.heap.size) (g1 := w.heap.size + 1)
  | apply absTB2 (w0 := w) (g0 := w.heap.size) (g1 := w.heap.size + 1)
  | apply absIB2 (w0 := w) (g0 := w.heap.size) (g1 := w.heap.size + 1)
  iterate 3 (focus ((with_reducible (repeat' (first | assumption | apply jA | apply jB | apply jC | apply jD | apply jE | apply jF | apply hb3 | apply jG | apply jH | apply jI | apply jJ | apply jK | apply hb3x | (apply jL; first | (simp; done) | rfl) | apply jM | apply jN | apply jO | apply jP | apply jQ | apply jR | apply jS | apply jT (hb := hb3 _ (jA _)) | omega | (simp; done) | (simp; omega) | (dsimp only; omega)))); done))
  intro wa hb0' k0' k1'
  (try simp only [List.setIfInBounds_toArray, List.set_cons_zero, List.set_cons_succ] at k0' k1')
  try clear hb3
  try clear hb0
  try clear k0
  try clear k1
  have hb0 := hb0'; clear hb0'
  have k0 := k0'; clear k0'
  have k1 := k1'; clear k1'
  have L0 := k0.cell
  have hq1 := k1.lt
  go_upto_region 2 with fail
  first
  | apply absB3 (w0 := w) (g0 := w.heap.size) (g1 := w.heap.size + 1) (g2 := wa.heap.size)
  | apply absTB3 (w0 := w) (g0 := w.heap.size) (g1 := w.heap.size + 1) (g2 := wa.heap.size)
  | apply absIB3 (w0 := w) (g0 := w.heap.size) (g1 := w.heap.size + 1) (g2 := wa.heap.size)
  iterate 4 (focus ((with_reducible (repeat' (first | assumption | apply jA | apply jB | apply jC | apply jD | apply jE | apply jF | apply hb3 | apply jG | apply jH | apply jI | apply jJ | apply jK | apply hb3x | (apply jL; first | (simp; done) | rfl) | apply jM | apply jN | apply jO | apply jP | apply jQ | apply jR | apply jS | apply jT (hb := hb3 _ (jA _)) | omega | (simp; done) | (simp; omega) | (dsimp only; omega)))); done))
  intro wb hb0' k0' k1' k2'
  (try simp only [List.setIfInBounds_toArray, List.set_cons_zero, List.set_cons_succ] at k0' k1' k2')
  try clear hb3
  try clear hb0
  try clear k0
  try clear k1
  try clear k2
  have hb0 := hb0'; clear hb0'
  have k0 := k0'; clear k0'
  have k1 := k1'; clear k1'
  have k2 := k2'; clear k2'
  clear L0
  go_wp2
  refine wp_loop_rounds 5 ?_
  rw [rounds_succ]
  have L0 := k0.cell
  have F2 := k2.frozen
  have L2 := k2.cell
  go_wp2
  first
  | apply absRB3 (w0 := w) (g0 := w.heap.size) (g1 := w.heap.size + 1) (g2 := wa.heap.size)
  | apply absJB3 (w0 := w) (g0 := w.heap.size) (g1 := w.heap.size + 1) (g2 := wa.heap.size)
  iterate 4 (focus ((with_reducible (repeat' (first | assumption | apply jA | apply jB | apply jC | apply jD | apply jE | apply jF | apply hb3 | apply jG | apply jH | apply jI | apply jJ | apply jK | apply hb3x | (apply jL; first | (simp; done) | rfl) | apply jM | apply jN | apply jO | apply jP | apply jQ | apply jR | apply jS | apply jT (hb := hb3 _ (jA _)) | omega | (simp; done) | (simp; omega) | (dsimp only; omega)))); done))
  intro wc hb0' k0' k1' k2'
  (try simp only [List.setIfInBounds_toArray, List.set_cons_zero, List.set_cons_succ] at k0' k1' k2')
  try clear hb3
  try clear hb0
  try clear k0
  try clear k1
  try clear k2
  have hb0 := hb0'; clear hb0'
  have k0 := k0'; clear k0'
  have k1 := k1'; clear k1'
  have k2 := k2'; clear k2'
  rw [rounds_succ]
  clear L0 F2 L2
  have L0 := k0.cell
  have F2 := k2.frozen
  have L2 := k2.cell
  go_wp2
  first
  | apply absRB3 (w0 := w) (g0 := w.heap.size) (g1 := w.heap.size + 1) (g2 := wa.heap.size)
  | apply absJB3 (w0 := w) (g0 := w.heap.size) (g1 := w.heap.size + 1) (g2 := wa.heap.size)
  iterate 4 (focus ((with_reducible (repeat' (first | assumption | apply jA | apply jB | apply jC | apply jD | apply jE | apply jF | apply hb3 | apply jG | apply jH | apply jI | apply jJ | apply jK | apply hb3x | (apply jL; first | (simp; done) | rfl) | apply jM | apply jN | apply jO | apply jP | apply jQ | apply jR | apply jS | apply jT (hb := hb3 _ (jA _)) | omega | (simp; done) | (simp; omega) | (dsimp only; omega)))); done))
  intro wd hb0' k0' k1' k2'
  (try simp only [List.setIfInBounds_toArray, List.set_cons_zero, List.set_cons_succ] at k0' k1' k2')
  try clear hb3
  try clear hb0
  try clear k0
  try clear k1
  try clear k2
  have hb0 := hb0'; clear hb0'
  have k0 := k0'; clear k0'
  have k1 := k1'; clear k1'
  have k2 := k2'; clear k2'
  rw [rounds_succ]
  clear L0 F2 L2
  have L0 := k0.cell
  have F2 := k2.frozen
  have L2 := k2.cell
  go_wp2
  first
  | apply absRB3 (w0 := w) (g0 := w.heap.size) (g1 := w.heap.size + 1) (g2 := wa.heap.size)
  | apply absJB3 (w0 := w) (g0 := w.heap.size) (g1 := w.heap.size + 1) (g2 := wa.heap.size)
  iterate 4 (focus ((with_reducible (repeat' (first | assumption | apply jA | apply jB | apply jC | apply jD | apply jE | apply jF | apply hb3 | apply jG | apply jH | apply jI | apply jJ | apply jK | apply hb3x | (apply jL; first | (simp; done) | rfl) | apply jM | apply jN | apply jO | apply jP | apply jQ | apply jR | apply jS | apply jT (hb := hb3 _ (jA _)) | omega | (simp; done) | (simp; omega) | (dsimp only; omega)))); done))
  intro we hb0' k0' k1' k2'
  (try simp only [List.setIfInBounds_toArray, List.set_cons_zero, List.set_cons_succ] at k0' k1' k2')
  try clear hb3
  try clear hb0
  try clear k0
  try clear k1
  try clear k2
  have hb0 := hb0'; clear hb0'
  have k0 := k0'; clear k0'
  have k1 := k1'; clear k1'
  have k2 := k2'; clear k2'
  rw [rounds_succ]
  clear L0 F2 L2
  have L0 := k0.cell
  have F2 := k2.frozen
  have L2 := k2.cell
  go_wp2
  first
  | apply absRB3 (w0 := w) (g0 := w.heap.size) (g1 := w.heap.size + 1) (g2 := wa.heap.size)
  | apply absJB3 (w0 := w) (g0 := w.heap.size) (g1 := w.heap.size + 1) (g2 := wa.heap.size)
  iterate 4 (focus ((with_reducible (repeat' (first | assumption | apply jA | apply jB | apply jC | apply jD | apply jE | apply jF | apply hb3 | apply jG | apply jH | apply jI | apply jJ | apply jK | apply hb3x | (apply jL; first | (simp; done) | rfl) | apply jM | apply jN | apply jO | apply jP | apply jQ | apply jR | apply jS | apply jT (hb := hb3 _ (jA _)) | omega | (simp; done) | (simp; omega) | (dsimp only; omega)))); done))
  intro wf hb0' k0' k1' k2'
  (try simp only [List.setIfInBounds_toArray, List.set_cons_zero, List.set_cons_succ] at k0' k1' k2')
  try clear hb3
  try clear hb0
  try clear k0
  try clear k1
  try clear k2
  have hb0 := hb0'; clear hb0'
  have k0 := k0'; clear k0'
  have k1 := k1'; clear k1'
  have k2 := k2'; clear k2'
  rw [rounds_succ]
  clear L0 F2 L2
  have hq2 := hb0.size
  have F2 := k2.frozen
  have L2 := k2.cell
  have hrm : Hid (Calls Tryd.prog 30 #[.slice (some ⟨wa.heap.size, 0, none⟩) 7 8] wf (Same (.int .i64 (remI [s, n, kd, a, b, c, d] : Nat)) wf)) :=
    r_Remainder [s, n, kd, a, b, c, d] (some ⟨wa.heap.size, 0, none⟩) 8 wf (by simp) hb.out (k2.sub (l := [s, n, kd, a, b, c, d]) (fun k x hx => by match k, hx with | 0, hx | 1, hx | 2, hx | 3, hx | 4, hx | 5, hx | 6, hx => simpa using hx))
  go_upto_region 7 with (go_at_call 30; (with_reducible refine hrm.out.mono ?_); rintro e w4 ⟨rfl, rfl⟩)
  first
  | apply absB3 (w0 := w) (g0 := w.heap.size) (g1 := w.heap.size + 1) (g2 := wa.heap.size)
  | apply absTB3 (w0 := w) (g0 := w.heap.size) (g1 := w.heap.size + 1) (g2 := wa.heap.size)
  | apply absIB3 (w0 := w) (g0 := w.heap.size) (g1 := w.heap.size + 1) (g2 := wa.heap.size)
  iterate 4 (focus ((with_reducible (repeat' (first | assumption | apply jA | apply jB | apply jC | apply jD | apply jE | apply jF | apply hb3 | apply jG | apply jH | apply jI | apply jJ | apply jK | apply hb3x | (apply jL; first | (simp; done) | rfl) | apply jM | apply jN | apply jO | apply jP | apply jQ | apply jR | apply jS | apply jT (hb := hb3 _ (jA _)) | omega | (simp; done) | (simp; omega) | (dsimp only; omega)))); done))
  intro wg hb0' k0' k1' k2'
  (try simp only [List.setIfInBounds_toArray, List.set_cons_zero, List.set_cons_succ] at k0' k1' k2')
  try clear hb3
  try clear hb0
  try clear k0
  try clear k1
  try clear k2
  have hb0 := hb0'; clear hb0'
  have k0 := k0'; clear k0'
  have k1 := k1'; clear k1'
  have k2 := k2'; clear k2'
  clear F2 L2
  have L2 := k2.cell
  have L1 := k1.cell
  have F1 := k1.frozen
  go_wp2
  first
  | apply absPB3 (w0 := w) (g0 := w.heap.size) (g1 := w.heap.size + 1) (g2 := wa.heap.size)
  | apply absPMB3 (w0 := w) (g0 := w.heap.size) (g1 := w.heap.size + 1) (g2 := wa.heap.size)
  iterate 4 (focus ((with_reducible (repeat' (first | assumption | apply jA | apply jB | apply jC | apply jD | apply jE | apply jF | apply hb3 | apply jG | apply jH | apply jI | apply jJ | apply jK | apply hb3x | (apply jL; first | (simp; done) | rfl) | apply jM | apply jN | apply jO | apply jP | apply jQ | apply jR | apply jS | apply jT (hb := hb3 _ (jA _)) | omega | (simp; done) | (simp; omega) | (dsimp only; omega)))); done))
  intro wz hb0' k0' k1' k2'
  (try simp only [List.setIfInBounds_toArray, List.set_cons_zero, List.set_cons_succ] at k0' k1' k2')
  try clear hb3
  try clear hb0
  try clear k0
  try clear k1
  try clear k2
  have hb0 := hb0'; clear hb0'
  have k0 := k0'; clear k0'
  have k1 := k1'; clear k1'
  have k2 := k2'; clear k2'
  have hr := k1.cell
  exact bodyPost_ret (v := vFr ⟨s, n, kd, a, b, c, d, remI [s, n, kd, a, b, c, d]⟩) (by simp [results, Tryd.results27, go_sem, hr]) rfl ⟨by rw [hfr.out] <;> rfl, hb0⟩
set_option maxHeartbeats 8000000 in
theorem r_Message (f : Fr) (w : World) : Calls Tryd.prog 28 #[vFr f] w (Ret (.tuple #[vMs (decS f).1, .int .i64 (decS f).2]) w) := by
  have hb1 := Lib.hid fun h => decS_bytes (f := f) h
  have hb2 := Lib.hid fun h h2 => decS_bad (f := f) h h2
  have hb3' := Lib.hid fun h h2 => decS_ok (f := f) h h2
  have hhd := Lib.hid fun h => head_bd (f := f) h
  have hd := Lib.hid fun k x (hx : f.l[k]? = some x) => bytesE_drop hx
  have he : Hid (bytesE (f.l.drop 8) = 0) := Lib.hid rfl
  obtain ⟨a0, a1, a2, a3, a4, a5, a6, a7⟩ := f
  dsimp only [Fr.l, Fr.head, Fr.ms] at hb1 hb2 hb3' hhd hd he
  obtain ⟨l, Hl⟩ : ∃ l, Hid ([a0, a1, a2, a3, a4, a5, a6, a7] = l) := ⟨_, rfl⟩
  rw [Hl.out] at hb1 hb2 hb3' hhd hd he
  obtain ⟨g, hg⟩ : ∃ g : Nat → Int, ∀ k, bytesE (l.drop k) = g k := ⟨_, fun _ => rfl⟩
  have hg0 : bytesE l = g 0 := hg 0
  rw [hg0] at hb1 hb2 hb3' hhd
  simp only [hg] at hd he
  clear hg hg0
  go_enter Tryd.func28, Tryd.ntmps28
  go_upto_region 2 with fail
  first
  | apply absB2 (w0 := w) (g0 := w.heap.size) (g1 := w.heap.size + 1)
  | apply absTB2 (w0 := w) (g0 := w.heap.size) (g1 := w.heap.size + 1)
  | apply absIB2 (w0 := w) (g0 := w.heap.size) (g1 := w.heap.size + 1)
  iterate 3 (focus ((with_reducible (repeat' (first | assumption | apply jA | apply jB | apply jC | apply jD | apply jE | apply jF | apply hb3 | apply jG | apply jH | apply jI | apply jJ | apply jK | apply hb3x | (apply jL; first | (simp; done) | rfl) | apply jM | apply jN | apply jO | apply jP | apply jQ | apply jR | apply jS | apply jT (hb := hb3 _ (jA _)) | omega | (simp; done) | (simp; omega) | (dsimp only; omega)))); done))
  intro wa hb0' k0' k1'
  (try simp only [List.setIfInBounds_toArray, List.set_cons_zero, List.set_cons_succ] at k0' k1')
  try clear hb3
  try clear hb0
  try clear k0
  try clear k1
  have hb0 := hb0'; clear hb0'
  have k0 := k0'; clear k0'
  have k1 := k1'; clear k1'
  have hlen : Hid (l.length = 8) := Lib.hid (by rw [← Hl.out]; rfl)
  have hS : Hid (Sl cI 1 wa (some ⟨w.heap.size, 0, none⟩) l) := Lib.hid (by
    rw [← Hl.out]
    exact k0.sub (l := [a0, a1, a2, a3, a4, a5, a6, a7]) (fun k x hx => by match k, hx with | 0, hx | 1, hx | 2, hx | 3, hx | 4, hx | 5, hx | 6, hx | 7, hx => simpa using hx))
  go_loop [4] (fun i => ∃ k : Nat, k ≤ 8 ∧ i = .int .i64 k ∧ g 0 = g k) (fun i => 8 - (intOf i).toNat)
  case atStart => exact ⟨0, Nat.zero_le _, rfl, rfl⟩
  case round =>
    obtain ⟨k, hk, rfl, hi⟩ := hrel
    replace hi := Lib.hid hi
    by_cases hlt : k < 8
    · have hx : l[k]? = some (l[k]'(by rw [hlen.out]; exact hlt)) := List.getElem?_eq_getElem _
      generalize l[k]'(by rw [hlen.out]; exact hlt) = x at hx
      have hs := Lib.hid (hd.out k x hx)
      have c0 : wa.cell? ⟨w.heap.size, k, none⟩ = some (.int .i64 x) := by
        obtain ⟨b, off, e, hc⟩ := hS.out k x hx
        injection e with e
        injection e with e1 e2 _
        subst e1 e2
        simpa using hc 0 _ rfl
      clear hx
      cases hT : byteB x
      · rw [hT] at hs
        have L1 := k1.cell
        have F1 := k1.frozen
        have hg0 : Hid (g 0 = 2) := Lib.hid (by rw [hi.out, hs.out]; rfl)
        have hres := Lib.hid (hb1.out (by rw [hg0.out]; decide))
        rw [hg0.out] at hres
        clear hb1 hb2 hb3' hhd hs hi
        go_wp2_with (go_at_call 84; (with_reducible refine (hT ▸ r_IsByte x _).mono ?_); rintro e w3 ⟨rfl, rfl⟩)
        first
        | apply absPB2 (w0 := w) (g0 := w.heap.size) (g1 := w.heap.size + 1)
        | apply absPMB2 (w0 := w) (g0 := w.heap.size) (g1 := w.heap.size + 1)
        iterate 3 (focus ((with_reducible (repeat' (first | assumption | apply jA | apply jB | apply jC | apply jD | apply jE | apply jF | apply hb3 | apply jG | apply jH | apply jI | apply jJ | apply jK | apply hb3x | (apply jL; first | (simp; done) | rfl) | apply jM | apply jN | apply jO | apply jP | apply jQ | apply jR | apply jS | apply jT (hb := hb3 _ (jA _)) | omega | (simp; done) | (simp; omega) | (dsimp only; omega)))); done))
        intro wz hb0' k0' k1'
        (try simp only [List.setIfInBounds_toArray, List.set_cons_zero, List.set_cons_succ] at k0' k1')
        try clear hb3
        try clear hb0
        try clear k0
        try clear k1
        have hb0 := hb0'; clear hb0'
        have k0 := k0'; clear k0'
        have k1 := k1'; clear k1'
        have hr := k1.cell
        exact bodyPost_ret (v := .tuple #[vMs ms0, .int .i64 2]) (by simp [results, Tryd.results28, go_sem, hr, ms0]) rfl ⟨by rw [hres.out] <;> rfl, hb0⟩
      · rw [hT] at hs
        go_wp2_with (go_at_call 84; (with_reducible refine (hT ▸ r_IsByte x _).mono ?_); rintro e w3 ⟨rfl, rfl⟩)
        go_round
        case rel => exact ⟨k + 1, by omega, by go_num, by rw [hi.out, hs.out] <;> rfl⟩
        case measure => simp [intOf]; omega
    · obtain rfl : k = 8 := by omega
      have hg0 : g 0 = 0 := by rw [hi.out, he.out]
      replace hb2 := Lib.hid (hb2.out hg0)
      replace hb3' := Lib.hid (hb3'.out hg0)
      replace hhd := Lib.hid (hhd.out hg0)
      clear hb1 hi hd he hlen
      replace hg0 := Lib.hid hg0
      go_upto_region 6 with fail
      have Lk0 := k0.later
      have Fk0 := k0.laterF
      have Qk0 := k0.lt
      have Lk1 := k1.later
      have Fk1 := k1.laterF
      have Qk1 := k1.lt
      have hrm : Hid (∀ W : World, Below wa.heap.size wa W → Calls Tryd.prog 30 #[.slice (some ⟨w.heap.size, 0, none⟩) 7 8] W (Same (.int .i64 (remI [a0, a1, a2, a3, a4, a5, a6] : Nat)) W)) := fun W hb =>
        r_Remainder [a0, a1, a2, a3, a4, a5, a6] (some ⟨w.heap.size, 0, none⟩) 8 W (by simp) hhd.out ((k0.sub (l := [a0, a1, a2, a3, a4, a5, a6]) (fun k x hx => by match k, hx with | 0, hx | 1, hx | 2, hx | 3, hx | 4, hx | 5, hx | 6, hx => simpa using hx)).below hb)
      refine wp_any (w0 := wa) ⟨[], [], [some 17, some 18, some 19, some 20, some 21], [[], [0], [], [2], [0, 1, 2, 3]], [[], [0], [], [2], [1, 3]]⟩ (fun _ => []) (by kernel_rfl) (by kernel_rfl) (by (with_reducible (repeat' (first | assumption | apply jA | apply jB | apply jC | apply jD | apply jE | apply jF | apply hb3 | omega | (simp; done) | (simp; omega) | (dsimp only; omega))))) (fun u => by simp only [putD, Act.put, List.setIfInBounds_toArray, List.set_cons_zero, List.set_cons_succ, Nat.zero_add, Nat.reduceAdd]; rfl) ?_
      apply RGW.on (i := 0) rfl
      · (simp only [gA, gB, gC] <;> rfl)
      · intro γ u W hcur hd
        clear hd
        (try dsimp only)
        refine ⟨rfl, ?_⟩
        go_simp <;> (try go_bits) <;> with_reducible rfl
      · exact fun _ _ _ => rfl
      · rfl
      dsimp only [nA, cA]
      apply RGW.on (i := 1) rfl
      · (simp only [gA, gB, gC] <;> rfl)
      · intro γ u W hcur hd
        obtain ⟨⟨h0, -, -⟩, -⟩ := hd
        dsimp only at h0
        (try simp only [h0])
        refine ⟨rfl, ?_⟩
        go_simp <;> (try go_bits) <;> with_reducible rfl
      · exact fun _ _ _ => rfl
      · rfl
      dsimp only [nA, cA]
      apply RGW.on (i := 2) rfl
      · (simp only [gA, gB, gC] <;> rfl)
      · intro γ u W hcur hd
        clear hd
        (try dsimp only)
        refine ⟨rfl, ?_⟩
        go_simp <;> (try go_bits) <;> with_reducible rfl
      · exact fun _ _ _ => rfl
      · rfl
      dsimp only [nA, cA]
      apply RGW.call (i := 3) rfl
      · (simp only [gA, gB, gC] <;> rfl)
      · intro γ u W hcur hd
        obtain ⟨⟨h2, -, -⟩, -⟩ := hd
        dsimp only at h2
        (try simp only [h2])
        refine ⟨rfl, fun K hK => ?_⟩
        go_simp
        (go_at_call 30; (with_reducible refine (hrm.out _ (by (with_reducible (repeat' (first | assumption | apply jA | apply jB | apply jC | apply jD | apply jE | apply jF | apply hb3 | omega | (simp; done) | (simp; omega) | (dsimp only; omega)))))).mono ?_); rintro e w3 ⟨rfl, rfl⟩)
        (try dsimp only)
        exact hK.out _ _ rfl (by (with_reducible (repeat' (first | assumption | apply jA | apply jB | apply jC | apply jD | apply jE | apply jF | apply hb3 | omega | (simp; done) | (simp; omega) | (dsimp only; omega)))))
      · exact fun _ _ _ => rfl
      · rfl
      dsimp only [nA, cA]
      apply RGW.on (i := 4) rfl
      · (simp only [gA, gB, gC] <;> rfl)
      · intro γ u W hcur hd
        obtain ⟨⟨h1, -, -⟩, ⟨h3, -, -⟩, -⟩ := hd
        dsimp only at h1 h3
        (try simp only [h1, h3])
        refine ⟨rfl, ?_⟩
        go_simp <;> (try go_bits) <;> with_reducible rfl
      · exact fun _ _ _ => rfl
      · rfl
      dsimp only [nA, cA]
      refine RGW.fin (fun γ u we hwe hd hdis => ?_)
      obtain ⟨⟨h0, -, -⟩, ⟨h1, -, -⟩, ⟨h2, -, -⟩, ⟨h3, -, -⟩, ⟨h4, -, -⟩, -⟩ := hd
      dsimp only at h0 h1 h2 h3 h4
      clear hdis
      simp only [h0, h1, h2, h3, h4]
      clear h4 h3 h2 h1 h0
      clear u
      simp only [List.map_nil]
      refine PlanW.done ?_
      have hb3 := bl_tt hwe
      have hbe := hb3 _ hb0
      replace k0 := k0.below hwe
      replace k1 := k1.below hwe
      clear Lk0 Lk1 Fk0 Fk1 Qk0 Qk1 hb0 hb3 hrm hwe hS
      have hb0 := hbe
      clear hbe
      have L0 := k0.cell
      have L1 := k1.cell
      have F1 := k1.frozen
      replace hb2 : Hid (fstE [unl (decide (a7 = ((remI [a0, a1, a2, a3, a4, a5, a6] : Nat) : Int))) 19, msE ⟨a0, a1, a2, a3, a4, a5, a6⟩] ≠ 0 → decS ⟨a0, a1, a2, a3, a4, a5, a6, a7⟩ = (ms0, fstE [unl (decide (a7 = ((remI [a0, a1, a2, a3, a4, a5, a6] : Nat) : Int))) 19, msE ⟨a0, a1, a2, a3, a4, a5, a6⟩])) := hb2
      replace hb3' : Hid (fstE [unl (decide (a7 = ((remI [a0, a1, a2, a3, a4, a5, a6] : Nat) : Int))) 19, msE ⟨a0, a1, a2, a3, a4, a5, a6⟩] = 0 → decS ⟨a0, a1, a2, a3, a4, a5, a6, a7⟩ = (⟨a0, a1, a2, a3, a4, a5, a6⟩, 0)) := hb3'
      by_cases hR : a7 = ((remI [a0, a1, a2, a3, a4, a5, a6] : Nat) : Int)
      rotate_left
      · have hR' : (a7 != ((remI [a0, a1, a2, a3, a4, a5, a6] : Nat) : Int)) = true := by simp [hR]
        have hres := Lib.hid (hb2.out (by simp [fstE, unl, hR]))
        have hv : Hid (fstE [unl (decide (a7 = ((remI [a0, a1, a2, a3, a4, a5, a6] : Nat) : Int))) 19, msE ⟨a0, a1, a2, a3, a4, a5, a6⟩] = 19) := Lib.hid (by simp [fstE, unl, hR])
        rw [hv.out] at hres
        clear hb2 hb3' hv hR
        go_wp2
        first
        | apply absPB2 (w0 := w) (g0 := w.heap.size) (g1 := w.heap.size + 1)
        | apply absPMB2 (w0 := w) (g0 := w.heap.size) (g1 := w.heap.size + 1)
        iterate 3 (focus ((with_reducible (repeat' (first | assumption | apply jA | apply jB | apply jC | apply jD | apply jE | apply jF | apply hb3 | apply jG | apply jH | apply jI | apply jJ | apply jK | apply hb3x | (apply jL; first | (simp; done) | rfl) | apply jM | apply jN | apply jO | apply jP | apply jQ | apply jR | apply jS | apply jT (hb := hb3 _ (jA _)) | omega | (simp; done) | (simp; omega) | (dsimp only; omega)))); done))
        intro wz hb0' k0' k1'
        (try simp only [List.setIfInBounds_toArray, List.set_cons_zero, List.set_cons_succ] at k0' k1')
        try clear hb3
        try clear Lk0
        try clear Fk0
        try clear Qk0
        try clear Lk1
        try clear Fk1
        try clear Qk1
        try clear hb0
        try clear k0
        try clear k1
        have hb0 := hb0'; clear hb0'
        have k0 := k0'; clear k0'
        have k1 := k1'; clear k1'
        have hr := k1.cell
        exact bodyPost_ret (v := .tuple #[vMs ms0, .int .i64 19]) (by simp [results, Tryd.results28, go_sem, hr, ms0]) rfl ⟨by rw [hres.out] <;> rfl, hb0⟩
      have hR' : (a7 != ((remI [a0, a1, a2, a3, a4, a5, a6] : Nat) : Int)) = false := by simp [hR]
      have hv : fstE [unl (decide (a7 = ((remI [a0, a1, a2, a3, a4, a5, a6] : Nat) : Int))) 19, msE ⟨a0, a1, a2, a3, a4, a5, a6⟩] = msE ⟨a0, a1, a2, a3, a4, a5, a6⟩ := by
        simp [fstE, unl, hR]
        intro h
        exact h.symm
      rw [hv] at hb2 hb3'
      clear hv hR
      have hme := Lib.hid fun W : World => r_MessageErr ⟨a0, a1, a2, a3, a4, a5, a6⟩ W
      generalize msE ⟨a0, a1, a2, a3, a4, a5, a6⟩ = E at *
      have hq1 := hb0.size
      have hq2 := k1.lt
      go_upto_region 9 with fail
      first
      | apply absB3 (w0 := w) (g0 := w.heap.size) (g1 := w.heap.size + 1) (g2 := we.heap.size)
      | apply absTB3 (w0 := w) (g0 := w.heap.size) (g1 := w.heap.size + 1) (g2 := we.heap.size)
      | apply absIB3 (w0 := w) (g0 := w.heap.size) (g1 := w.heap.size + 1) (g2 := we.heap.size)
      iterate 4 (focus ((with_reducible (repeat' (first | assumption | apply jA | apply jB | apply jC | apply jD | apply jE | apply jF | apply hb3 | apply jG | apply jH | apply jI | apply jJ | apply jK | apply hb3x | (apply jL; first | (simp; done) | rfl) | apply jM | apply jN | apply jO | apply jP | apply jQ | apply jR | apply jS | apply jT (hb := hb3 _ (jA _)) | omega | (simp; done) | (simp; omega) | (dsimp only; omega)))); done))
      intro wf hb0' k0' k1' k2'
      (try simp only [List.setIfInBounds_toArray, List.set_cons_zero, List.set_cons_succ] at k0' k1' k2')
      try clear hb3
      try clear hb0
      try clear k0
      try clear k1
      try clear k2
      have hb0 := hb0'; clear hb0'
      have k0 := k0'; clear k0'
      have k1 := k1'; clear k1'
      have k2 := k2'; clear k2'
      clear L0 L1 F1
      have L2 := k2.cell
      go_wp2_with fail
      refine (hme.out _).mono ?_
      rintro e wg ⟨rfl, hb4⟩
      replace hb0 := bl_tr hb0 hb4
      replace k1 := k1.below hb4
      replace k2 := k2.below hb4
      clear hb4 L2 hme k0
      have L1 := k1.cell
      have F1 := k1.frozen
      by_cases hE0 : E = 0
      · have hE' : (E != 0) = false := by simp [hE0]
        have hs := Lib.hid (hb3'.out hE0)
        replace hE0 := Lib.hid hE0
        have L2 := k2.cell
        clear hb2 hb3'
        go_wp2
        first
        | apply absPB1 (w0 := w) (g0 := w.heap.size + 1)
        | apply absPMB1 (w0 := w) (g0 := w.heap.size + 1)
        iterate 2 (focus ((with_reducible (repeat' (first | assumption | apply jA | apply jB | apply jC | apply jD | apply jE | apply jF | apply hb3 | apply jG | apply jH | apply jI | apply jJ | apply jK | apply hb3x | (apply jL; first | (simp; done) | rfl) | apply jM | apply jN | apply jO | apply jP | apply jQ | apply jR | apply jS | apply jT (hb := hb3 _ (jA _)) | omega | (simp; done) | (simp; omega) | (dsimp only; omega)))); done))
        intro wz hb0' k1'
        (try simp only [List.setIfInBounds_toArray, List.set_cons_zero, List.set_cons_succ] at k1')
        try clear hb3
        try clear hb0
        try clear k1
        have hb0 := hb0'; clear hb0'
        have k1 := k1'; clear k1'
        have hr := k1.cell
        exact bodyPost_ret (v := .tuple #[vMs ⟨a0, a1, a2, a3, a4, a5, a6⟩, .int .i64 0]) (by simp [results, Tryd.results28, go_sem, hr]) rfl ⟨by rw [hs.out] <;> rfl, hb0⟩
      · have hE' : (E != 0) = true := by simp [hE0]
        have hs := Lib.hid (hb2.out hE0)
        replace hE0 := Lib.hid hE0
        clear hb2 hb3'
        go_wp2
        first
        | apply absPB1 (w0 := w) (g0 := w.heap.size + 1)
        | apply absPMB1 (w0 := w) (g0 := w.heap.size + 1)
        iterate 2 (focus ((with_reducible (repeat' (first | assumption | apply jA | apply jB | apply jC | apply jD | apply jE | apply jF | apply hb3 | apply jG | apply jH | apply jI | apply jJ | apply jK | apply hb3x | (apply jL; first | (simp; done) | rfl) | apply jM | apply jN | apply jO | apply jP | apply jQ | apply jR | apply jS | apply jT (hb := hb3 _ (jA _)) | omega | (simp; done) | (simp; omega) | (dsimp only; omega)))); done))
        intro wz hb0' k1'
        (try simp only [List.setIfInBounds_toArray, List.set_cons_zero, List.set_cons_succ] at k1')
        try clear hb3
        try clear hb0
        try clear k1
        have hb0 := hb0'; clear hb0'
        have k1 := k1'; clear k1'
        have hr := k1.cell
        exact bodyPost_ret (v := .tuple #[vMs ms0, .int .i64 E]) (by simp [results, Tryd.results28, go_sem, hr, ms0]) rfl ⟨by rw [hs.out] <;> rfl, hb0⟩
end Go.Proofs.YtdlmkblmljhbfaaDoor
namespace Go.Proofs.YtdlmkblmljhbfaaDoor
set_option linter.unusedSimpArgs false
set_option linter.unusedVariables false
open Go.RowKit Go.Shelf
set_option maxRecDepth 20000
theorem eqFr_self (f : Fr) (W : World) : (Op.equalIn 10000 40 (vFr f) (vFr f)).run Tryd.prog W = .ok true W := by
  have hs : ∀ W : World, (sizeOf 3).run Tryd.prog W = .ok 1 W := fun W => by kernel_rfl
  have e : ∀ (a : Int) (W : World), (Op.equalIn 9999 3 (.int .i64 a) (.int .i64 a)).run Tryd.prog W = .ok true W := fun a W => by
    rw [show (9999 : Nat) = 9998 + 1 from rfl, run_equalIn_int W 9998 3 .i64 .i64 a a (Tryd.underlying3)]
    simp
  have p0 : ∀ W : World, (part 3 (aFr f) 0).run Tryd.prog W = .ok (.int .i64 f.a0) W := fun W => by kernel_rfl
  have p1 : ∀ W : World, (part 3 (aFr f) 1).run Tryd.prog W = .ok (.int .i64 f.a1) W := fun W => by kernel_rfl
  have p2 : ∀ W : World, (part 3 (aFr f) 2).run Tryd.prog W = .ok (.int .i64 f.a2) W := fun W => by kernel_rfl
  have p3 : ∀ W : World, (part 3 (aFr f) 3).run Tryd.prog W = .ok (.int .i64 f.a3) W := fun W => by kernel_rfl
  have p4 : ∀ W : World, (part 3 (aFr f) 4).run Tryd.prog W = .ok (.int .i64 f.a4) W := fun W => by kernel_rfl
  have p5 : ∀ W : World, (part 3 (aFr f) 5).run Tryd.prog W = .ok (.int .i64 f.a5) W := fun W => by kernel_rfl
  have p6 : ∀ W : World, (part 3 (aFr f) 6).run Tryd.prog W = .ok (.int .i64 f.a6) W := fun W => by kernel_rfl
  have p7 : ∀ W : World, (part 3 (aFr f) 7).run Tryd.prog W = .ok (.int .i64 f.a7) W := fun W => by kernel_rfl
  show (Op.equalIn (9999 + 1) _ _ _).run _ _ = _
  unfold Op.equalIn
  simp only [Sem.run_bind, run_underlying (Tryd.underlying40), Result.andThen_ok, hs]
  simp [List.range', List.forIn_cons, p0, p1, p2, p3, p4, p5, p6, p7, e]
theorem eqMs_self (m : Ms) (W : World) : (Op.equalIn 10000 39 (vMs m) (vMs m)).run Tryd.prog W = .ok true W := by
  have hs : ∀ W : World, (sizeOf 3).run Tryd.prog W = .ok 1 W := fun W => by kernel_rfl
  have e : ∀ (n : Nat) (a : Int) (W : World), (Op.equalIn (n + 1) 3 (.int .i64 a) (.int .i64 a)).run Tryd.prog W = .ok true W := fun n a W => by
    rw [run_equalIn_int W n 3 .i64 .i64 a a (Tryd.underlying3)]
    simp
  have p0 : ∀ W : World, (part 3 #[.int .i64 m.d0, .int .i64 m.d1, .int .i64 m.d2, .int .i64 m.d3] 0).run Tryd.prog W = .ok (.int .i64 m.d0) W := fun W => by kernel_rfl
  have p1 : ∀ W : World, (part 3 #[.int .i64 m.d0, .int .i64 m.d1, .int .i64 m.d2, .int .i64 m.d3] 1).run Tryd.prog W = .ok (.int .i64 m.d1) W := fun W => by kernel_rfl
  have p2 : ∀ W : World, (part 3 #[.int .i64 m.d0, .int .i64 m.d1, .int .i64 m.d2, .int .i64 m.d3] 2).run Tryd.prog W = .ok (.int .i64 m.d2) W := fun W => by kernel_rfl
  have p3 : ∀ W : World, (part 3 #[.int .i64 m.d0, .int .i64 m.d1, .int .i64 m.d2, .int .i64 m.d3] 3).run Tryd.prog W = .ok (.int .i64 m.d3) W := fun W => by kernel_rfl
  have ha : ∀ W : World, (Op.equalIn 9999 37 (.agg #[.int .i64 m.d0, .int .i64 m.d1, .int .i64 m.d2, .int .i64 m.d3]) (.agg #[.int .i64 m.d0, .int .i64 m.d1, .int .i64 m.d2, .int .i64 m.d3])).run Tryd.prog W = .ok true W := fun W => by
    show (Op.equalIn (9998 + 1) _ _ _).run _ _ = _
    unfold Op.equalIn
    simp only [Sem.run_bind, run_underlying (Tryd.underlying37), Result.andThen_ok, hs]
    simp [List.range', List.forIn_cons, p0, p1, p2, p3, e 9997]
  have q0 : ∀ W : World, (part 3 (aMs m) 0).run Tryd.prog W = .ok (.int .i64 m.src) W := fun W => by kernel_rfl
  have q1 : ∀ W : World, (part 3 (aMs m) 1).run Tryd.prog W = .ok (.int .i64 m.num) W := fun W => by kernel_rfl
  have q2 : ∀ W : World, (part 3 (aMs m) 2).run Tryd.prog W = .ok (.int .i64 m.kind) W := fun W => by kernel_rfl
  have q3 : ∀ W : World, (part 37 (aMs m) 3).run Tryd.prog W = .ok (.agg #[.int .i64 m.d0, .int .i64 m.d1, .int .i64 m.d2, .int .i64 m.d3]) W := fun W => by kernel_rfl
  show (Op.equalIn (9999 + 1) _ _ _).run _ _ = _
  rw [run_equalIn_agg W 9999 39 (aMs m) (aMs m) (by kernel_rfl) (by kernel_rfl)]
  have hf : (Tryd.prog.fieldsOf 39).toList.map (fun f => (f.name, f.type, f.offset)) = [("Source", 3, 0), ("Number", 3, 1), ("Kind", 3, 2), ("Data", 37, 3)] := by kernel_rfl
  have key : ∀ fs : List Field, fs.map (fun f => (f.name, f.type, f.offset)) = [("Source", 3, 0), ("Number", 3, 1), ("Kind", 3, 2), ("Data", 37, 3)] → (Op.eqFields 9999 (aMs m) (aMs m) fs).run Tryd.prog W = .ok true W := by
    intro fs h
    have hl : fs.length = 4 := by simpa using congrArg List.length h
    match fs, hl, h with
    | [f0, f1, f2, f3], _, h =>
      simp only [List.map_cons, List.map_nil, List.cons.injEq, Prod.mk.injEq, and_true] at h
      obtain ⟨⟨n0, t0, o0⟩, ⟨n1, t1, o1⟩, ⟨n2, t2, o2⟩, ⟨n3, t3, o3⟩⟩ := h
      simp [Op.eqFields, n0, t0, o0, n1, t1, o1, n2, t2, o2, n3, t3, o3, q0, q1, q2, q3, e 9998, ha]
  exact key _ hf
end Go.Proofs.YtdlmkblmljhbfaaDoor
namespace Go.Proofs.YtdlmkblmljhbfaaDoor
set_option linter.unusedSimpArgs false
set_option linter.unusedVariables false
open Go.RowKit Go.Shelf
attribute [local go_sem] bl_al bl_drew bl_drewN bl_refl bx_al bx_drew bx_drewN bx_refl
set_option maxRecDepth 20000
set_option maxHeartbeats 1000000 in
theorem r_BusFrames (m : Ms) (l : List Int) (f : Fr) (A : Option Addr) (c : Nat) (w : World) (hs : Sl cI 1 w A l) (hT : Tab w) :
    Calls Tryd.prog 4 #[vMs m, .slice A l.length c, vFr f] w (Ret (.bool true) w) := by
  have Hs := Lib.hid fun W (hb : Below w.heap.size w W) => hs.below hb
  have haw := Lib.hid fun W (hb : Below w.heap.size w W) => r_awake W (hT.below hb)
  clear hs hT
  by_cases h62 : (l.length : Int) ≤ 62
  rotate_left
  · have h62' : (62 : Int) < l.length := by omega
    clear h62
    generalize l.length = n at *
    go_enter Tryd.func4, Tryd.ntmps4
    go_upto_region 1 with fail
    first
    | apply absB2 (w0 := w) (g0 := w.heap.size) (g1 := w.heap.size + 1)
    | apply absTB2 (w0 := w) (g0 := w.heap.size) (g1 := w.heap.size + 1)
    | apply absIB2 (w0 := w) (g0 := w.heap.size) (g1 := w.heap.size + 1)
    iterate 3 (focus ((with_reducible (repeat' (first | assumption | apply jA | apply jB | apply jC | apply jD | apply jE | apply jF | apply hb3 | apply jG | apply jH | apply jI | apply jJ | apply jK | apply hb3x | (apply jL; first | (simp; done) | rfl) | apply jM | apply jN | apply jO | apply jP | apply jQ | apply jR | apply jS | apply jT (hb := hb3 _ (jA _)) | omega | (simp; done) | (simp; omega) | (dsimp only; omega)))); done))
    intro wa hb0' k0' k1'
    (try simp only [List.setIfInBounds_toArray, List.set_cons_zero, List.set_cons_succ] at k0' k1')
    try clear hb3
    try clear hb0
    try clear k0
    try clear k1
    have hb0 := hb0'; clear hb0'
    have k0 := k0'; clear k0'
    have k1 := k1'; clear k1'
    go_wp2_with fail
    refine (haw.out wa hb0).mono ?_
    rintro e w1 ⟨rfl, hb1⟩
    replace hb0 := bl_tr hb0 hb1
    go_wp2
    go_ret
    exact ⟨rfl, hb0⟩
  have h62' : ¬ (62 : Int) < l.length := by omega
  have hcm := Lib.hid fun W : World => c_CheckMessage m W
  have hme := Lib.hid fun W : World => r_MessageErr m W
  have hcp := Lib.hid fun W (hb : Below w.heap.size w W) => r_CopyInts l A c W (Hs.out W hb) (by omega)
  have hrm := Lib.hid fun (A' : Option Addr) (c' : Nat) W (h : Sl cI 1 W A' l) => c_RemainderOf l A' c' W (by omega) h
  have hen := Lib.hid fun W : World => c_Encoded m W
  have hde := Lib.hid fun W : World => c_Decoded f W
  have hms := Lib.hid fun W : World => r_Message f W
  have hby := Lib.hid fun W (hb : Below w.heap.size w W) => r_BytesErr l A c W (by omega) (Hs.out W hb)
  have hfr := Lib.hid fun (h : msE m = 0) W => r_Frame m W h
  have hrr := Lib.hid fun (h : ∀ n ∈ l, 0 ≤ n ∧ n ≤ 255) W (hb : Below w.heap.size w W) => r_Remainder l A c W (by omega) h (Hs.out W hb)
  have hE1 : Hid (msE m ≠ 0 → encS m = (fr0, msE m)) := fun h => by rw [encS, if_neg h]
  have hE0 : Hid (msE m = 0 → encS m = (frameOf m, 0)) := fun h => by rw [encS, if_pos h]
  have hr1 : Hid (remE l ≠ 0 → remS l = (0, remE l)) := fun h => by rw [remS, if_neg h]
  have hr0 : Hid (remE l = 0 → remS l = (((remI l : Nat) : Int), 0) ∧ ∀ n ∈ l, 0 ≤ n ∧ n ≤ 255) := fun h => ⟨by rw [remS, if_pos h], bytes_ok ((fst_cons _ _).1 ((fst_cons _ _).1 h).2).1⟩
  have hmE := Lib.hid fun W : World => eqMs_self (decS f).1 W
  have hfE := Lib.hid fun W : World => eqFr_self (encS m).1 W
  generalize msE m = d at *
  generalize remE l = E at *
  generalize encS m = En at *
  generalize frameOf m = fm at *
  generalize remS l = R at *
  generalize remI l = ri at *
  obtain ⟨⟨b0, b1, b2, b3, b4, b5, b6, b7⟩, ie⟩ := En
  obtain ⟨r, ir⟩ := R
  generalize decS f = D at *
  obtain ⟨y, iy⟩ := D
  obtain ⟨y0, y1, y2, y3, y4, y5, y6⟩ := y
  dsimp only at hde hms hmE hen hfE hrm
  go_enter Tryd.func4, Tryd.ntmps4
  go_upto_region 1 with fail
  first
  | apply absB2 (w0 := w) (g0 := w.heap.size) (g1 := w.heap.size + 1)
  | apply absTB2 (w0 := w) (g0 := w.heap.size) (g1 := w.heap.size + 1)
  | apply absIB2 (w0 := w) (g0 := w.heap.size) (g1 := w.heap.size + 1)
  iterate 3 (focus ((with_reducible (repeat' (first | assumption | apply jA | apply jB | apply jC | apply jD | apply jE | apply jF | apply hb3 | apply jG | apply jH | apply jI | apply jJ | apply jK | apply hb3x | (apply jL; first | (simp; done) | rfl) | apply jM | apply jN | apply jO | apply jP | apply jQ | apply jR | apply jS | apply jT (hb := hb3 _ (jA _)) | omega | (simp; done) | (simp; omega) | (dsimp only; omega)))); done))
  intro wa hb0' k0' k1'
  (try simp only [List.setIfInBounds_toArray, List.set_cons_zero, List.set_cons_succ] at k0' k1')
  try clear hb3
  try clear hb0
  try clear k0
  try clear k1
  have hb0 := hb0'; clear hb0'
  have k0 := k0'; clear k0'
  have k1 := k1'; clear k1'
  go_wp2_with fail
  refine (haw.out wa hb0).mono ?_
  rintro e w1 ⟨rfl, hb1⟩
  replace hb0 := bl_tr hb0 hb1
  replace k0 := k0.below hb1
  replace k1 := k1.below hb1
  clear hb1 haw
  have L0 := k0.cell
  go_wp2_with fail
  refine (hcm.out _).mono ?_
  rintro e w2 ⟨rfl, hb1⟩
  replace hb0 := bl_tr hb0 hb1
  replace k0 := k0.below hb1
  replace k1 := k1.below hb1
  clear hb1 hcm L0
  go_wp2_with fail
  refine (hcp.out _ hb0).mono ?_
  rintro e w3 ⟨A1, c1, rfl, hb1, ho1⟩
  replace hb0 := bl_tr hb0 hb1
  replace k0 := k0.below hb1
  replace k1 := k1.below hb1
  clear hb1 hcp
  go_wp2_with fail
  refine (hrm.out _ _ _ (own_sl ho1)).mono ?_
  rintro e w4 ⟨rfl, hb1⟩
  replace hb0 := bl_tr hb0 hb1
  replace k0 := k0.below hb1
  replace k1 := k1.below hb1
  clear hb1 hrm ho1
  have L0 := k0.cell
  go_wp2_with fail
  refine (hen.out _).mono ?_
  rintro e w5 ⟨rfl, hb1⟩
  replace hb0 := bl_tr hb0 hb1
  replace k0 := k0.below hb1
  replace k1 := k1.below hb1
  clear hb1 hen L0
  go_upto_region 8 with fail
  have hq1 := k1.lt
  have hqs := hb0.size
  first
  | apply absB3 (w0 := w) (g0 := w.heap.size) (g1 := w.heap.size + 1) (g2 := w5.heap.size)
  | apply absTB3 (w0 := w) (g0 := w.heap.size) (g1 := w.heap.size + 1) (g2 := w5.heap.size)
  | apply absIB3 (w0 := w) (g0 := w.heap.size) (g1 := w.heap.size + 1) (g2 := w5.heap.size)
  iterate 4 (focus ((with_reducible (repeat' (first | assumption | apply jA | apply jB | apply jC | apply jD | apply jE | apply jF | apply hb3 | apply jG | apply jH | apply jI | apply jJ | apply jK | apply hb3x | (apply jL; first | (simp; done) | rfl) | apply jM | apply jN | apply jO | apply jP | apply jQ | apply jR | apply jS | apply jT (hb := hb3 _ (jA _)) | omega | (simp; done) | (simp; omega) | (dsimp only; omega)))); done))
  intro w6 hb0' k0' k1' k2'
  (try simp only [List.setIfInBounds_toArray, List.set_cons_zero, List.set_cons_succ] at k0' k1' k2')
  try clear hb3
  try clear hb0
  try clear k0
  try clear k1
  try clear k2
  have hb0 := hb0'; clear hb0'
  have k0 := k0'; clear k0'
  have k1 := k1'; clear k1'
  have k2 := k2'; clear k2'
  have L1 := k1.cell
  go_wp2_with fail
  refine (hde.out _).mono ?_
  rintro e w7 ⟨rfl, hb1⟩
  replace hb0 := bl_tr hb0 hb1
  replace k0 := k0.below hb1
  replace k1 := k1.below hb1
  replace k2 := k2.below hb1
  clear hb1 hde L1
  go_upto_region 9 with fail
  have hq2 := k2.lt
  first
  | apply absB4 (w0 := w) (g0 := w.heap.size) (g1 := w.heap.size + 1) (g2 := w5.heap.size) (g3 := w7.heap.size)
  | apply absTB4 (w0 := w) (g0 := w.heap.size) (g1 := w.heap.size + 1) (g2 := w5.heap.size) (g3 := w7.heap.size)
  | apply absIB4 (w0 := w) (g0 := w.heap.size) (g1 := w.heap.size + 1) (g2 := w5.heap.size) (g3 := w7.heap.size)
  iterate 5 (focus ((with_reducible (repeat' (first | assumption | apply jA | apply jB | apply jC | apply jD | apply jE | apply jF | apply hb3 | apply jG | apply jH | apply jI | apply jJ | apply jK | apply hb3x | (apply jL; first | (simp; done) | rfl) | apply jM | apply jN | apply jO | apply jP | apply jQ | apply jR | apply jS | apply jT (hb := hb3 _ (jA _)) | omega | (simp; done) | (simp; omega) | (dsimp only; omega)))); done))
  intro w8 hb0' k0' k1' k2' k3'
  (try simp only [List.setIfInBounds_toArray, List.set_cons_zero, List.set_cons_succ] at k0' k1' k2' k3')
  try clear hb3
  try clear hb0
  try clear k0
  try clear k1
  try clear k2
  try clear k3
  have hb0 := hb0'; clear hb0'
  have k0 := k0'; clear k0'
  have k1 := k1'; clear k1'
  have k2 := k2'; clear k2'
  have k3 := k3'; clear k3'
  have L0 := k0.cell
  go_wp2_with fail
  refine (hme.out _).mono ?_
  rintro e w9 ⟨rfl, hb1⟩
  replace hb0 := bl_tr hb0 hb1
  replace k0 := k0.below hb1
  replace k1 := k1.below hb1
  replace k2 := k2.below hb1
  replace k3 := k3.below hb1
  clear hb1 hme L0
  go_upto_region 10 with fail
  have hb9 := hb0
  have Lk0 := k0.later
  have Fk0 := k0.laterF
  have Qk0 := k0.lt
  have Lk1 := k1.later
  have Fk1 := k1.laterF
  have Qk1 := k1.lt
  have Lk2 := k2.later
  have Fk2 := k2.laterF
  have Qk2 := k2.lt
  have Lk3 := k3.later
  have Fk3 := k3.laterF
  have Qk3 := k3.lt
  by_cases hd : d = 0
  · have e1 := hE0.out hd
    injection e1 with e1 e2
    subst e1 e2
    subst hd
    have hfr2 := Lib.hid (hfr.out rfl)
    have hfE' := hfE.out
    clear hE0 hE1 hfr
    refine wp_any (w0 := w9) ⟨[], [], [some 42, some 43, some 44, some 45, some 46, some 47, some 48, some 49, some 50, some 51, some 52, some 53, some 54, some 55, some 56, some 57, some 58, some 59, some 60, some 61, some 62, some 63, some 64, some 65, some 66, some 67, some 68], [[], [], [0, 1], [0, 1, 2], [0, 1, 2, 3], [0, 1, 2, 3], [0, 1, 2, 3, 4, 5], [0, 1, 2, 3, 4, 5, 6], [0, 1, 2, 3, 4, 5, 6, 7], [0, 1, 2, 3, 4, 5, 6, 7, 8], [0, 1, 2, 3, 4, 5, 6, 7, 8, 9], [0, 1, 2, 3, 4, 5, 6, 7, 8, 9, 10], [0, 1, 2, 3, 4, 5, 6, 7, 8, 9, 10, 11], [0, 1, 2, 3, 4, 5, 6, 7, 8, 9, 10, 11], [0, 1, 2, 3, 4, 5, 6, 7, 8, 9, 10, 11, 12, 13], [0, 1, 2, 3, 4, 5, 6, 7, 8, 9, 10, 11, 12, 13, 14], [0, 1, 2, 3, 4, 5, 6, 7, 8, 9, 10, 11, 12, 13, 14, 15], [0, 1, 2, 3, 4, 5, 6, 7, 8, 9, 10, 11, 12, 13, 14, 15, 16], [0, 1, 2, 3, 4, 5, 6, 7, 8, 9, 10, 11, 12, 13, 14, 15, 16, 17], [0, 1, 2, 3, 4, 5, 6, 7, 8, 9, 10, 11, 12, 13, 14, 15, 16, 17, 18], [0, 1, 2, 3, 4, 5, 6, 7, 8, 9, 10, 11, 12, 13, 14, 15, 16, 17, 18, 19], [0, 1, 2, 3, 4, 5, 6, 7, 8, 9, 10, 11, 12, 13, 14, 15, 16, 17, 18, 19, 20], [0, 1, 2, 3, 4, 5, 6, 7, 8, 9, 10, 11, 12, 13, 14, 15, 16, 17, 18, 19, 20], [0, 1, 2, 3, 4, 5, 6, 7, 8, 9, 10, 11, 12, 13, 14, 15, 16, 17, 18, 19, 20, 22], [0, 1, 2, 3, 4, 5, 6, 7, 8, 9, 10, 11, 12, 13, 14, 15, 16, 17, 18, 19, 20, 21, 22, 23], [0, 1, 2, 3, 4, 5, 6, 7, 8, 9, 10, 11, 12, 13, 14, 15, 16, 17, 18, 19, 20, 21, 22, 23, 24], [0, 1, 2, 3, 4, 5, 6, 7, 8, 9, 10, 11, 12, 13, 14, 15, 16, 17, 18, 19, 20, 21, 22, 23, 24, 25]], [[], [], [0, 1], [2], [3], [3], [3, 4, 5], [3, 6], [7], [8], [8, 9], [8, 10], [11], [11], [11, 12, 13], [8, 11, 14], [8, 15], [16], [17], [17, 18], [17, 19], [20], [20], [20, 22], [20, 21, 23], [17, 20, 24], [17, 25]]⟩ (fun _ => []) (by kernel_rfl) (by kernel_rfl) (by (with_reducible (repeat' (first | assumption | apply jA | apply jB | apply jC | apply jD | apply jE | apply jF | apply hb3 | omega | (simp; done) | (simp; omega) | (dsimp only; omega))))) (fun u => by simp only [putD, Act.put, List.setIfInBounds_toArray, List.set_cons_zero, List.set_cons_succ, Nat.zero_add, Nat.reduceAdd]; rfl) ?_
    apply RGW.on (i := 0) rfl
    · (simp only [gA, gB, gC] <;> rfl)
    · intro γ u W hcur hd
      clear hd
      (try dsimp only)
      refine ⟨rfl, ?_⟩
      go_simp <;> (try go_bits) <;> with_reducible rfl
    · exact fun _ _ _ => rfl
    · rfl
    dsimp only [nA, cA]
    apply RGW.on (i := 1) rfl
    · (simp only [gA, gB, gC] <;> rfl)
    · intro γ u W hcur hd
      clear hd
      (try dsimp only)
      refine ⟨rfl, ?_⟩
      go_simp <;> (try go_bits) <;> with_reducible rfl
    · exact fun _ _ _ => rfl
    · rfl
    dsimp only [nA, cA]
    apply RGW.on (i := 2) rfl
    · (simp only [gA, gB, gC] <;> rfl)
    · intro γ u W hcur hd
      obtain ⟨⟨h0, -, -⟩, ⟨h1, -, -⟩, -⟩ := hd
      dsimp only at h0 h1
      (try simp only [h0, h1])
      refine ⟨rfl, ?_⟩
      go_simp <;> (try go_bits) <;> with_reducible rfl
    · exact fun _ _ _ => rfl
    · rfl
    dsimp only [nA, cA]
    apply RGW.on (i := 3) rfl
    · (simp only [gA, gB, gC] <;> rfl)
    · intro γ u W hcur hd
      obtain ⟨⟨h2, -, -⟩, -⟩ := hd
      dsimp only at h2
      (try simp only [h2])
      refine ⟨rfl, ?_⟩
      go_simp <;> (try go_bits) <;> with_reducible rfl
    · exact fun _ _ _ => rfl
    · rfl
    dsimp only [nA, cA]
    first
    | apply RGW.on (i := 4) rfl
      · (simp only [gA, gB, gC] <;> rfl)
      · intro γ u W hcur hd
        obtain ⟨⟨h3, -, -⟩, -⟩ := hd
        dsimp only at h3
        (try simp only [h3])
        refine ⟨?_, ?_⟩
        · (simp [Region.wanted, yielded, undef, *]; done)
        go_simp <;> (try go_bits) <;> with_reducible rfl
      · exact fun _ _ _ => rfl
      · rfl
    | apply RGW.off (i := 4) rfl
      · (simp only [gA, gB, gC] <;> rfl)
      · intro γ u W hcur hd
        obtain ⟨⟨h3, -, -⟩, -⟩ := hd
        dsimp only at h3
        (try simp only [h3])
        simp [Region.wanted, yielded, undef, *]
      · rfl
    dsimp only [nA, cA]
    first
    | apply RGW.on (i := 5) rfl
      · (simp only [gA, gB, gC] <;> rfl)
      · intro γ u W hcur hd
        obtain ⟨⟨h3, -, -⟩, -⟩ := hd
        dsimp only at h3
        (try simp only [h3])
        refine ⟨?_, ?_⟩
        · (simp [Region.wanted, yielded, undef, *]; done)
        go_simp <;> (try go_bits) <;> with_reducible rfl
      · exact fun _ _ _ => rfl
      · rfl
    | apply RGW.off (i := 5) rfl
      · (simp only [gA, gB, gC] <;> rfl)
      · intro γ u W hcur hd
        obtain ⟨⟨h3, -, -⟩, -⟩ := hd
        dsimp only at h3
        (try simp only [h3])
        simp [Region.wanted, yielded, undef, *]
      · rfl
    dsimp only [nA, cA]
    first
    | apply RGW.on (i := 6) rfl
      · (simp only [gA, gB, gC] <;> rfl)
      · intro γ u W hcur hd
        obtain ⟨⟨h3, -, -⟩, ⟨h4, -, -⟩, ⟨h5, -, -⟩, -⟩ := hd
        dsimp only at h3 h4 h5
        (try simp only [h3, h4, h5])
        refine ⟨?_, ?_⟩
        · (simp [Region.wanted, yielded, undef, *]; done)
        go_simp <;> (try go_bits) <;> with_reducible rfl
      · exact fun _ _ _ => rfl
      · rfl
    | apply RGW.off (i := 6) rfl
      · (simp only [gA, gB, gC] <;> rfl)
      · intro γ u W hcur hd
        obtain ⟨⟨h3, -, -⟩, ⟨h4, -, -⟩, ⟨h5, -, -⟩, -⟩ := hd
        dsimp only at h3 h4 h5
        (try simp only [h3, h4, h5])
        simp [Region.wanted, yielded, undef, *]
      · rfl
    dsimp only [nA, cA]
    apply RGW.on (i := 7) rfl
    · (simp only [gA, gB, gC] <;> rfl)
    · intro γ u W hcur hd
      obtain ⟨⟨h3, -, -⟩, ⟨h6, -, -⟩, -⟩ := hd
      dsimp only at h3 h6
      (try simp only [h3, h6])
      refine ⟨rfl, ?_⟩
      go_simp <;> (try go_bits) <;> with_reducible rfl
    · exact fun _ _ _ => rfl
    · rfl
    dsimp only [nA, cA]
    apply RGW.on (i := 8) rfl
    · (simp only [gA, gB, gC] <;> rfl)
    · intro γ u W hcur hd
      obtain ⟨⟨h7, -, -⟩, -⟩ := hd
      dsimp only at h7
      (try simp only [h7])
      refine ⟨rfl, ?_⟩
      go_simp <;> (try go_bits) <;> with_reducible rfl
    · exact fun _ _ _ => rfl
    · rfl
    dsimp only [nA, cA]
    first
    | apply RGW.on (i := 9) rfl
      · (simp only [gA, gB, gC] <;> rfl)
      · intro γ u W hcur hd
        obtain ⟨⟨h8, -, -⟩, -⟩ := hd
        dsimp only at h8
        (try simp only [h8])
        refine ⟨?_, ?_⟩
        · (simp [Region.wanted, yielded, undef, *]; done)
        go_simp <;> (try go_bits) <;> with_reducible rfl
      · exact fun _ _ _ => rfl
      · rfl
    | apply RGW.off (i := 9) rfl
      · (simp only [gA, gB, gC] <;> rfl)
      · intro γ u W hcur hd
        obtain ⟨⟨h8, -, -⟩, -⟩ := hd
        dsimp only at h8
        (try simp only [h8])
        simp [Region.wanted, yielded, undef, *]
      · rfl
    dsimp only [nA, cA]
    first
    | apply RGW.on (i := 10) rfl
      · (simp only [gA, gB, gC] <;> rfl)
      · intro γ u W hcur hd
        obtain ⟨⟨h8, -, -⟩, ⟨h9, -, -⟩, -⟩ := hd
        dsimp only at h8 h9
        (try simp only [h8, h9])
        refine ⟨?_, ?_⟩
        · (simp [Region.wanted, yielded, undef, *]; done)
        go_simp <;> (try go_bits) <;> with_reducible rfl
      · exact fun _ _ _ => rfl
      · rfl
    | apply RGW.off (i := 10) rfl
      · (simp only [gA, gB, gC] <;> rfl)
      · intro γ u W hcur hd
        obtain ⟨⟨h8, -, -⟩, ⟨h9, -, -⟩, -⟩ := hd
        dsimp only at h8 h9
        (try simp only [h8, h9])
        simp [Region.wanted, yielded, undef, *]
      · rfl
    dsimp only [nA, cA]
    first
    | apply RGW.on (i := 11) rfl
      · (simp only [gA, gB, gC] <;> rfl)
      · intro γ u W hcur hd
        obtain ⟨⟨h8, -, -⟩, ⟨h10, -, -⟩, -⟩ := hd
        dsimp only at h8 h10
        (try simp only [h8, h10])
        refine ⟨?_, ?_⟩
        · (simp [Region.wanted, yielded, undef, *]; done)
        go_simp <;> (try go_bits) <;> with_reducible rfl
      · exact fun _ _ _ => rfl
      · rfl
    | apply RGW.off (i := 11) rfl
      · (simp only [gA, gB, gC] <;> rfl)
      · intro γ u W hcur hd
        obtain ⟨⟨h8, -, -⟩, ⟨h10, -, -⟩, -⟩ := hd
        dsimp only at h8 h10
        (try simp only [h8, h10])
        simp [Region.wanted, yielded, undef, *]
      · rfl
    dsimp only [nA, cA]
    first
    | apply RGW.on (i := 12) rfl
      · (simp only [gA, gB, gC] <;> rfl)
      · intro γ u W hcur hd
        obtain ⟨⟨h11, -, -⟩, -⟩ := hd
        dsimp only at h11
        (try simp only [h11])
        refine ⟨?_, ?_⟩
        · (simp [Region.wanted, yielded, undef, *]; done)
        go_simp <;> (try go_bits) <;> with_reducible rfl
      · exact fun _ _ _ => rfl
      · rfl
    | apply RGW.off (i := 12) rfl
      · (simp only [gA, gB, gC] <;> rfl)
      · intro γ u W hcur hd
        obtain ⟨⟨h11, -, -⟩, -⟩ := hd
        dsimp only at h11
        (try simp only [h11])
        simp [Region.wanted, yielded, undef, *]
      · rfl
    dsimp only [nA, cA]
    first
    | apply RGW.on (i := 13) rfl
      · (simp only [gA, gB, gC] <;> rfl)
      · intro γ u W hcur hd
        obtain ⟨⟨h11, -, -⟩, -⟩ := hd
        dsimp only at h11
        (try simp only [h11])
        refine ⟨?_, ?_⟩
        · (simp [Region.wanted, yielded, undef, *]; done)
        go_simp <;> (try go_bits) <;> with_reducible rfl
      · exact fun _ _ _ => rfl
      · rfl
    | apply RGW.off (i := 13) rfl
      · (simp only [gA, gB, gC] <;> rfl)
      · intro γ u W hcur hd
        obtain ⟨⟨h11, -, -⟩, -⟩ := hd
        dsimp only at h11
        (try simp only [h11])
        simp [Region.wanted, yielded, undef, *]
      · rfl
    dsimp only [nA, cA]
    first
    | apply RGW.on (i := 14) rfl
      · (simp only [gA, gB, gC] <;> rfl)
      · intro γ u W hcur hd
        obtain ⟨⟨h11, -, -⟩, ⟨h12, -, -⟩, ⟨h13, -, -⟩, -⟩ := hd
        dsimp only at h11 h12 h13
        (try simp only [h11, h12, h13])
        refine ⟨?_, ?_⟩
        · (simp [Region.wanted, yielded, undef, *]; done)
        go_simp <;> (try go_bits) <;> with_reducible rfl
      · exact fun _ _ _ => rfl
      · rfl
    | apply RGW.off (i := 14) rfl
      · (simp only [gA, gB, gC] <;> rfl)
      · intro γ u W hcur hd
        obtain ⟨⟨h11, -, -⟩, ⟨h12, -, -⟩, ⟨h13, -, -⟩, -⟩ := hd
        dsimp only at h11 h12 h13
        (try simp only [h11, h12, h13])
        simp [Region.wanted, yielded, undef, *]
      · rfl
    dsimp only [nA, cA]
    first
    | apply RGW.on (i := 15) rfl
      · (simp only [gA, gB, gC] <;> rfl)
      · intro γ u W hcur hd
        obtain ⟨⟨h8, -, -⟩, ⟨h11, -, -⟩, ⟨h14, -, -⟩, -⟩ := hd
        dsimp only at h8 h11 h14
        (try simp only [h8, h11, h14])
        refine ⟨?_, ?_⟩
        · (simp [Region.wanted, yielded, undef, *]; done)
        go_simp <;> (try go_bits) <;> with_reducible rfl
      · exact fun _ _ _ => rfl
      · rfl
    | apply RGW.off (i := 15) rfl
      · (simp only [gA, gB, gC] <;> rfl)
      · intro γ u W hcur hd
        obtain ⟨⟨h8, -, -⟩, ⟨h11, -, -⟩, ⟨h14, -, -⟩, -⟩ := hd
        dsimp only at h8 h11 h14
        (try simp only [h8, h11, h14])
        simp [Region.wanted, yielded, undef, *]
      · rfl
    dsimp only [nA, cA]
    apply RGW.on (i := 16) rfl
    · (simp only [gA, gB, gC] <;> rfl)
    · intro γ u W hcur hd
      obtain ⟨⟨h8, -, -⟩, ⟨h15, -, -⟩, -⟩ := hd
      dsimp only at h8 h15
      (try simp only [h8, h15])
      refine ⟨rfl, ?_⟩
      go_simp <;> (try go_bits) <;> with_reducible rfl
    · exact fun _ _ _ => rfl
    · rfl
    dsimp only [nA, cA]
    apply RGW.on (i := 17) rfl
    · (simp only [gA, gB, gC] <;> rfl)
    · intro γ u W hcur hd
      obtain ⟨⟨h16, -, -⟩, -⟩ := hd
      dsimp only at h16
      (try simp only [h16])
      refine ⟨rfl, ?_⟩
      go_simp <;> (try go_bits) <;> with_reducible rfl
    · exact fun _ _ _ => rfl
    · rfl
    dsimp only [nA, cA]
    first
    | apply RGW.on (i := 18) rfl
      · (simp only [gA, gB, gC] <;> rfl)
      · intro γ u W hcur hd
        obtain ⟨⟨h17, -, -⟩, -⟩ := hd
        dsimp only at h17
        (try simp only [h17])
        refine ⟨?_, ?_⟩
        · (simp [Region.wanted, yielded, undef, *]; done)
        go_simp <;> (try go_bits) <;> with_reducible rfl
      · exact fun _ _ _ => rfl
      · rfl
    | apply RGW.off (i := 18) rfl
      · (simp only [gA, gB, gC] <;> rfl)
      · intro γ u W hcur hd
        obtain ⟨⟨h17, -, -⟩, -⟩ := hd
        dsimp only at h17
        (try simp only [h17])
        simp [Region.wanted, yielded, undef, *]
      · rfl
    dsimp only [nA, cA]
    first
    | apply RGW.on (i := 19) rfl
      · (simp only [gA, gB, gC] <;> rfl)
      · intro γ u W hcur hd
        obtain ⟨⟨h17, -, -⟩, ⟨h18, -, -⟩, -⟩ := hd
        dsimp only at h17 h18
        (try simp only [h17, h18])
        refine ⟨?_, ?_⟩
        · (simp [Region.wanted, yielded, undef, *]; done)
        go_simp <;> (try go_bits) <;> with_reducible rfl
      · exact fun _ _ _ => rfl
      · rfl
    | apply RGW.off (i := 19) rfl
      · (simp only [gA, gB, gC] <;> rfl)
      · intro γ u W hcur hd
        obtain ⟨⟨h17, -, -⟩, ⟨h18, -, -⟩, -⟩ := hd
        dsimp only at h17 h18
        (try simp only [h17, h18])
        simp [Region.wanted, yielded, undef, *]
      · rfl
    dsimp only [nA, cA]
    first
    | apply RGW.on (i := 20) rfl
      · (simp only [gA, gB, gC] <;> rfl)
      · intro γ u W hcur hd
        obtain ⟨⟨h17, -, -⟩, ⟨h19, -, -⟩, -⟩ := hd
        dsimp only at h17 h19
        (try simp only [h17, h19])
        refine ⟨?_, ?_⟩
        · (simp [Region.wanted, yielded, undef, *]; done)
        go_simp <;> (try go_bits) <;> with_reducible rfl
      · exact fun _ _ _ => rfl
      · rfl
    | apply RGW.off (i := 20) rfl
      · (simp only [gA, gB, gC] <;> rfl)
      · intro γ u W hcur hd
        obtain ⟨⟨h17, -, -⟩, ⟨h19, -, -⟩, -⟩ := hd
        dsimp only at h17 h19
        (try simp only [h17, h19])
        simp [Region.wanted, yielded, undef, *]
      · rfl
    dsimp only [nA, cA]
    first
    | apply RGW.on (i := 21) rfl
      · (simp only [gA, gB, gC] <;> rfl)
      · intro γ u W hcur hd
        obtain ⟨⟨h20, -, -⟩, -⟩ := hd
        dsimp only at h20
        (try simp only [h20])
        refine ⟨?_, ?_⟩
        · (simp [Region.wanted, yielded, undef, *]; done)
        go_simp <;> (try go_bits) <;> with_reducible rfl
      · exact fun _ _ _ => rfl
      · rfl
    | apply RGW.off (i := 21) rfl
      · (simp only [gA, gB, gC] <;> rfl)
      · intro γ u W hcur hd
        obtain ⟨⟨h20, -, -⟩, -⟩ := hd
        dsimp only at h20
        (try simp only [h20])
        simp [Region.wanted, yielded, undef, *]
      · rfl
    dsimp only [nA, cA]
    first
    | apply RGW.on (i := 22) rfl
      · (simp only [gA, gB, gC] <;> rfl)
      · intro γ u W hcur hd
        obtain ⟨⟨h20, -, -⟩, -⟩ := hd
        dsimp only at h20
        (try simp only [h20])
        refine ⟨?_, ?_⟩
        · (simp [Region.wanted, yielded, undef, *]; done)
        go_simp <;> (try go_bits) <;> with_reducible rfl
      · exact fun _ _ _ => rfl
      · rfl
    | apply RGW.off (i := 22) rfl
      · (simp only [gA, gB, gC] <;> rfl)
      · intro γ u W hcur hd
        obtain ⟨⟨h20, -, -⟩, -⟩ := hd
        dsimp only at h20
        (try simp only [h20])
        simp [Region.wanted, yielded, undef, *]
      · rfl
    dsimp only [nA, cA]
    first
    | apply RGW.call (i := 23) rfl
      · (simp only [gA, gB, gC] <;> rfl)
      · intro γ u W hcur hd
        obtain ⟨⟨h20, -, -⟩, ⟨h22, -, -⟩, -⟩ := hd
        dsimp only at h20 h22
        (try simp only [h20, h22])
        refine ⟨?_, fun K hK => ?_⟩
        · (simp [Region.wanted, yielded, undef, *]; done)
        go_simp
        (go_at_call 27; (with_reducible refine (hfr2.out _).mono ?_); rintro e w3 ⟨rfl, hb3⟩; replace hb3 := bl_tt hb3)
        (try dsimp only)
        exact hK.out _ _ rfl (by (with_reducible (repeat' (first | assumption | apply jA | apply jB | apply jC | apply jD | apply jE | apply jF | apply hb3 | omega | (simp; done) | (simp; omega) | (dsimp only; omega)))))
      · exact fun _ _ _ => rfl
      · rfl
    | apply RGW.off (i := 23) rfl
      · (simp only [gA, gB, gC] <;> rfl)
      · intro γ u W hcur hd
        obtain ⟨⟨h20, -, -⟩, ⟨h22, -, -⟩, -⟩ := hd
        dsimp only at h20 h22
        (try simp only [h20, h22])
        simp [Region.wanted, yielded, undef, *]
      · rfl
    dsimp only [nA, cA]
    first
    | apply RGW.on (i := 24) rfl
      · (simp only [gA, gB, gC] <;> rfl)
      · intro γ u W hcur hd
        obtain ⟨⟨h20, -, -⟩, ⟨h21, -, -⟩, ⟨h23, -, -⟩, -⟩ := hd
        dsimp only at h20 h21 h23
        (try simp only [h20, h21, h23])
        refine ⟨?_, ?_⟩
        · (simp [Region.wanted, yielded, undef, *]; done)
        go_simp <;> (try go_bits) <;> with_reducible rfl
      · exact fun _ _ _ => rfl
      · rfl
    | apply RGW.off (i := 24) rfl
      · (simp only [gA, gB, gC] <;> rfl)
      · intro γ u W hcur hd
        obtain ⟨⟨h20, -, -⟩, ⟨h21, -, -⟩, ⟨h23, -, -⟩, -⟩ := hd
        dsimp only at h20 h21 h23
        (try simp only [h20, h21, h23])
        simp [Region.wanted, yielded, undef, *]
      · rfl
    dsimp only [nA, cA]
    first
    | apply RGW.on (i := 25) rfl
      · (simp only [gA, gB, gC] <;> rfl)
      · intro γ u W hcur hd
        obtain ⟨⟨h17, -, -⟩, ⟨h20, -, -⟩, ⟨h24, -, -⟩, -⟩ := hd
        dsimp only at h17 h20 h24
        (try simp only [h17, h20, h24])
        refine ⟨?_, ?_⟩
        · (simp [Region.wanted, yielded, undef, *]; done)
        go_simp <;> (try go_bits) <;> with_reducible rfl
      · exact fun _ _ _ => rfl
      · rfl
    | apply RGW.off (i := 25) rfl
      · (simp only [gA, gB, gC] <;> rfl)
      · intro γ u W hcur hd
        obtain ⟨⟨h17, -, -⟩, ⟨h20, -, -⟩, ⟨h24, -, -⟩, -⟩ := hd
        dsimp only at h17 h20 h24
        (try simp only [h17, h20, h24])
        simp [Region.wanted, yielded, undef, *]
      · rfl
    dsimp only [nA, cA]
    apply RGW.on (i := 26) rfl
    · (simp only [gA, gB, gC] <;> rfl)
    · intro γ u W hcur hd
      obtain ⟨⟨h17, -, -⟩, ⟨h25, -, -⟩, -⟩ := hd
      dsimp only at h17 h25
      (try simp only [h17, h25])
      refine ⟨rfl, ?_⟩
      go_simp <;> (try go_bits) <;> with_reducible rfl
    · exact fun _ _ _ => rfl
    · rfl
    dsimp only [nA, cA]
    refine RGW.fin (fun γ u wt hwt hd hdis => ?_)
    obtain ⟨⟨h0, -, -⟩, ⟨h1, -, -⟩, ⟨h2, -, -⟩, ⟨h3, -, -⟩, ⟨h4, -, -⟩, ⟨h5, -, -⟩, ⟨h6, -, -⟩, ⟨h7, -, -⟩, ⟨h8, -, -⟩, ⟨h9, -, -⟩, ⟨h10, -, -⟩, ⟨h11, -, -⟩, ⟨h12, -, -⟩, ⟨h13, -, -⟩, ⟨h14, -, -⟩, ⟨h15, -, -⟩, ⟨h16, -, -⟩, ⟨h17, -, -⟩, ⟨h18, -, -⟩, ⟨h19, -, -⟩, ⟨h20, -, -⟩, ⟨h21, -, -⟩, ⟨h22, -, -⟩, ⟨h23, -, -⟩, ⟨h24, -, -⟩, ⟨h25, -, -⟩, ⟨h26, -, -⟩, -⟩ := hd
    dsimp only at h0 h1 h2 h3 h4 h5 h6 h7 h8 h9 h10 h11 h12 h13 h14 h15 h16 h17 h18 h19 h20 h21 h22 h23 h24 h25 h26
    clear hdis
    simp only [h0, h1, h2, h3, h4, h5, h6, h7, h8, h9, h10, h11, h12, h13, h14, h15, h16, h17, h18, h19, h20, h21, h22, h23, h24, h25, h26]
    clear h26 h25 h24 h23 h22 h21 h20 h19 h18 h17 h16 h15 h14 h13 h12 h11 h10 h9 h8 h7 h6 h5 h4 h3 h2 h1 h0
    clear u
    simp only [List.map_nil]
    refine PlanW.done ?_
    have hb3 := bl_tt hwt
    clear hfE' hfr2
    have hb0' := hb3 _ hb0
    replace k1 := k1.below hwt
    replace k3 := k3.below hwt
    clear Lk0 Lk1 Lk2 Lk3 Fk0 Fk1 Fk2 Fk3 hb0 hb3 k0 k2 hwt hfE
    have hb0 := hb0'
    clear hb0'
    have L1 := k1.cell
    go_wp2_with fail
    refine (hms.out _).mono ?_
    rintro e w10 ⟨rfl, hb1⟩
    replace hb0 := bl_tr hb0 hb1
    replace k3 := k3.below hb1
    clear hb1 hms L1 k1
    go_upto_region 13 with fail
    have hq3 := k3.lt
    first
    | apply absB2 (w0 := w) (g0 := w7.heap.size) (g1 := w10.heap.size)
    | apply absTB2 (w0 := w) (g0 := w7.heap.size) (g1 := w10.heap.size)
    | apply absIB2 (w0 := w) (g0 := w7.heap.size) (g1 := w10.heap.size)
    iterate 3 (focus ((with_reducible (repeat' (first | assumption | apply jA | apply jB | apply jC | apply jD | apply jE | apply jF | apply hb3 | apply jG | apply jH | apply jI | apply jJ | apply jK | apply hb3x | (apply jL; first | (simp; done) | rfl) | apply jM | apply jN | apply jO | apply jP | apply jQ | apply jR | apply jS | apply jT (hb := hb3 _ (jA _)) | omega | (simp; done) | (simp; omega) | (dsimp only; omega)))); done))
    intro w11 hb0' k3' k4'
    (try simp only [List.setIfInBounds_toArray, List.set_cons_zero, List.set_cons_succ] at k3' k4')
    try clear hb3
    try clear hb0
    try clear k3
    try clear k4
    have hb0 := hb0'; clear hb0'
    have k3 := k3'; clear k3'
    have k4 := k4'; clear k4'
    have L3 := k3.cell
    have L4 := k4.cell
    have hmE' := hmE.out
    clear hmE
    go_wp2_with fail
    clear hmE' L3 L4 k3 k4
    refine (hby.out _ hb0).mono ?_
    rintro e w12 ⟨rfl, hb1⟩
    replace hb0 := bl_tr hb0 hb1
    clear hb1 hby
    by_cases hE : E = 0
    · obtain ⟨e1, hbd⟩ := hr0.out hE
      injection e1 with e1 e2
      subst e1 e2 hE
      have hrr2 := Lib.hid (hrr.out hbd)
      clear hr0 hr1 hrr
      go_wp2_with fail
      refine (hrr2.out _ hb0).mono ?_
      rintro e w13 ⟨rfl, rfl⟩
      go_wp2
      go_ret
      exact ⟨by simp, hb0⟩
    · have e1 := hr1.out hE
      injection e1 with e1 e2
      subst e1 e2
      clear hr0 hr1 hrr
      go_wp2_with fail
      go_ret
      exact ⟨by simp, hb0⟩
  · have e1 := hE1.out hd
    injection e1 with e1 e2
    injection e1 with f0 f1 f2 f3 f4 f5 f6 f7
    subst f0 f1 f2 f3 f4 f5 f6 f7 e2
    have hd' : (ie != 0) = true := by simp [hd]
    have hd2 : (ie == 0) = false := by simp [hd]
    have hfE' := hfE.out
    clear hE0 hE1 hfr
    replace hd := Lib.hid hd
    refine wp_any (w0 := w9) ⟨[], [], [some 42, some 43, some 44, some 45, some 46, some 47, some 48, some 49, some 50, some 51, some 52, some 53, some 54, some 55, some 56, some 57, some 58, some 59, some 60, some 61, some 62, some 63, some 64, some 65, some 66, some 67, some 68], [[], [], [0, 1], [0, 1, 2], [0, 1, 2, 3], [0, 1, 2, 3], [0, 1, 2, 3, 4, 5], [0, 1, 2, 3, 4, 5, 6], [0, 1, 2, 3, 4, 5, 6, 7], [0, 1, 2, 3, 4, 5, 6, 7, 8], [0, 1, 2, 3, 4, 5, 6, 7, 8, 9], [0, 1, 2, 3, 4, 5, 6, 7, 8, 9, 10], [0, 1, 2, 3, 4, 5, 6, 7, 8, 9, 10, 11], [0, 1, 2, 3, 4, 5, 6, 7, 8, 9, 10, 11], [0, 1, 2, 3, 4, 5, 6, 7, 8, 9, 10, 11, 12, 13], [0, 1, 2, 3, 4, 5, 6, 7, 8, 9, 10, 11, 12, 13, 14], [0, 1, 2, 3, 4, 5, 6, 7, 8, 9, 10, 11, 12, 13, 14, 15], [0, 1, 2, 3, 4, 5, 6, 7, 8, 9, 10, 11, 12, 13, 14, 15, 16], [0, 1, 2, 3, 4, 5, 6, 7, 8, 9, 10, 11, 12, 13, 14, 15, 16, 17], [0, 1, 2, 3, 4, 5, 6, 7, 8, 9, 10, 11, 12, 13, 14, 15, 16, 17, 18], [0, 1, 2, 3, 4, 5, 6, 7, 8, 9, 10, 11, 12, 13, 14, 15, 16, 17, 18, 19], [0, 1, 2, 3, 4, 5, 6, 7, 8, 9, 10, 11, 12, 13, 14, 15, 16, 17, 18, 19, 20], [0, 1, 2, 3, 4, 5, 6, 7, 8, 9, 10, 11, 12, 13, 14, 15, 16, 17, 18, 19, 20], [0, 1, 2, 3, 4, 5, 6, 7, 8, 9, 10, 11, 12, 13, 14, 15, 16, 17, 18, 19, 20, 22], [0, 1, 2, 3, 4, 5, 6, 7, 8, 9, 10, 11, 12, 13, 14, 15, 16, 17, 18, 19, 20, 21, 22, 23], [0, 1, 2, 3, 4, 5, 6, 7, 8, 9, 10, 11, 12, 13, 14, 15, 16, 17, 18, 19, 20, 21, 22, 23, 24], [0, 1, 2, 3, 4, 5, 6, 7, 8, 9, 10, 11, 12, 13, 14, 15, 16, 17, 18, 19, 20, 21, 22, 23, 24, 25]], [[], [], [0, 1], [2], [3], [3], [3, 4, 5], [3, 6], [7], [8], [8, 9], [8, 10], [11], [11], [11, 12, 13], [8, 11, 14], [8, 15], [16], [17], [17, 18], [17, 19], [20], [20], [20, 22], [20, 21, 23], [17, 20, 24], [17, 25]]⟩ (fun _ => []) (by kernel_rfl) (by kernel_rfl) (by (with_reducible (repeat' (first | assumption | apply jA | apply jB | apply jC | apply jD | apply jE | apply jF | apply hb3 | omega | (simp; done) | (simp; omega) | (dsimp only; omega))))) (fun u => by simp only [putD, Act.put, List.setIfInBounds_toArray, List.set_cons_zero, List.set_cons_succ, Nat.zero_add, Nat.reduceAdd]; rfl) ?_
    apply RGW.on (i := 0) rfl
    · (simp only [gA, gB, gC] <;> rfl)
    · intro γ u W hcur hd
      clear hd
      (try dsimp only)
      refine ⟨rfl, ?_⟩
      go_simp <;> (try go_bits) <;> with_reducible rfl
    · exact fun _ _ _ => rfl
    · rfl
    dsimp only [nA, cA]
    apply RGW.on (i := 1) rfl
    · (simp only [gA, gB, gC] <;> rfl)
    · intro γ u W hcur hd
      clear hd
      (try dsimp only)
      refine ⟨rfl, ?_⟩
      go_simp <;> (try go_bits) <;> with_reducible rfl
    · exact fun _ _ _ => rfl
    · rfl
    dsimp only [nA, cA]
    apply RGW.on (i := 2) rfl
    · (simp only [gA, gB, gC] <;> rfl)
    · intro γ u W hcur hd
      obtain ⟨⟨h0, -, -⟩, ⟨h1, -, -⟩, -⟩ := hd
      dsimp only at h0 h1
      (try simp only [h0, h1])
      refine ⟨rfl, ?_⟩
      go_simp <;> (try go_bits) <;> with_reducible rfl
    · exact fun _ _ _ => rfl
    · rfl
    dsimp only [nA, cA]
    apply RGW.on (i := 3) rfl
    · (simp only [gA, gB, gC] <;> rfl)
    · intro γ u W hcur hd
      obtain ⟨⟨h2, -, -⟩, -⟩ := hd
      dsimp only at h2
      (try simp only [h2])
      refine ⟨rfl, ?_⟩
      go_simp <;> (try go_bits) <;> with_reducible rfl
    · exact fun _ _ _ => rfl
    · rfl
    dsimp only [nA, cA]
    first
    | apply RGW.on (i := 4) rfl
      · (simp only [gA, gB, gC] <;> rfl)
      · intro γ u W hcur hd
        obtain ⟨⟨h3, -, -⟩, -⟩ := hd
        dsimp only at h3
        (try simp only [h3])
        refine ⟨?_, ?_⟩
        · (simp [Region.wanted, yielded, undef, *]; done)
        go_simp <;> (try go_bits) <;> with_reducible rfl
      · exact fun _ _ _ => rfl
      · rfl
    | apply RGW.off (i := 4) rfl
      · (simp only [gA, gB, gC] <;> rfl)
      · intro γ u W hcur hd
        obtain ⟨⟨h3, -, -⟩, -⟩ := hd
        dsimp only at h3
        (try simp only [h3])
        simp [Region.wanted, yielded, undef, *]
      · rfl
    dsimp only [nA, cA]
    first
    | apply RGW.on (i := 5) rfl
      · (simp only [gA, gB, gC] <;> rfl)
      · intro γ u W hcur hd
        obtain ⟨⟨h3, -, -⟩, -⟩ := hd
        dsimp only at h3
        (try simp only [h3])
        refine ⟨?_, ?_⟩
        · (simp [Region.wanted, yielded, undef, *]; done)
        go_simp <;> (try go_bits) <;> with_reducible rfl
      · exact fun _ _ _ => rfl
      · rfl
    | apply RGW.off (i := 5) rfl
      · (simp only [gA, gB, gC] <;> rfl)
      · intro γ u W hcur hd
        obtain ⟨⟨h3, -, -⟩, -⟩ := hd
        dsimp only at h3
        (try simp only [h3])
        simp [Region.wanted, yielded, undef, *]
      · rfl
    dsimp only [nA, cA]
    first
    | apply RGW.on (i := 6) rfl
      · (simp only [gA, gB, gC] <;> rfl)
      · intro γ u W hcur hd
        obtain ⟨⟨h3, -, -⟩, ⟨h4, -, -⟩, ⟨h5, -, -⟩, -⟩ := hd
        dsimp only at h3 h4 h5
        (try simp only [h3, h4, h5])
        refine ⟨?_, ?_⟩
        · (simp [Region.wanted, yielded, undef, *]; done)
        go_simp <;> (try go_bits) <;> with_reducible rfl
      · exact fun _ _ _ => rfl
      · rfl
    | apply RGW.off (i := 6) rfl
      · (simp only [gA, gB, gC] <;> rfl)
      · intro γ u W hcur hd
        obtain ⟨⟨h3, -, -⟩, ⟨h4, -, -⟩, ⟨h5, -, -⟩, -⟩ := hd
        dsimp only at h3 h4 h5
        (try simp only [h3, h4, h5])
        simp [Region.wanted, yielded, undef, *]
      · rfl
    dsimp only [nA, cA]
    apply RGW.on (i := 7) rfl
    · (simp only [gA, gB, gC] <;> rfl)
    · intro γ u W hcur hd
      obtain ⟨⟨h3, -, -⟩, ⟨h6, -, -⟩, -⟩ := hd
      dsimp only at h3 h6
      (try simp only [h3, h6])
      refine ⟨rfl, ?_⟩
      go_simp <;> (try go_bits) <;> with_reducible rfl
    · exact fun _ _ _ => rfl
    · rfl
    dsimp only [nA, cA]
    apply RGW.on (i := 8) rfl
    · (simp only [gA, gB, gC] <;> rfl)
    · intro γ u W hcur hd
      obtain ⟨⟨h7, -, -⟩, -⟩ := hd
      dsimp only at h7
      (try simp only [h7])
      refine ⟨rfl, ?_⟩
      go_simp <;> (try go_bits) <;> with_reducible rfl
    · exact fun _ _ _ => rfl
    · rfl
    dsimp only [nA, cA]
    first
    | apply RGW.on (i := 9) rfl
      · (simp only [gA, gB, gC] <;> rfl)
      · intro γ u W hcur hd
        obtain ⟨⟨h8, -, -⟩, -⟩ := hd
        dsimp only at h8
        (try simp only [h8])
        refine ⟨?_, ?_⟩
        · (simp [Region.wanted, yielded, undef, *]; done)
        go_simp <;> (try go_bits) <;> with_reducible rfl
      · exact fun _ _ _ => rfl
      · rfl
    | apply RGW.off (i := 9) rfl
      · (simp only [gA, gB, gC] <;> rfl)
      · intro γ u W hcur hd
        obtain ⟨⟨h8, -, -⟩, -⟩ := hd
        dsimp only at h8
        (try simp only [h8])
        simp [Region.wanted, yielded, undef, *]
      · rfl
    dsimp only [nA, cA]
    first
    | apply RGW.on (i := 10) rfl
      · (simp only [gA, gB, gC] <;> rfl)
      · intro γ u W hcur hd
        obtain ⟨⟨h8, -, -⟩, ⟨h9, -, -⟩, -⟩ := hd
        dsimp only at h8 h9
        (try simp only [h8, h9])
        refine ⟨?_, ?_⟩
        · (simp [Region.wanted, yielded, undef, *]; done)
        go_simp <;> (try go_bits) <;> with_reducible rfl
      · exact fun _ _ _ => rfl
      · rfl
    | apply RGW.off (i := 10) rfl
      · (simp only [gA, gB, gC] <;> rfl)
      · intro γ u W hcur hd
        obtain ⟨⟨h8, -, -⟩, ⟨h9, -, -⟩, -⟩ := hd
        dsimp only at h8 h9
        (try simp only [h8, h9])
        simp [Region.wanted, yielded, undef, *]
      · rfl
    dsimp only [nA, cA]
    first
    | apply RGW.on (i := 11) rfl
      · (simp only [gA, gB, gC] <;> rfl)
      · intro γ u W hcur hd
        obtain ⟨⟨h8, -, -⟩, ⟨h10, -, -⟩, -⟩ := hd
        dsimp only at h8 h10
        (try simp only [h8, h10])
        refine ⟨?_, ?_⟩
        · (simp [Region.wanted, yielded, undef, *]; done)
        go_simp <;> (try go_bits) <;> with_reducible rfl
      · exact fun _ _ _ => rfl
      · rfl
    | apply RGW.off (i := 11) rfl
      · (simp only [gA, gB, gC] <;> rfl)
      · intro γ u W hcur hd
        obtain ⟨⟨h8, -, -⟩, ⟨h10, -, -⟩, -⟩ := hd
        dsimp only at h8 h10
        (try simp only [h8, h10])
        simp [Region.wanted, yielded, undef, *]
      · rfl
    dsimp only [nA, cA]
    first
    | apply RGW.on (i := 12) rfl
      · (simp only [gA, gB, gC] <;> rfl)
      · intro γ u W hcur hd
        obtain ⟨⟨h11, -, -⟩, -⟩ := hd
        dsimp only at h11
        (try simp only [h11])
        refine ⟨?_, ?_⟩
        · (simp [Region.wanted, yielded, undef, *]; done)
        go_simp <;> (try go_bits) <;> with_reducible rfl
      · exact fun _ _ _ => rfl
      · rfl
    | apply RGW.off (i := 12) rfl
      · (simp only [gA, gB, gC] <;> rfl)
      · intro γ u W hcur hd
        obtain ⟨⟨h11, -, -⟩, -⟩ := hd
        dsimp only at h11
        (try simp only [h11])
        simp [Region.wanted, yielded, undef, *]
      · rfl
    dsimp only [nA, cA]
    first
    | apply RGW.on (i := 13) rfl
      · (simp only [gA, gB, gC] <;> rfl)
      · intro γ u W hcur hd
        obtain ⟨⟨h11, -, -⟩, -⟩ := hd
        dsimp only at h11
        (try simp only [h11])
        refine ⟨?_, ?_⟩
        · (simp [Region.wanted, yielded, undef, *]; done)
        go_simp <;> (try go_bits) <;> with_reducible rfl
      · exact fun _ _ _ => rfl
      · rfl
    | apply RGW.off (i := 13) rfl
      · (simp only [gA, gB, gC] <;> rfl)
      · intro γ u W hcur hd
        obtain ⟨⟨h11, -, -⟩, -⟩ := hd
        dsimp only at h11
        (try simp only [h11])
        simp [Region.wanted, yielded, undef, *]
      · rfl
    dsimp only [nA, cA]
    first
    | apply RGW.on (i := 14) rfl
      · (simp only [gA, gB, gC] <;> rfl)
      · intro γ u W hcur hd
        obtain ⟨⟨h11, -, -⟩, ⟨h12, -, -⟩, ⟨h13, -, -⟩, -⟩ := hd
        dsimp only at h11 h12 h13
        (try simp only [h11, h12, h13])
        refine ⟨?_, ?_⟩
        · (simp [Region.wanted, yielded, undef, *]; done)
        go_simp <;> (try go_bits) <;> with_reducible rfl
      · exact fun _ _ _ => rfl
      · rfl
    | apply RGW.off (i := 14) rfl
      · (simp only [gA, gB, gC] <;> rfl)
      · intro γ u W hcur hd
        obtain ⟨⟨h11, -, -⟩, ⟨h12, -, -⟩, ⟨h13, -, -⟩, -⟩ := hd
        dsimp only at h11 h12 h13
        (try simp only [h11, h12, h13])
        simp [Region.wanted, yielded, undef, *]
      · rfl
    dsimp only [nA, cA]
    first
    | apply RGW.on (i := 15) rfl
      · (simp only [gA, gB, gC] <;> rfl)
      · intro γ u W hcur hd
        obtain ⟨⟨h8, -, -⟩, ⟨h11, -, -⟩, ⟨h14, -, -⟩, -⟩ := hd
        dsimp only at h8 h11 h14
        (try simp only [h8, h11, h14])
        refine ⟨?_, ?_⟩
        · (simp [Region.wanted, yielded, undef, *]; done)
        go_simp <;> (try go_bits) <;> with_reducible rfl
      · exact fun _ _ _ => rfl
      · rfl
    | apply RGW.off (i := 15) rfl
      · (simp only [gA, gB, gC] <;> rfl)
      · intro γ u W hcur hd
        obtain ⟨⟨h8, -, -⟩, ⟨h11, -, -⟩, ⟨h14, -, -⟩, -⟩ := hd
        dsimp only at h8 h11 h14
        (try simp only [h8, h11, h14])
        simp [Region.wanted, yielded, undef, *]
      · rfl
    dsimp only [nA, cA]
    apply RGW.on (i := 16) rfl
    · (simp only [gA, gB, gC] <;> rfl)
    · intro γ u W hcur hd
      obtain ⟨⟨h8, -, -⟩, ⟨h15, -, -⟩, -⟩ := hd
      dsimp only at h8 h15
      (try simp only [h8, h15])
      refine ⟨rfl, ?_⟩
      go_simp <;> (try go_bits) <;> with_reducible rfl
    · exact fun _ _ _ => rfl
    · rfl
    dsimp only [nA, cA]
    apply RGW.on (i := 17) rfl
    · (simp only [gA, gB, gC] <;> rfl)
    · intro γ u W hcur hd
      obtain ⟨⟨h16, -, -⟩, -⟩ := hd
      dsimp only at h16
      (try simp only [h16])
      refine ⟨rfl, ?_⟩
      go_simp <;> (try go_bits) <;> with_reducible rfl
    · exact fun _ _ _ => rfl
    · rfl
    dsimp only [nA, cA]
    first
    | apply RGW.on (i := 18) rfl
      · (simp only [gA, gB, gC] <;> rfl)
      · intro γ u W hcur hd
        obtain ⟨⟨h17, -, -⟩, -⟩ := hd
        dsimp only at h17
        (try simp only [h17])
        refine ⟨?_, ?_⟩
        · (simp [Region.wanted, yielded, undef, *]; done)
        go_simp <;> (try go_bits) <;> with_reducible rfl
      · exact fun _ _ _ => rfl
      · rfl
    | apply RGW.off (i := 18) rfl
      · (simp only [gA, gB, gC] <;> rfl)
      · intro γ u W hcur hd
        obtain ⟨⟨h17, -, -⟩, -⟩ := hd
        dsimp only at h17
        (try simp only [h17])
        simp [Region.wanted, yielded, undef, *]
      · rfl
    dsimp only [nA, cA]
    first
    | apply RGW.on (i := 19) rfl
      · (simp only [gA, gB, gC] <;> rfl)
      · intro γ u W hcur hd
        obtain ⟨⟨h17, -, -⟩, ⟨h18, -, -⟩, -⟩ := hd
        dsimp only at h17 h18
        (try simp only [h17, h18])
        refine ⟨?_, ?_⟩
        · (simp [Region.wanted, yielded, undef, *]; done)
        go_simp <;> (try go_bits) <;> with_reducible rfl
      · exact fun _ _ _ => rfl
      · rfl
    | apply RGW.off (i := 19) rfl
      · (simp only [gA, gB, gC] <;> rfl)
      · intro γ u W hcur hd
        obtain ⟨⟨h17, -, -⟩, ⟨h18, -, -⟩, -⟩ := hd
        dsimp only at h17 h18
        (try simp only [h17, h18])
        simp [Region.wanted, yielded, undef, *]
      · rfl
    dsimp only [nA, cA]
    first
    | apply RGW.on (i := 20) rfl
      · (simp only [gA, gB, gC] <;> rfl)
      · intro γ u W hcur hd
        obtain ⟨⟨h17, -, -⟩, ⟨h19, -, -⟩, -⟩ := hd
        dsimp only at h17 h19
        (try simp only [h17, h19])
        refine ⟨?_, ?_⟩
        · (simp [Region.wanted, yielded, undef, *]; done)
        go_simp <;> (try go_bits) <;> with_reducible rfl
      · exact fun _ _ _ => rfl
      · rfl
    | apply RGW.off (i := 20) rfl
      · (simp only [gA, gB, gC] <;> rfl)
      · intro γ u W hcur hd
        obtain ⟨⟨h17, -, -⟩, ⟨h19, -, -⟩, -⟩ := hd
        dsimp only at h17 h19
        (try simp only [h17, h19])
        simp [Region.wanted, yielded, undef, *]
      · rfl
    dsimp only [nA, cA]
    first
    | apply RGW.on (i := 21) rfl
      · (simp only [gA, gB, gC] <;> rfl)
      · intro γ u W hcur hd
        obtain ⟨⟨h20, -, -⟩, -⟩ := hd
        dsimp only at h20
        (try simp only [h20])
        refine ⟨?_, ?_⟩
        · (simp [Region.wanted, yielded, undef, *]; done)
        go_simp <;> (try go_bits) <;> with_reducible rfl
      · exact fun _ _ _ => rfl
      · rfl
    | apply RGW.off (i := 21) rfl
      · (simp only [gA, gB, gC] <;> rfl)
      · intro γ u W hcur hd
        obtain ⟨⟨h20, -, -⟩, -⟩ := hd
        dsimp only at h20
        (try simp only [h20])
        simp [Region.wanted, yielded, undef, *]
      · rfl
    dsimp only [nA, cA]
    first
    | apply RGW.on (i := 22) rfl
      · (simp only [gA, gB, gC] <;> rfl)
      · intro γ u W hcur hd
        obtain ⟨⟨h20, -, -⟩, -⟩ := hd
        dsimp only at h20
        (try simp only [h20])
        refine ⟨?_, ?_⟩
        · (simp [Region.wanted, yielded, undef, *]; done)
        go_simp <;> (try go_bits) <;> with_reducible rfl
      · exact fun _ _ _ => rfl
      · rfl
    | apply RGW.off (i := 22) rfl
      · (simp only [gA, gB, gC] <;> rfl)
      · intro γ u W hcur hd
        obtain ⟨⟨h20, -, -⟩, -⟩ := hd
        dsimp only at h20
        (try simp only [h20])
        simp [Region.wanted, yielded, undef, *]
      · rfl
    dsimp only [nA, cA]
    first
    | apply RGW.call (i := 23) rfl
      · (simp only [gA, gB, gC] <;> rfl)
      · intro γ u W hcur hd
        obtain ⟨⟨h20, -, -⟩, ⟨h22, -, -⟩, -⟩ := hd
        dsimp only at h20 h22
        (try simp only [h20, h22])
        refine ⟨?_, fun K hK => ?_⟩
        · (simp [Region.wanted, yielded, undef, *]; done)
        go_simp
        fail
        (try dsimp only)
        exact hK.out _ _ rfl (by (with_reducible (repeat' (first | assumption | apply jA | apply jB | apply jC | apply jD | apply jE | apply jF | apply hb3 | omega | (simp; done) | (simp; omega) | (dsimp only; omega)))))
      · exact fun _ _ _ => rfl
      · rfl
    | apply RGW.off (i := 23) rfl
      · (simp only [gA, gB, gC] <;> rfl)
      · intro γ u W hcur hd
        obtain ⟨⟨h20, -, -⟩, ⟨h22, -, -⟩, -⟩ := hd
        dsimp only at h20 h22
        (try simp only [h20, h22])
        simp [Region.wanted, yielded, undef, *]
      · rfl
    dsimp only [nA, cA]
    first
    | apply RGW.on (i := 24) rfl
      · (simp only [gA, gB, gC] <;> rfl)
      · intro γ u W hcur hd
        obtain ⟨⟨h20, -, -⟩, ⟨h21, -, -⟩, ⟨h23, -, -⟩, -⟩ := hd
        dsimp only at h20 h21 h23
        (try simp only [h20, h21, h23])
        refine ⟨?_, ?_⟩
        · (simp [Region.wanted, yielded, undef, *]; done)
        go_simp <;> (try go_bits) <;> with_reducible rfl
      · exact fun _ _ _ => rfl
      · rfl
    | apply RGW.off (i := 24) rfl
      · (simp only [gA, gB, gC] <;> rfl)
      · intro γ u W hcur hd
        obtain ⟨⟨h20, -, -⟩, ⟨h21, -, -⟩, ⟨h23, -, -⟩, -⟩ := hd
        dsimp only at h20 h21 h23
        (try simp only [h20, h21, h23])
        simp [Region.wanted, yielded, undef, *]
      · rfl
    dsimp only [nA, cA]
    first
    | apply RGW.on (i := 25) rfl
      · (simp only [gA, gB, gC] <;> rfl)
      · intro γ u W hcur hd
        obtain ⟨⟨h17, -, -⟩, ⟨h20, -, -⟩, ⟨h24, -, -⟩, -⟩ := hd
        dsimp only at h17 h20 h24
        (try simp only [h17, h20, h24])
        refine ⟨?_, ?_⟩
        · (simp [Region.wanted, yielded, undef, *]; done)
        go_simp <;> (try go_bits) <;> with_reducible rfl
      · exact fun _ _ _ => rfl
      · rfl
    | apply RGW.off (i := 25) rfl
      · (simp only [gA, gB, gC] <;> rfl)
      · intro γ u W hcur hd
        obtain ⟨⟨h17, -, -⟩, ⟨h20, -, -⟩, ⟨h24, -, -⟩, -⟩ := hd
        dsimp only at h17 h20 h24
        (try simp only [h17, h20, h24])
        simp [Region.wanted, yielded, undef, *]
      · rfl
    dsimp only [nA, cA]
    apply RGW.on (i := 26) rfl
    · (simp only [gA, gB, gC] <;> rfl)
    · intro γ u W hcur hd
      obtain ⟨⟨h17, -, -⟩, ⟨h25, -, -⟩, -⟩ := hd
      dsimp only at h17 h25
      (try simp only [h17, h25])
      refine ⟨rfl, ?_⟩
      go_simp <;> (try go_bits) <;> with_reducible rfl
    · exact fun _ _ _ => rfl
    · rfl
    dsimp only [nA, cA]
    refine RGW.fin (fun γ u wt hwt hd hdis => ?_)
    obtain ⟨⟨h0, -, -⟩, ⟨h1, -, -⟩, ⟨h2, -, -⟩, ⟨h3, -, -⟩, ⟨h4, -, -⟩, ⟨h5, -, -⟩, ⟨h6, -, -⟩, ⟨h7, -, -⟩, ⟨h8, -, -⟩, ⟨h9, -, -⟩, ⟨h10, -, -⟩, ⟨h11, -, -⟩, ⟨h12, -, -⟩, ⟨h13, -, -⟩, ⟨h14, -, -⟩, ⟨h15, -, -⟩, ⟨h16, -, -⟩, ⟨h17, -, -⟩, ⟨h18, -, -⟩, ⟨h19, -, -⟩, ⟨h20, -, -⟩, ⟨h21, -, -⟩, ⟨h22, -, -⟩, ⟨h23, -, -⟩, ⟨h24, -, -⟩, ⟨h25, -, -⟩, ⟨h26, -, -⟩, -⟩ := hd
    dsimp only at h0 h1 h2 h3 h4 h5 h6 h7 h8 h9 h10 h11 h12 h13 h14 h15 h16 h17 h18 h19 h20 h21 h22 h23 h24 h25 h26
    clear hdis
    simp only [h0, h1, h2, h3, h4, h5, h6, h7, h8, h9, h10, h11, h12, h13, h14, h15, h16, h17, h18, h19, h20, h21, h22, h23, h24, h25, h26]
    clear h26 h25 h24 h23 h22 h21 h20 h19 h18 h17 h16 h15 h14 h13 h12 h11 h10 h9 h8 h7 h6 h5 h4 h3 h2 h1 h0
    clear u
    simp only [List.map_nil]
    refine PlanW.done ?_
    have hb3 := bl_tt hwt
    clear hfE' hd' hd2
    have hb0' := hb3 _ hb0
    replace k1 := k1.below hwt
    replace k3 := k3.below hwt
    clear Lk0 Lk1 Lk2 Lk3 Fk0 Fk1 Fk2 Fk3 hb0 hb3 k0 k2 hwt hfE
    have hb0 := hb0'
    clear hb0'
    have L1 := k1.cell
    go_wp2_with fail
    refine (hms.out _).mono ?_
    rintro e w10 ⟨rfl, hb1⟩
    replace hb0 := bl_tr hb0 hb1
    replace k3 := k3.below hb1
    clear hb1 hms L1 k1
    go_upto_region 13 with fail
    have hq3 := k3.lt
    first
    | apply absB2 (w0 := w) (g0 := w7.heap.size) (g1 := w10.heap.size)
    | apply absTB2 (w0 := w) (g0 := w7.heap.size) (g1 := w10.heap.size)
    | apply absIB2 (w0 := w) (g0 := w7.heap.size) (g1 := w10.heap.size)
    iterate 3 (focus ((with_reducible (repeat' (first | assumption | apply jA | apply jB | apply jC | apply jD | apply jE | apply jF | apply hb3 | apply jG | apply jH | apply jI | apply jJ | apply jK | apply hb3x | (apply jL; first | (simp; done) | rfl) | apply jM | apply jN | apply jO | apply jP | apply jQ | apply jR | apply jS | apply jT (hb := hb3 _ (jA _)) | omega | (simp; done) | (simp; omega) | (dsimp only; omega)))); done))
    intro w11 hb0' k3' k4'
    (try simp only [List.setIfInBounds_toArray, List.set_cons_zero, List.set_cons_succ] at k3' k4')
    try clear hb3
    try clear hb0
    try clear k3
    try clear k4
    have hb0 := hb0'; clear hb0'
    have k3 := k3'; clear k3'
    have k4 := k4'; clear k4'
    have L3 := k3.cell
    have L4 := k4.cell
    have hmE' := hmE.out
    clear hmE
    go_wp2_with fail
    clear hmE' L3 L4 k3 k4
    refine (hby.out _ hb0).mono ?_
    rintro e w12 ⟨rfl, hb1⟩
    replace hb0 := bl_tr hb0 hb1
    clear hb1 hby
    by_cases hE : E = 0
    · obtain ⟨e1, hbd⟩ := hr0.out hE
      injection e1 with e1 e2
      subst e1 e2 hE
      have hrr2 := Lib.hid (hrr.out hbd)
      clear hr0 hr1 hrr
      go_wp2_with fail
      refine (hrr2.out _ hb0).mono ?_
      rintro e w13 ⟨rfl, rfl⟩
      go_wp2
      go_ret
      exact ⟨by simp, hb0⟩
    · have e1 := hr1.out hE
      injection e1 with e1 e2
      subst e1 e2
      clear hr0 hr1 hrr
      go_wp2_with fail
      go_ret
      exact ⟨by simp, hb0⟩
end Go.Proofs.YtdlmkblmljhbfaaDoor
