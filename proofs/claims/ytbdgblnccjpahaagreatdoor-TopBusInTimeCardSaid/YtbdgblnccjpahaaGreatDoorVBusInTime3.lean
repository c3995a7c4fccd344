/-
  Walks: the error of a message, its frame.
  Walk: the frame of a message.
  Walk: whether two lists of numbers are equal.
  Walk: whether two lists of ranges are equal.
  Walks: the laws' own examples.
  Walks: the laws are awake.
  How the laws' arguments read: numbers, ranges, pairs; what the laid tables hold.
  How the laws' arguments read, continued: messages, frames, pairs, streams.
  What the library's variables hold, out of a row's condition.
  Walks: which streams are late; the worst responses.
  Plain laws: what the law on streams that are never late asks of responses and of what is carried.
  Plain law: the reference's messages, one list, and the sender's queues carry alike.
  Walk: the reference's names.
  Walk: a copy of numbers.
  Walk: what is wrong with the ticks that were heard, by the reference.
  Walks: streams by the reference: few, copied, valid.
-/
import Derived.Test.YtbdgblnccjpahaaGreatDoorUT6
import Derived.Laws.CopyOwn
import Derived.Test.YtbdgblnccjpahaaGreatDoorUT3
import Derived.Test.YtbdgblnccjpahaaGreatDoorVBusInTime2
import Derived.Test.YtbdgblnccjpahaaGreatDoorCards
import Derived.Test.YtbdgblnccjpahaaGreatDoorTie
import Derived.ProofKit
import Derived.Deep.Slices
import Derived.OpenShut
import Derived.ChangeOld
import Derived.Deep.DeepHandedRow
import Derived.Lib.LaidTab
import Derived.Lay
import Derived.LaidMore
import Derived.SevenTiedAt
import Derived.Test.YtbdgblnccjpahaaGreatDoorUT4
import Derived.Test.YtbdgblnccjpahaaGreatDoorUT2
import Derived.Test.YtbdgblnccjpahaaGreatDoorUT5
set_option linter.unusedSimpArgs false
set_option linter.unusedVariables false
namespace Go.Proofs.YtbdgblnccjpahaaGreatDoor
open Go.RowKit Go.Shelf
attribute [local go_sem] bl_al bl_drew bl_drewN bl_refl bx_al bx_drew bx_drewN bx_refl
set_option maxRecDepth 20000
/-- Numbers in the middle of a block. -/
theorem Blk.sub {w : World} {g off : Nat} {t : TypeId} {cs : Array Value} {l : List Int} (h : Blk w g t cs) (hl : ∀ k x, l[k]? = some x → cs[off + k]? = some (.int .i64 x)) : Sl cI 1 w (some ⟨g, off, none⟩) l := fun k x hx =>
  ⟨g, off, rfl, fun j v hv => by
    have hj : j = 0 := by
      have := (List.getElem?_eq_some_iff.1 hv).1
      simp [cI] at this; omega
    subst hj
    have hv' : v = .int .i64 x := by simpa [cI] using hv.symm
    subst hv'
    rw [h.cell]
    simpa using hl k x hx⟩
set_option maxHeartbeats 4000000 in
theorem c_CheckMessage (m : Ms) (w : World) : Calls Tryz.prog 77 #[vMs m] w (Ret (.int .i64 (msE m)) w) := by
  have hr : Hid (msE m = fstE [unl ((inR m.src 0 15 && inR m.kind 0 3) && byteB m.num) 2, bytesE [m.d0, m.d1, m.d2, m.d3]]) := rfl
  obtain ⟨m0, m1, m2, m3, m4, m5, m6⟩ := m
  dsimp only at hr
  cases hA : inR m0 0 15
  all_goals cases hB : inR m2 0 3
  all_goals
    rw [hA, hB] at hr
    simp only [Bool.false_and, Bool.true_and] at hr
    go_enter Tryz.func77, Tryz.ntmps77
    go_upto_region 2 with (first | (go_at_call 71; (with_reducible refine (c_within _ _ _ _).mono ?_); rintro e w3 ⟨rfl, rfl⟩) | (go_at_call 130; (with_reducible refine (c_isByte _ _).mono ?_); rintro e w3 ⟨rfl, rfl⟩))
    first
    | apply absB1 (w0 := w) (g0 := w.heap.size)
    | apply absTB1 (w0 := w) (g0 := w.heap.size)
    | apply absIB1 (w0 := w) (g0 := w.heap.size)
    iterate 2 (focus exact zL)
    try clear hb3
    try clear hb0
    try clear k0
    intro wa hb0 k0
    (try simp only [List.setIfInBounds_toArray, List.set_cons_zero, List.set_cons_succ] at k0)
    have Lk0 := k0.later
    have Fk0 := k0.laterF
    have Qk0 := k0.lt
    have hcb : Hid (∀ W : World, Below wa.heap.size wa W → Calls Tryz.prog 80 #[.slice (some ⟨w.heap.size, 3, none⟩) 4 4] W (Ret (.int .i64 (bytesE [m3, m4, m5, m6])) W)) := fun (W : World) (hb : Below wa.heap.size wa W) => c_bytesErr [m3, m4, m5, m6] (some ⟨w.heap.size, 3, none⟩) 4 W (by simp) ((k0.sub (l := [m3, m4, m5, m6]) (fun k x hx => by match k, hx with | 0, hx | 1, hx | 2, hx | 3, hx => simpa using hx)).below hb)
    refine wp_any (w0 := wa) ⟨[], [], [some 17, some 18, some 19, some 20, some 21, some 22, some 23, some 2], [[], [0], [], [2], [0, 1, 2, 3], [0, 1, 2, 3, 4], [0, 1, 2, 3, 4, 5], [0, 1, 2, 3, 4, 5, 6]], [[], [0], [], [2], [3], [1, 4], [5], [5, 6]]⟩ (fun _ => []) (by kernel_rfl) (by kernel_rfl) (by (exact zE)) (fun u => by simp only [putD, Act.put, List.setIfInBounds_toArray, List.set_cons_zero, List.set_cons_succ, Nat.zero_add, Nat.reduceAdd]; rfl) ?_
    apply RGW.on (i := 0) rfl
    · exact zG
    · intro γ u W hcur hd
      clear hd
      (try dsimp only)
      exact ⟨rfl, zS⟩
    · exact zC
    · rfl
    dsimp only [nA, cA]
    apply RGW.call (i := 1) rfl
    · exact zG
    · intro γ u W hcur hd
      obtain ⟨⟨h0, -, -⟩, -⟩ := hd
      dsimp only at h0
      (try simp only [h0])
      refine ⟨rfl, fun K hK => ?_⟩
      go_simp
      first
      | (go_at_call 58; (with_reducible refine (c_unless _ _ _).mono ?_); rintro e w3 ⟨rfl, rfl⟩)
      | (go_at_call 80; (with_reducible refine (hcb.out _ (by (exact zE))).mono ?_); rintro e w3 ⟨rfl, hb3⟩; replace hb3 := bl_tt hb3)
      | (go_at_call 74; (with_reducible refine (c_first2 (by (exact zK))).mono ?_); rintro e w3 ⟨rfl, rfl⟩)
      (try dsimp only)
      exact hK.out _ _ rfl (by (exact zE))
    · exact zC
    · rfl
    dsimp only [nA, cA]
    apply RGW.on (i := 2) rfl
    · exact zG
    · intro γ u W hcur hd
      clear hd
      (try dsimp only)
      exact ⟨rfl, zS⟩
    · exact zC
    · rfl
    dsimp only [nA, cA]
    apply RGW.on (i := 3) rfl
    · exact zG
    · intro γ u W hcur hd
      obtain ⟨⟨h2, -, -⟩, -⟩ := hd
      dsimp only at h2
      (try simp only [h2])
      exact ⟨rfl, zS⟩
    · exact zC
    · rfl
    dsimp only [nA, cA]
    apply RGW.call (i := 4) rfl
    · exact zG
    · intro γ u W hcur hd
      obtain ⟨⟨h3, -, -⟩, -⟩ := hd
      dsimp only at h3
      (try simp only [h3])
      refine ⟨rfl, fun K hK => ?_⟩
      go_simp
      first
      | (go_at_call 58; (with_reducible refine (c_unless _ _ _).mono ?_); rintro e w3 ⟨rfl, rfl⟩)
      | (go_at_call 80; (with_reducible refine (hcb.out _ (by (exact zE))).mono ?_); rintro e w3 ⟨rfl, hb3⟩; replace hb3 := bl_tt hb3)
      | (go_at_call 74; (with_reducible refine (c_first2 (by (exact zK))).mono ?_); rintro e w3 ⟨rfl, rfl⟩)
      (try dsimp only)
      exact hK.out _ _ rfl (by (exact zE))
    · exact zC
    · rfl
    dsimp only [nA, cA]
    apply RGW.bslice (i := 5) rfl
    · exact zG
    · intro γ u W hcur hd
      obtain ⟨⟨h1, -, -⟩, ⟨h4, -, -⟩, -⟩ := hd
      dsimp only at h1 h4
      (try simp only [h1, h4])
      refine ⟨rfl, fun K hK => ?_⟩
      go_simp
      exact hK.out _ _ rfl rfl
    · exact zC
    · rfl
    · rfl
    dsimp only [nA, cA]
    apply RGW.call (i := 6) rfl
    · exact zG
    · intro γ u W hcur hd
      obtain ⟨⟨h5, r5, -⟩, -⟩ := hd
      dsimp only at h5 r5
      have L5 := r5.cell
      (try simp only [h5])
      refine ⟨rfl, fun K hK => ?_⟩
      go_simp
      first
      | (go_at_call 58; (with_reducible refine (c_unless _ _ _).mono ?_); rintro e w3 ⟨rfl, rfl⟩)
      | (go_at_call 80; (with_reducible refine (hcb.out _ (by (exact zE))).mono ?_); rintro e w3 ⟨rfl, hb3⟩; replace hb3 := bl_tt hb3)
      | (go_at_call 74; (with_reducible refine (c_first2 (by (exact zK))).mono ?_); rintro e w3 ⟨rfl, rfl⟩)
      (try dsimp only)
      exact hK.out _ _ rfl (by (exact zE))
    · first
      | exact zC
      | intro γ γ' hg
        try dsimp only
        have e5 := hg 5 (by decide)
        simp only [e5]
    · rfl
    dsimp only [nA, cA]
    apply RGW.on (i := 7) rfl
    · exact zG
    · intro γ u W hcur hd
      obtain ⟨⟨h5, r5, -⟩, ⟨h6, -, -⟩, -⟩ := hd
      dsimp only at h5 h6 r5
      have L5 := r5.cell
      (try simp only [h5, h6])
      exact ⟨rfl, zS⟩
    · first
      | exact zC
      | intro γ γ' hg
        try dsimp only
        have e5 := hg 5 (by decide)
        simp only [e5]
    · rfl
    dsimp only [nA, cA]
    refine RGW.fin (fun γ u wb hwb hd hdis => ?_)
    obtain ⟨⟨h0, -, -⟩, ⟨h1, -, -⟩, ⟨h2, -, -⟩, ⟨h3, -, -⟩, ⟨h4, -, -⟩, ⟨h5, r5, b5⟩, ⟨h6, -, -⟩, ⟨h7, -, -⟩, -⟩ := hd
    dsimp only at h0 h1 h2 h3 h4 h5 h6 h7 r5 b5
    clear hdis
    simp only [h0, h1, h2, h3, h4, h5, h6, h7]
    clear h7 h6 h5 h4 h3 h2 h1 h0
    replace b5 := b5 _ (List.mem_singleton.2 rfl)
    generalize hγ5 : (γ 5).n = g5 at *
    clear hγ5
    clear u
    simp only [List.map_nil]
    refine PlanW.done ?_
    have hb3 := bl_tt hwb
    go_wp2
    go_ret
    exact ⟨by rw [hr.out] <;> rfl, by (exact zE)⟩
end Go.Proofs.YtbdgblnccjpahaaGreatDoor
namespace Go.Proofs.YtbdgblnccjpahaaGreatDoor
open Go.RowKit Go.Shelf
attribute [local go_sem] bl_al bl_drew bl_drewN bl_refl bx_al bx_drew bx_drewN bx_refl
set_option maxRecDepth 20000
theorem ms_ok {m : Ms} (h : msE m = 0) : ∀ n ∈ [m.src, m.num, m.kind, m.d0, m.d1, m.d2, m.d3], 0 ≤ n ∧ n ≤ 255 := by
  unfold msE at h
  simp only [fst_cons] at h
  obtain ⟨h1, h2, -⟩ := h
  rw [unl_zero (by decide)] at h1
  simp only [Bool.and_eq_true, byteB, inR_iff] at h1
  have hd := bytes_ok h2
  simp only [List.mem_cons, List.not_mem_nil, or_false, forall_eq_or_imp, forall_eq] at hd ⊢
  omega
set_option maxHeartbeats 4000000 in
theorem c_Encoded (m : Ms) (w : World) : Calls Tryz.prog 25 #[vMs m] w (Ret (.tuple #[vFr (encS m).1, .int .i64 (encS m).2]) w) := by
  have hcm := Lib.hid fun (W : World) => c_CheckMessage m W
  have h1 : Hid (msE m ≠ 0 → encS m = (fr0, msE m)) := fun h => by rw [encS, if_neg h]
  have h2 : Hid (msE m = 0 → encS m = (frameOf m, 0)) := fun h => by rw [encS, if_pos h]
  have hb := Lib.hid fun h : msE m = 0 => ms_ok h
  have hfr : Hid (frameOf m = ⟨m.src, m.num, m.kind, m.d0, m.d1, m.d2, m.d3, remI [m.src, m.num, m.kind, m.d0, m.d1, m.d2, m.d3]⟩) := rfl
  go_enter Tryz.func25, Tryz.ntmps25
  go_wp2_with fail
  refine (hcm.out _).mono ?_
  rintro e w3 ⟨rfl, hb3⟩
  replace hb3 := bl_tt hb3
  apply absX2 (w0 := w) (w := w3) (g0 := w.heap.size) (g1 := w.heap.size + 1)
  iterate 3 (focus exact zL)
  try clear hb3
  try clear hb0
  try clear k0
  try clear k1
  intro wa hb0 k0 k1
  (try simp only [List.setIfInBounds_toArray, List.set_cons_zero, List.set_cons_succ] at k0 k1)
  have Lk0 := k0.later
  have Fk0 := k0.laterF
  have Qk0 := k0.lt
  have Lk1 := k1.later
  have Fk1 := k1.laterF
  have Qk1 := k1.lt
  have hq1 := k1.lt
  clear hcm
  by_cases h0 : msE m = 0
  · have h0' : (msE m != 0) = false := by simp [h0]
    have hs := Lib.hid (h2.out h0)
    have hbd := Lib.hid (hb.out h0)
    replace h0 := Lib.hid h0
    clear h1 h2 hb
    go_upto_region 5 with fail
    first
    | apply absB3 (w0 := w) (g0 := w.heap.size) (g1 := w.heap.size + 1) (g2 := wa.heap.size)
    | apply absTB3 (w0 := w) (g0 := w.heap.size) (g1 := w.heap.size + 1) (g2 := wa.heap.size)
    | apply absIB3 (w0 := w) (g0 := w.heap.size) (g1 := w.heap.size + 1) (g2 := wa.heap.size)
    iterate 4 (focus exact zL)
    try clear hb3
    try clear Lk0
    try clear Fk0
    try clear Qk0
    try clear Lk1
    try clear Fk1
    try clear Qk1
    try clear hb0
    try clear k0
    try clear k1
    try clear k2
    intro wb hb0 k0 k1 k2
    (try simp only [List.setIfInBounds_toArray, List.set_cons_zero, List.set_cons_succ] at k0 k1 k2)
    have Lk0 := k0.later
    have Fk0 := k0.laterF
    have Qk0 := k0.lt
    have Lk1 := k1.later
    have Fk1 := k1.laterF
    have Qk1 := k1.lt
    have Lk2 := k2.later
    have Fk2 := k2.laterF
    have Qk2 := k2.lt
    have hcp := run_copy_row (P := Tryz.prog) wb.drew 23 23 3 3 wa.heap.size 3 4 5 ⟨w.heap.size, 3, none⟩ 4 4 _ _ [.int .i64 m.d0, .int .i64 m.d1, .int .i64 m.d2, .int .i64 m.d3] Tryz.underlying23 (by kernel_rfl) (Blk.drew k2) rfl
      (fun j v hj => by
        have hc := (Blk.drew k0).cell
        match j, hj with
        | 0, hj | 1, hj | 2, hj | 3, hj =>
          simp only [List.getElem?_cons_zero, List.getElem?_cons_succ] at hj
          rw [← hj, Go.WideShapes.add_plain, hc]
          rfl) (by simp) (by simp [Value.oneCell'])
    simp only [List.take, List.drop, List.length_cons, List.length_nil, List.cons_append, List.nil_append, Nat.reduceAdd] at hcp
    go_region
    clear hcp
    have k2' := Blk.row (Blk.drew k2) #[.int .i64 m.src, .int .i64 m.num, .int .i64 m.kind, .int .i64 m.d0, .int .i64 m.d1, .int .i64 m.d2, .int .i64 m.d3, .int .i64 0]
    have hbr : Below w.heap.size w (wb.drew.setRow wa.heap.size #[.int .i64 m.src, .int .i64 m.num, .int .i64 m.kind, .int .i64 m.d0, .int .i64 m.d1, .int .i64 m.d2, .int .i64 m.d3, .int .i64 0]) := below_setRow (bl_drew hb0) (by omega) _
    have k1' := Blk.rowOther (Blk.drew k1) (show w.heap.size + 1 ≠ wa.heap.size by omega) #[.int .i64 m.src, .int .i64 m.num, .int .i64 m.kind, .int .i64 m.d0, .int .i64 m.d1, .int .i64 m.d2, .int .i64 m.d3, .int .i64 0]
    generalize wb.drew.setRow wa.heap.size _ = wc at *
    clear Lk0 Lk1 Lk2 Fk0 Fk1 Fk2 hb0 k0 k1 k2
    apply absX2 (w0 := w) (w := wc) (g0 := w.heap.size + 1) (g1 := wa.heap.size)
    iterate 3 (focus exact zL)
    try clear hb3
    try clear hb0
    try clear k1'
    try clear k2'
    intro wd hb0 k1' k2'
    (try simp only [List.setIfInBounds_toArray, List.set_cons_zero, List.set_cons_succ] at k1' k2')
    have Lk1' := k1'.later
    have Fk1' := k1'.laterF
    have Qk1' := k1'.lt
    have Lk2' := k2'.later
    have Fk2' := k2'.laterF
    have Qk2' := k2'.lt
    have hrm : Hid (Calls Tryz.prog 78 #[.slice (some ⟨wa.heap.size, 0, none⟩) 7 8] wd (Same (.int .i64 (remI [m.src, m.num, m.kind, m.d0, m.d1, m.d2, m.d3] : Nat)) wd)) :=
      c_remainder [m.src, m.num, m.kind, m.d0, m.d1, m.d2, m.d3] (some ⟨wa.heap.size, 0, none⟩) 8 wd (by simp) hbd.out (k2'.sub (l := [m.src, m.num, m.kind, m.d0, m.d1, m.d2, m.d3]) (fun k x hx => by match k, hx with | 0, hx | 1, hx | 2, hx | 3, hx | 4, hx | 5, hx | 6, hx => simpa using hx))
    go_wp2_with (go_at_call 78; (with_reducible refine hrm.out.mono ?_); rintro e w4 ⟨rfl, rfl⟩)
    first
    | apply absPB2 (w0 := w) (g0 := w.heap.size + 1) (g1 := wa.heap.size)
    | apply absPMB2 (w0 := w) (g0 := w.heap.size + 1) (g1 := wa.heap.size)
    iterate 3 (focus exact zL)
    try clear hb3
    try clear Lk1'
    try clear Fk1'
    try clear Qk1'
    try clear Lk2'
    try clear Fk2'
    try clear Qk2'
    try clear hb0
    try clear k1'
    try clear k2'
    intro wz hb0 k1' k2'
    (try simp only [List.setIfInBounds_toArray, List.set_cons_zero, List.set_cons_succ] at k1' k2')
    have hr := k1'.cell
    exact bodyPost_ret (v := .tuple #[vFr (frameOf m), .int .i64 0]) (by simp [results, Tryz.results25, go_sem, hr, hfr.out]) rfl ⟨by rw [hs.out] <;> rfl, hb0⟩
  · have h0' : (msE m != 0) = true := by simp [h0]
    have hs := Lib.hid (h1.out h0)
    replace h0 := Lib.hid h0
    clear h1 h2 hb
    go_wp2
    first
    | apply absPB1 (w0 := w) (g0 := w.heap.size + 1)
    | apply absPMB1 (w0 := w) (g0 := w.heap.size + 1)
    iterate 2 (focus exact zL)
    try clear hb3
    try clear hb0
    try clear k1
    intro wz hb0 k1
    (try simp only [List.setIfInBounds_toArray, List.set_cons_zero, List.set_cons_succ] at k1)
    have hr := k1.cell
    exact bodyPost_ret (v := .tuple #[vFr fr0, .int .i64 (msE m)]) (by simp [results, Tryz.results25, go_sem, hr, fr0]) rfl ⟨by rw [hs.out] <;> rfl, hb0⟩
end Go.Proofs.YtbdgblnccjpahaaGreatDoor
namespace Go.Proofs.YtbdgblnccjpahaaGreatDoor
open Go.RowKit
attribute [local go_sem] bl_al bl_drew bl_drewN bl_refl bx_al bx_drew bx_drewN bx_refl
set_option maxRecDepth 20000
end Go.Proofs.YtbdgblnccjpahaaGreatDoor
namespace Go.Proofs.YtbdgblnccjpahaaGreatDoor
open Go.RowKit
attribute [local go_sem] bl_al bl_drew bl_drewN bl_refl bx_al bx_drew bx_drewN bx_refl
set_option maxRecDepth 20000
end Go.Proofs.YtbdgblnccjpahaaGreatDoor
namespace Go.Proofs.YtbdgblnccjpahaaGreatDoor
open Go.RowKit Go.Shelf
attribute [local go_sem] bl_al bl_drew bl_drewN bl_refl bx_al bx_drew bx_drewN bx_refl
set_option maxRecDepth 20000
def sms0 : List Sm := [⟨⟨#[97]⟩, 4, 4, 1⟩, ⟨⟨#[98]⟩, 6, 6, 2⟩, ⟨⟨#[99]⟩, 12, 12, 3⟩]
theorem ev_enc : encS ⟨0, 0, 0, 0, 0, 1, 0⟩ = (⟨0, 0, 0, 0, 0, 1, 0, 21⟩, 0) := by kernel_rfl
theorem ev_resp : respOf sms0 2 = (10, 0) := by kernel_rfl
theorem r_Streams (w : World) : Calls Tryz.prog 55 #[] w (fun e w' => e = .returned (.slice (some ⟨w.heap.size, 0, none⟩) 3 3) ∧ Below w.heap.size w w' ∧ SmIn sms0 (some ⟨w.heap.size, 0, none⟩) 3 w') := by
  go_enter Tryz.func55, Tryz.ntmps55
  go_wp2
  go_ret
  refine ⟨rfl, bl_al _ (bl_refl w), by decide, by decide, fun s hs => ?_, Blk.slC (cs := cSm) (l := sms0) (fun _ => rfl) (Blk.new w _ _)⟩
  have : s.name.size = 1 := by
    simp [sms0] at hs
    rcases hs with rfl | rfl | rfl <;> rfl
  rw [this]
  unfold maxLen
  omega
end Go.Proofs.YtbdgblnccjpahaaGreatDoor
namespace Go.Proofs.YtbdgblnccjpahaaGreatDoor
open Go.RowKit Go.Shelf
attribute [local go_sem] bl_al bl_drew bl_drewN bl_refl bx_al bx_drew bx_drewN bx_refl
set_option maxRecDepth 20000
end Go.Proofs.YtbdgblnccjpahaaGreatDoor
namespace Go.Proofs.YtbdgblnccjpahaaGreatDoor
open Go.ChangeShapes Go.WideShapes Go.ChangeAt Go.RowKit Go.Deep
set_option maxRecDepth 20000
theorem own : ownKnob Tryz.prog.godebug = none := by kernel_rfl
theorem laidOut : laidOutB Tryz.prog = true := by kernel_rfl
theorem len4 {α : Type} {l : List α} (h : l.length = 4) : ∃ a b c d, l = [a, b, c, d] := by
  match l, h with
  | [a, b, c, d], _ => exact ⟨a, b, c, d, rfl⟩
section
variable {H : Type} {enc : TypeId × Value → H} {w : World} {base : Nat} {spare : Nat → Bool} {held : Bool} {fuel : Nat} {cs : List Value} {y : DataW H × List MemPlace}
theorem ci : Tryz.prog.cellsOf 3 = 1 := by kernel_rfl
theorem cS1 : Tryz.prog.cellsOf 9 = 1 := by kernel_rfl
theorem rd_int (h : DataW.trod enc Tryz.prog w base spare held fuel 3 cs = some y) : ∃ x, cs = [.int .i64 x] := by
  obtain ⟨x, e, -⟩ := DataW.trod_int Tryz.underlying3 h
  exact ⟨x, e⟩
theorem choose_list {α : Type} {p : Nat → α → Prop} : ∀ n, (∀ i, i < n → ∃ x, p i x) → ∃ l : List α, l.length = n ∧ ∀ (i : Nat) (x : α), l[i]? = some x → p i x
  | 0, _ => ⟨[], rfl, fun i x h => by simp at h⟩
  | n + 1, h => by
    obtain ⟨l, h1, h2⟩ := choose_list n fun i hi => h i (by omega)
    obtain ⟨x, hx⟩ := h n (by omega)
    refine ⟨l ++ [x], by simp [h1], fun i y hy => ?_⟩
    rw [List.getElem?_append] at hy
    split at hy
    · exact h2 i y hy
    · rename_i hi
      have : i = n := by
        have := (List.getElem?_eq_some_iff.1 hy).1
        simp at this
        omega
      subst this
      simp [h1] at hy
      exact hy ▸ hx
/-- A slice that came in, of elements that are so many cells each. -/
theorem rd_slice {α : Type} {c : α → List Value} {ok : α → Prop} {t e sz : Nat} (hu : Tryz.prog.underlying t = some (.slice e)) (hsz : Tryz.prog.cellsOf e = sz) (h0 : 0 < sz) (hcl : ∀ x, (c x).length = sz)
    (hr : ∀ (n : Nat) (cs' : List Value) (z : DataW H × List MemPlace), DataW.trod enc Tryz.prog w base spare held n e cs' = some z → ∃ x, cs' = c x ∧ ok x)
    (h : DataW.trod enc Tryz.prog w base spare held fuel t cs = some y) : ∃ A cap, ∃ l : List α, cs = [.slice A l.length cap] ∧ l.length ≤ cap ∧ cap ≤ maxLen ∧ Sl c sz w A l ∧ ∀ x ∈ l, ok x := by
  rcases open_slice hu h with ⟨rfl, -⟩ | ⟨a, len, cap, m, n, D, Pl, rfl, -, hlc, hcm, hm, -, hel⟩
  · exact ⟨none, 0, [], rfl, Nat.le_refl _, Nat.zero_le _, Sl.nil, fun x hx => by cases hx⟩
  · have hlm : len ≤ m := by rw [hm]; split <;> omega
    obtain ⟨l, hl, hx⟩ := choose_list (p := fun i x => w.cells? base (a.add (i * sz)) sz = some (c x) ∧ ok x) len fun i hi => by
      obtain ⟨cs', h1, h2⟩ := hel i (by omega)
      obtain ⟨x, rfl, hk⟩ := hr _ _ _ h2
      rw [hsz] at h1
      exact ⟨x, h1, hk⟩
    refine ⟨some a, cap, l, by rw [hl], by omega, hcm, fun k x hk => ?_, fun x hm => ?_⟩
    · obtain ⟨h1, -⟩ := hx k x hk
      obtain ⟨-, -, h2⟩ := World.cells?_some h1
      have hcell : ∀ j v, (c x)[j]? = some v → w.cell? ((a.add (k * sz)).add j) = some v := fun j v hv => by
        have hj := (List.getElem?_eq_some_iff.1 hv).1
        have := h2 j (by rw [hcl] at hj; exact hj)
        rw [this]
        exact hv
      obtain ⟨b, off, spot⟩ := a
      have hs : spot = none := by
        have hlt : 0 < l.length := by have := (List.getElem?_eq_some_iff.1 hk).1; omega
        obtain ⟨x0, hx0⟩ : ∃ x0, l[0]? = some x0 := ⟨l[0], by simp⟩
        obtain ⟨h1', -⟩ := hx 0 x0 hx0
        obtain ⟨-, -, h2'⟩ := World.cells?_some h1'
        have hv : ∃ v, (c x0)[0]? = some v := ⟨(c x0)[0]'(by rw [hcl]; exact h0), by simp⟩
        obtain ⟨v, hv⟩ := hv
        have := h2' 0 h0
        rw [hv] at this
        simp only [Nat.zero_mul, Addr.add, if_true] at this
        exact World.cell?_spot this
      subst hs
      refine ⟨b, off, rfl, fun j v hv => ?_⟩
      have := hcell j v hv
      rw [Go.WideShapes.add_plain, Go.WideShapes.add_plain] at this
      exact this
    · obtain ⟨i, hi, rfl⟩ := List.getElem_of_mem hm
      exact (hx i _ (List.getElem?_eq_getElem hi)).2
/-- A slice of integers that came in. -/
theorem rd_Is (h : DataW.trod enc Tryz.prog w base spare held fuel 23 cs = some y) : ∃ A c, ∃ l : List Int, cs = [.slice A l.length c] ∧ l.length ≤ c ∧ c ≤ maxLen ∧ Sl cI 1 w A l := by
  obtain ⟨A, c, l, e, h1, h2, h3, -⟩ := rd_slice (c := cI) (ok := fun _ : Int => True) Tryz.underlying23 ci (by decide) (fun _ => rfl) (fun _ _ _ hz => (rd_int hz).imp fun _ e => ⟨e, trivial⟩) h
  exact ⟨A, c, l, e, h1, h2, h3⟩
end
theorem slice_of {P : Program} {W : World} {base : Nat} {t e : TypeId} {v : Value} (hu : P.underlying t = some (.slice e)) (h : Value.okWide P W .any base t v) : ∃ a m k, v = .slice a m k := by
  unfold Value.okWide at h
  simp only [hu] at h
  cases v with
  | slice a m k => exact ⟨a, m, k, rfl⟩
  | _ => simp [Cell.okWide, Cell.ok, hu] at h
theorem int_of {P : Program} {W : World} {base : Nat} {t : TypeId} {v : Value} (hu : P.underlying t = some (.int .i64)) (h : Value.okWide P W .any base t v) : ∃ n, v = .int .i64 n := by
  unfold Value.okWide at h
  simp only [hu] at h
  cases v with
  | int k n =>
    simp [Cell.okWide, Cell.ok, hu] at h
    obtain ⟨rfl, -⟩ := h
    exact ⟨n, rfl⟩
  | _ => simp [Cell.okWide, Cell.ok, hu] at h
theorem one_cell {v u : Value} (g : v.cells.toList = [u]) (hv : v.cells = #[v] := by rfl) : v = u := by
  rw [hv] at g
  simpa using g
end Go.Proofs.YtbdgblnccjpahaaGreatDoor
namespace Go.Proofs.YtbdgblnccjpahaaGreatDoor
open Go.ChangeShapes Go.WideShapes Go.ChangeAt Go.RowKit Go.Deep
set_option maxRecDepth 20000
theorem cSm4 : Tryz.prog.cellsOf 43 = 4 := by kernel_rfl
section
variable {H : Type} {enc : TypeId × Value → H} {w : World} {base : Nat} {spare : Nat → Bool} {held : Bool} {fuel : Nat} {cs : List Value} {y : DataW H × List MemPlace}
theorem rd_Sm (h : DataW.trod enc Tryz.prog w base spare held fuel 43 cs = some y) : ∃ s : Sm, cs = cSm s ∧ s.name.size ≤ maxLen := by
  obtain ⟨xs, n, -, -, hl, hlen, hf⟩ := DataW.trod_struct Tryz.underlying43 h
  rw [cSm4] at hl
  obtain ⟨c0, c1, c2, c3, rfl⟩ := len4 hl
  obtain ⟨x0, x1, x2, x3, rfl⟩ := len4 (show xs.length = 4 from hlen)
  have h0 := hf 0 _ rfl
  have h1 := hf 1 _ rfl
  have h2 := hf 2 _ rfl
  have h3 := hf 3 _ rfl
  simp [ci, cS1] at h0 h1 h2 h3
  obtain ⟨s, e0, -, hs⟩ := DataW.trod_string Tryz.underlying9 h0
  obtain ⟨a, e1⟩ := rd_int h1
  obtain ⟨b, e2⟩ := rd_int h2
  obtain ⟨c, e3⟩ := rd_int h3
  simp at e0 e1 e2 e3
  exact ⟨⟨s, a, b, c⟩, by rw [e0, e1, e2, e3]; rfl, hs⟩
theorem rd_Sms (h : DataW.trod enc Tryz.prog w base spare held fuel 22 cs = some y) : ∃ A c, ∃ l : List Sm, cs = [.slice A l.length c] ∧ l.length ≤ c ∧ c ≤ maxLen ∧ Sl cSm 4 w A l ∧ ∀ s ∈ l, s.name.size ≤ maxLen :=
  rd_slice (c := cSm) (ok := fun s : Sm => s.name.size ≤ maxLen) Tryz.underlying22 cSm4 (by decide) (fun _ => rfl) (fun _ _ _ hz => rd_Sm hz) h
end
end Go.Proofs.YtbdgblnccjpahaaGreatDoor
namespace Go.Proofs.YtbdgblnccjpahaaGreatDoor
open Go.ChangeShapes Go.WideShapes Go.ChangeAt Go.RowKit Go.Deep
set_option maxRecDepth 20000
/-- What the library's variables hold, out of the row's condition. -/
theorem env_of {W : World} (h : laidMetH Tryz.prog Rows.busStringsRow.laid W) : Env W := by
  rw [MakeChecks.laidMetH_plain _ _ _ (by kernel_rfl)] at h
  obtain ⟨ps, ⟨g0, t0, cs0, f0, p0, q0, hg0, ht0, hv0, hd0, ⟨g1, t1, cs1, f1, p1, q1, hg1, ht1, hv1, hd1, ⟨g2, t2, cs2, f2, p2, q2, hg2, ht2, hv2, hd2, ⟨g3, t3, cs3, f3, p3, q3, hg3, ht3, hv3, hd3, ⟨g4, t4, cs4, f4, p4, q4, hg4, ht4, hv4, hd4, ⟨g5, t5, cs5, f5, p5, q5, hg5, ht5, hv5, hd5, _, _⟩, _⟩, _⟩, _⟩, _⟩, _⟩, _, _⟩ := h
  have hT : Tab W := by
    obtain rfl := Option.some.inj ((show Tryz.prog.globalNamed "math/bits.deBruijn64tab" = some 2 by kernel_rfl).symm.trans hg1)
    obtain rfl := Option.some.inj ((show (Tryz.prog.globals[2 ]?).map (·.type) = some 260 by kernel_rfl).symm.trans ht1)
    have hlaid : (Rows.laid_math_bits_deBruijn64tab : DataW Unit) = Lib.tabData .u8 (Lib.deBruijn64tab.map fun n : Nat => (n : Int)) := rfl
    rw [hlaid] at hd1
    have hc := Lib.cells_of_tab Tryz.underlying260 Tryz.underlying5 (by kernel_rfl) (by kernel_rfl) hd1
    intro j hj
    have hlen : Lib.deBruijn64tab.length = 64 := by kernel_rfl
    have h1 := World.var?_cell (show Tryz.prog.globalNamed "math/bits.deBruijn64tab" = some 2 by kernel_rfl) hv1 j
    have h2 : cs1.toList[j]? = some (.int .u8 ((Lib.deBruijn64tab.getD j 0 : Nat) : Int)) := by
      rw [hc]
      simp [List.getD, List.getElem?_eq_getElem (show j < Lib.deBruijn64tab.length by omega)]
    rw [h1]
    simpa using h2
  refine ⟨hT, ?_, ?_, ?_⟩
  · have e5 : t5 = 190 := by
      have h := (show (Tryz.prog.globalNamed "strconv.ErrSyntax").bind (fun g => (Tryz.prog.globals[g]?).map (·.type)) = some 190 by kernel_rfl)
      rw [hg5] at h
      exact Option.some.inj (ht5.symm.trans h)
    subst e5
    obtain ⟨f', u, v, e, -, -⟩ := iface_of_trod Tryz.underlying190 hd5
    exact ⟨u, v, by rw [hv5]; congr 1; apply Array.toList_inj.1; exact e⟩
  · have e4 : t4 = 190 := by
      have h := (show (Tryz.prog.globalNamed "strconv.ErrRange").bind (fun g => (Tryz.prog.globals[g]?).map (·.type)) = some 190 by kernel_rfl)
      rw [hg4] at h
      exact Option.some.inj (ht4.symm.trans h)
    subst e4
    obtain ⟨f', u, v, e, -, -⟩ := iface_of_trod Tryz.underlying190 hd4
    exact ⟨u, v, by rw [hv4]; congr 1; apply Array.toList_inj.1; exact e⟩
  · have e2 : t2 = 284 := by
      have h := (show (Tryz.prog.globalNamed "internal/strconv.uint64pow10").bind (fun g => (Tryz.prog.globals[g]?).map (·.type)) = some 284 by kernel_rfl)
      rw [hg2] at h
      exact Option.some.inj (ht2.symm.trans h)
    subst e2
    have hlaid : (Rows.laid_internal_strconv_uint64pow10 : DataW Unit) = Lib.tabData .u64 Lib.pow10Tab := rfl
    rw [hlaid] at hd2
    have hc := Lib.cells_of_tab Tryz.underlying284 Tryz.underlying242 (by kernel_rfl) (by kernel_rfl) hd2
    unfold Lib.TabIs
    rw [hv2, ← hc]
end Go.Proofs.YtbdgblnccjpahaaGreatDoor
namespace Go.Proofs.YtbdgblnccjpahaaGreatDoor
open Go.RowKit Go.Shelf
attribute [local go_sem] bl_al bl_drew bl_drewN bl_refl bx_al bx_drew bx_drewN bx_refl
set_option maxRecDepth 20000
/-- Whether a stream is late behind others. -/
def lateB (b : List Sm) (s : Sm) : Bool := !(respV (respS b s)).2 || decide (s.dl < (respV (respS b s)).1)
def lateAt (l : List Sm) (i : Nat) : Bool := match l[i]? with
  | some s => lateB (l.take i) s
  | none => false
def lateK (l : List Sm) : Nat → List Int
  | 0 => []
  | k + 1 => lateK l k ++ if lateAt l k then [(k : Int)] else []
theorem lateK_len (l : List Sm) : ∀ k, (lateK l k).length ≤ k
  | 0 => Nat.le_refl 0
  | k + 1 => by
    have := lateK_len l k
    rw [lateK, List.length_append]
    split <;> simp <;> omega
theorem c_isLate (l : List Sm) (s : Sm) (A : Option Addr) (c : Nat) (w : World) (hs : Sl cSm 4 w A l) (hl : l.length ≤ 1000) (hok : ∀ o ∈ l, OkSm o) (h1 : OkSm s) :
    Calls Tryz.prog 64 #[.slice A l.length c, vSm s] w (Ret (.bool (lateB l s)) w) := by
  have hr := Lib.hid fun W (hb : Below w.heap.size w W) => c_response l s A c W (hs.below hb) hl hok h1
  have hL : Hid (lateB l s = (!(respV (respS l s)).2 || decide (s.dl < (respV (respS l s)).1))) := rfl
  clear hs hok h1
  generalize respV (respS l s) = R at *
  obtain ⟨r, ok⟩ := R
  obtain ⟨nm, per, dl, ln⟩ := s
  dsimp only at *
  generalize l.length = n at *
  go_enter Tryz.func64, Tryz.ntmps64
  go_upto_region 1 with fail
  first
  | apply absB1 (w0 := w) (g0 := w.heap.size)
  | apply absTB1 (w0 := w) (g0 := w.heap.size)
  | apply absIB1 (w0 := w) (g0 := w.heap.size)
  iterate 2 (focus exact zL)
  try clear hb3
  try clear hb0
  try clear k0
  intro wa hb0 k0
  (try simp only [List.setIfInBounds_toArray, List.set_cons_zero, List.set_cons_succ] at k0)
  have L0 := k0.cell
  go_wp2_with fail
  refine (hr.out wa hb0).mono ?_
  rintro e wb ⟨rfl, hb1⟩
  replace hb0 := bl_tr hb0 hb1
  replace k0 := k0.below hb1
  clear L0 hb1 hr
  have L0 := k0.cell
  cases ok
  · go_wp2
    go_ret
    exact ⟨by rw [hL.out] <;> rfl, hb0⟩
  · go_wp2
    go_ret
    exact ⟨by rw [hL.out] <;> rfl, hb0⟩
set_option maxHeartbeats 4000000 in
theorem c_LateIn (l : List Sm) (A : Option Addr) (c : Nat) (w : World) (hn : SmIn l A c w) :
    Calls Tryz.prog 17 #[.slice A l.length c] w (fun e w' => Below w.heap.size w w' ∧ ((smsErr l ≠ 0 ∧ e = .returned (.tuple #[.slice none 0 0, .int .i64 (smsErr l)])) ∨
      (smsErr l = 0 ∧ ∃ A2 c2, e = .returned (.tuple #[.slice A2 (lateK l l.length).length c2, .int .i64 0]) ∧ Sl cI 1 w' A2 (lateK l l.length)))) := by
  obtain ⟨i0, hi, hz0, hz1, hz2⟩ := info_parts infoI
  have hse := Lib.hid (c_streamsErr l A c w hn)
  have hok := Lib.hid fun h : smsErr l = 0 => sms_ok h
  have Hs := Lib.hid hn.sl
  have hcap := hn.cap
  have hil := Lib.hid fun (h : smsErr l = 0) (k : Nat) (x : Sm) (hx : l[k]? = some x) W (hb : Below w.heap.size w W) => (show Calls Tryz.prog 64 #[.slice A k c, vSm x] W (Ret (.bool (lateAt l k)) W) by
    have hk := (List.getElem?_eq_some_iff.1 hx).1
    have hm := List.mem_of_getElem? hx
    have := c_isLate (l.take k) x A c W ((hn.sl.below hb).take k) (by have := hn.len; rw [List.length_take]; omega) (fun o ho => ((sms_ok h).2.2 o (List.mem_of_mem_take ho)).1) ((sms_ok h).2.2 x hm).1
    rw [List.length_take, Nat.min_eq_left (by omega)] at this
    have e : lateAt l k = lateB (l.take k) x := by simp [lateAt, hx]
    rw [e]
    exact this)
  have hst : Hid (∀ k, lateK l (k + 1) = lateK l k ++ if lateAt l k then [(k : Int)] else []) := fun _ => rfl
  have hlen := Lib.hid (lateK_len l)
  have hz : Hid (lateK l 0 = []) := rfl
  clear hn
  obtain ⟨g, hg⟩ : ∃ g : Nat → List Int, ∀ k, lateK l k = g k := ⟨_, fun _ => rfl⟩
  obtain ⟨la, hla⟩ : ∃ la : Nat → Bool, ∀ k, lateAt l k = la k := ⟨_, fun _ => rfl⟩
  simp only [hg, hla] at hst hlen hz hil ⊢
  clear hg hla
  generalize smsErr l = E at *
  obtain ⟨n, Hn⟩ : ∃ n, Hid (l.length = n) := ⟨_, rfl⟩
  rw [Hn.out] at hse hok hcap ⊢
  go_enter Tryz.func17, Tryz.ntmps17
  go_wp2_with fail
  refine hse.out.mono ?_
  rintro e wa ⟨rfl, hb0⟩
  by_cases h0 : E = 0
  rotate_left
  · have h0' : (E != 0) = true := by simp [h0]
    replace h0 := Lib.hid h0
    go_wp2
    go_ret2
    exact ⟨hb0, .inl ⟨h0.out, rfl⟩⟩
  obtain ⟨hn1, hn6, -⟩ := hok.out h0
  have hil' := Lib.hid (hil.out h0)
  have h0' : (E != 0) = false := by simp [h0]
  replace h0 := Lib.hid h0
  clear hse hok hil
  go_wp2
  go_loopw [5, 15] (fun o i wr => ∃ k : Nat, k ≤ n ∧ i = .int .i64 k ∧ Below w.heap.size w wr ∧ wr.ownsRow w.heap.size 3 1 o (g k).length ((g k).map (.int .i64))) (fun _ i _ => n - (intOf i).toNat)
  case atStart => exact ⟨0, Nat.zero_le _, rfl, hb0, by rw [hz.out]; exact World.ownsRow_nil _ _ _ _⟩
  case round =>
    clear hb0
    obtain ⟨k, hk, rfl, hb0, ho⟩ := hrel
    replace ho := Lib.hid ho
    by_cases hkn : k < n
    · have hx : l[k]? = some (l[k]'(by rw [Hn.out]; exact hkn)) := List.getElem?_eq_getElem _
      generalize l[k]'(by rw [Hn.out]; exact hkn) = x at hx
      have hcall := Lib.hid (hil'.out k x hx)
      have hs := Lib.hid (hst.out k)
      obtain ⟨b, off, rfl, hc⟩ := (Hs.out.below hb0) k x hx
      have c0 := hc 0 _ rfl
      have c1 := hc 1 _ rfl
      have c2 := hc 2 _ rfl
      have c3 := hc 3 _ rfl
      simp only [Nat.add_zero] at c0
      clear hc hx
      obtain ⟨xn, xp, xd, xl⟩ := x
      dsimp only at *
      generalize la k = lk at *
      have hqw := hb0.size
      have hgl := hlen.out k
      have hkc : k ≤ c := by omega
      go_upto_region 8 with fail
      have hbm : Below wr.heap.size wr (wr.alloc (.cells #[.string xn, .int .i64 xp, .int .i64 xd, .int .i64 xl] 43)) := bl_al _ (bl_refl wr)
      replace ho := Lib.hid (own_below ho.out hbm)
      have k1 := Blk.new wr 43 #[.string xn, .int .i64 xp, .int .i64 xd, .int .i64 xl]
      replace hb0 := bl_tr hb0 hbm
      clear hbm c0 c1 c2 c3
      generalize wr.alloc (.cells #[.string xn, .int .i64 xp, .int .i64 xd, .int .i64 xl] 43) = wb at *
      have Lk1 := k1.later
      have Fk1 := k1.laterF
      have Qk1 := k1.lt
      refine wp_any (w0 := wb) ⟨[], [], [some 20, some 21, some 22, some 23, some 24], [[], [], [0, 1], [], [0, 1, 2, 3]], [[], [], [0, 1], [], [2, 3]]⟩ (fun _ => []) (by kernel_rfl) (by kernel_rfl) (by (exact zE)) (fun u => by simp only [putD, Act.put, List.setIfInBounds_toArray, List.set_cons_zero, List.set_cons_succ, Nat.zero_add, Nat.reduceAdd]; rfl) ?_
      apply RGW.on (i := 0) rfl
      · exact zG
      · intro γ u W hcur hd
        clear hd
        (try dsimp only)
        exact ⟨rfl, zS⟩
      · exact zC
      · rfl
      dsimp only [nA, cA]
      apply RGW.on (i := 1) rfl
      · exact zG
      · intro γ u W hcur hd
        clear hd
        (try dsimp only)
        exact ⟨rfl, zS⟩
      · exact zC
      · rfl
      dsimp only [nA, cA]
      apply RGW.on (i := 2) rfl
      · exact zG
      · intro γ u W hcur hd
        obtain ⟨⟨h0, -, -⟩, ⟨h1, -, -⟩, -⟩ := hd
        dsimp only at h0 h1
        (try simp only [h0, h1])
        exact ⟨rfl, zS⟩
      · exact zC
      · rfl
      dsimp only [nA, cA]
      apply RGW.on (i := 3) rfl
      · exact zG
      · intro γ u W hcur hd
        clear hd
        (try dsimp only)
        exact ⟨rfl, zS⟩
      · exact zC
      · rfl
      dsimp only [nA, cA]
      apply RGW.call (i := 4) rfl
      · exact zG
      · intro γ u W hcur hd
        obtain ⟨⟨h2, -, -⟩, ⟨h3, -, -⟩, -⟩ := hd
        dsimp only at h2 h3
        (try simp only [h2, h3])
        refine ⟨rfl, fun K hK => ?_⟩
        go_simp
        (go_at_call 64; (with_reducible refine (hcall.out _ (bl_tr hb0 (by (exact zE)))).mono ?_); rintro e w3 ⟨rfl, hb3⟩; replace hb3 := bl_tt hb3)
        (try dsimp only)
        exact hK.out _ _ rfl (by (exact zE))
      · exact zC
      · rfl
      dsimp only [nA, cA]
      refine RGW.fin (fun γ u wc hwc hd hdis => ?_)
      obtain ⟨⟨h0, -, -⟩, ⟨h1, -, -⟩, ⟨h2, -, -⟩, ⟨h3, -, -⟩, ⟨h4, -, -⟩, -⟩ := hd
      dsimp only at h0 h1 h2 h3 h4
      clear hdis
      simp only [h0, h1, h2, h3, h4]
      clear h4 h3 h2 h1 h0
      clear u
      simp only [List.map_nil]
      refine PlanW.done ?_
      have hb3 := bl_tt hwc
      replace ho := Lib.hid (own_below ho.out hwc)
      replace hb0 := bl_tr hb0 hwc
      clear hb3 hwc Lk1 Fk1 k1 hcall
      cases lk
      · have e2 := Lib.hid (show g (k + 1) = g k by rw [hs.out]; simp)
        go_wp2
        go_roundw
        case rel => exact ⟨k + 1, by omega, by go_num, hb0, by rw [e2.out]; exact ho.out⟩
        case measure => simp [intOf] <;> omega
      · have e2 := Lib.hid (show g (k + 1) = g k ++ [(k : Int)] by rw [hs.out]; simp)
        have hsz := hb0.size
        go_wp2_with (at_builtin; refine wpList_append_own _ rfl _ _ 23 rfl w.heap.size 3 i0 (.int .i64 0) 1 8 Tryz.underlying23 hi hz0 hz1 hz2 rfl (by decide) _ _ _ rfl (ho.out.alloc _) ⟨wc.heap.size, 0, none⟩ 1 1 [.int .i64 k] rfl rfl ?q1 ?q2 ?q3 ?q4 ?q5 ?_)
        case q2 => rfl
        case q3 => unfold maxLen; omega
        case q4 => omega
        case q5 => omega
        intro v' w1 hown' hgrow _
        have hb1 : Below w.heap.size w w1 := (bl_al _ hb0).grown hgrow (by simp; omega) (own_ge ho.out)
        clear hgrow
        replace hown' := Lib.hid hown'
        go_wp2
        go_roundw
        case rel => exact ⟨k + 1, by omega, by go_num, hb1, by rw [e2.out]; simpa using hown'.out⟩
        case measure => simp [intOf] <;> omega
    · have e : k = n := by omega
      rw [e] at ho
      obtain ⟨A', c', e2⟩ := own_slice ho.out
      subst e2
      clear e
      go_wp2
      go_ret2
      exact ⟨hb0, .inr ⟨h0.out, A', c', rfl, own_sl ho.out⟩⟩
set_option maxHeartbeats 4000000 in
theorem c_WorstFrom (l : List Sm) (st : List Int) (t : Int) (Al As : Option Addr) (cl cs : Nat) (w : World) (hl : SmIn l Al cl w) (hs : Sl cI 1 w As st) (hsl : st.length ≤ 100000) :
    Calls Tryz.prog 20 #[.slice Al l.length cl, .slice As st.length cs, .int .i64 t] w (fun e w' => Below w.heap.size w w' ∧
      ((stE l st t ≠ 0 ∧ e = .returned (.tuple #[.slice none 0 0, .int .i64 (stE l st t)])) ∨
        (stE l st t = 0 ∧ ∃ A, e = .returned (.tuple #[.slice A l.length l.length, .int .i64 0]) ∧ Sl cI 1 w' A ((List.range l.length).map (runS prioS l st t.toNat).1.wo)))) := by
  have hop := Lib.hid (c_openSender l st t Al As cl cs w hl hs hsl)
  have hrun := Lib.hid fun (S Bw T : Nat) (W : World) (h0 : stE l st t = 0) (hT : t = T) (hb : Below w.heap.size w W) (h : Snd w.heap.size S Bw (.slice Al l.length cl) (.slice As st.length cs) l.length ⟨fun _ => none, fun _ => 0⟩ ss0 W) =>
    (c_run 69 prioS l st T Al As cl cs S Bw ⟨fun _ => none, fun _ => 0⟩ w W (stE_ok h0).1 (by have := (stE_ok h0).2; omega) hb hl.sl hs h (enters_of Tryz.func69 (by kernel_rfl) rfl)
      (fun Q s W' h' => c_byPriority h') prioS_cr)
  have hok := Lib.hid fun h0 => (stE_ok (l := l) (st := st) (t := t) h0).2
  clear hl hs
  generalize stE l st t = e3 at *
  generalize l.length = n at *
  generalize st.length = m at *
  go_enter Tryz.func20, Tryz.ntmps20
  go_wp2_with fail
  refine hop.out.mono ?_
  rintro e w1 ⟨hb1, ⟨h0, rfl⟩ | ⟨h0, S, Bw, rfl, hS⟩⟩
  · clear hrun hok hop
    go_wp2
    go_ret2
    exact ⟨hb1, .inl ⟨h0, rfl⟩⟩
  · obtain ⟨ht0, -⟩ := hok.out h0
    obtain ⟨T, rfl⟩ : ∃ T : Nat, t = T := ⟨t.toNat, by omega⟩
    have hr := Lib.hid (hrun.out S Bw T w1 h0 rfl hb1 hS)
    have hft := Lib.hid hS.foot_ge
    replace h0 := Lib.hid h0
    clear hop hrun hok hS
    go_wp2_with fail
    refine hr.out.mono ?_
    rintro e w2 ⟨A, c, rfl, hown, Q', hS2, hx⟩
    have hb2 := bx_below hb1 hx (fun x hx => (hft.out x hx).1)
    have LS : w2.cell? ⟨S, 8, none⟩ = some (.slice (some ⟨Bw, 0, none⟩) n n) := by rw [hS2.blk.cell]; rfl
    have hwo := hS2.wor
    have hsl2 : Hid (Sl cI 1 w2 (some ⟨Bw, 0, none⟩) ((List.range n).map (runS prioS l st T).1.wo)) := Lib.hid (Blk.ints (l := (List.range n).map (runS prioS l st T).1.wo) (by
      rw [List.map_map]
      exact hwo))
    clear hr hft hx hS2 hwo hown
    go_wp2
    go_ret2
    exact ⟨hb2, .inr ⟨h0.out, _, rfl, hsl2.out⟩⟩
/-- The error of starts and ticks behind valid streams. -/
def stE0 (l : List Sm) (st : List Int) (t : Int) : Int := fstE [unl (decide ((st.length : Int) = l.length)) 10, (eachS (fun _ n => unl (inR n 0 400) 2) st 0).2, unl (inR t 0 400) 2]
theorem stE_eq0 {l : List Sm} {st : List Int} {t : Int} (h : smsErr l = 0) : stE l st t = stE0 l st t := by
  unfold stE stE0
  simp only [fstE, h, if_true]
  by_cases h1 : unl (decide ((st.length : Int) = l.length)) 10 = 0
  · simp only [h1, if_true]
  · simp only [h1, if_false]
end Go.Proofs.YtbdgblnccjpahaaGreatDoor
namespace Go.Proofs.YtbdgblnccjpahaaGreatDoor
set_option maxRecDepth 20000
theorem resp_spec {f : Int → Int} : ∀ (n : Nat) (r x : Int), respTo f n r = some x → r ≤ x ∧ x < r + n ∧ f x = x ∧ ∀ y, r ≤ y → y < x → f y ≠ y
  | 0, _, _, h => by cases h
  | n + 1, r, x, h => by
    unfold respTo at h
    by_cases h0 : f r = r
    · rw [if_pos h0] at h
      injection h with h
      subst h
      exact ⟨Int.le_refl _, by omega, h0, fun y h1 h2 => by omega⟩
    · rw [if_neg h0] at h
      obtain ⟨h1, h2, h3, h4⟩ := resp_spec n (r + 1) x h
      refine ⟨by omega, by omega, h3, fun y h5 h6 => ?_⟩
      by_cases e : y = r
      · subst e; exact h0
      · exact h4 y (by omega) h6
theorem fF_ge {l : List Sm} (hl : ∀ s ∈ l, OkSm s) {i : Nat} {s : Sm} (hs : l[i]? = some s) {r : Int} (hr : 0 ≤ r) : s.len ≤ fF l i r := by
  unfold fF
  have e : lenAt l i = s.len := by unfold lenAt; rw [hs]
  have := wt_nonneg (f := fun k => lenAt l k * ((r + perAt l k - 1) / perAt l k)) (n := i) fun k _ => Int.mul_nonneg (lenAt_nonneg hl k) (Int.ediv_nonneg (by have := perAt_ok hl k; omega) (by have := perAt_ok hl k; omega))
  omega
/-- The response of a stream that is not late. -/
structure Timely (l : List Sm) (i : Nat) (s : Sm) (r : Nat) : Prop where
  resp : respS (l.take i) s = some (r : Int)
  one : 1 ≤ r
  dl : (r : Int) ≤ s.dl
  len : s.len ≤ r
  fix : fF l i r = r
  least : ∀ x : Nat, 1 ≤ x → x < r → fF l i x ≠ x
theorem respS_some {l : List Sm} (hl : ∀ s ∈ l, OkSm s) {i : Nat} {s : Sm} (hs : l[i]? = some s) {x : Int} (h : respS (l.take i) s = some x) : ∃ r : Nat, x = r ∧ 1 ≤ r ∧ s.len ≤ r ∧ fF l i r = r ∧ ∀ y : Nat, 1 ≤ y → y < r → fF l i y ≠ y := by
  obtain ⟨h1, h2, h3, h4⟩ := resp_spec _ _ _ h
  obtain ⟨r, rfl⟩ : ∃ r : Nat, x = r := ⟨x.toNat, by omega⟩
  have h5 := respF_eq hs (r : Int)
  rw [h3] at h5
  have h6 := fF_ge hl hs (show (0 : Int) ≤ r by omega)
  refine ⟨r, rfl, by omega, by omega, h5.symm, fun y hy1 hy2 e => ?_⟩
  exact h4 y (by omega) (by omega) (by rw [respF_eq hs]; exact e)
theorem notlate {l : List Sm} (hl : ∀ s ∈ l, OkSm s) {i : Nat} {s : Sm} (hs : l[i]? = some s) (h : lateAt l i = false) : ∃ r, Timely l i s r := by
  unfold lateAt lateB at h
  rw [hs] at h
  dsimp only at h
  cases hR : respS (l.take i) s with
  | none => rw [hR] at h; simp [respV] at h
  | some x =>
    rw [hR] at h
    simp [respV] at h
    obtain ⟨r, rfl, h1, h2, h3, h4⟩ := respS_some hl hs hR
    have h' : ¬ s.dl < (r : Int) := of_decide_eq_false h
    exact ⟨r, hR, h1, by omega, h2, h3, h4⟩
theorem worst_le {l : List Sm} {st : List Int} (h : SOk l st) {i : Nat} {s : Sm} (hs : l[i]? = some s) {r : Nat} (hr : Timely l i s r) (T : Nat) : (runS prioS l st T).1.wo i ≤ r :=
  never_late h hs (by have := hr.one; omega) (Int.le_trans hr.dl (h.sm s (List.mem_of_getElem? hs)).2.2.2.1) hr.fix T
def ouT (l : List Sm) (st : List Int) (t : Nat) : Int := (carS prioS l st t (runS prioS l st t).1).2
theorem run_len (l : List Sm) (st : List Int) : ∀ T, (runS prioS l st T).2.length = T
  | 0 => rfl
  | T + 1 => by rw [runS, List.length_append, run_len l st T]; rfl
theorem out_at (l : List Sm) (st : List Int) : ∀ {T t : Nat}, t < T → (runS prioS l st T).2[t]? = some (ouT l st t)
  | T + 1, t, h => by
    rw [runS]
    dsimp only
    by_cases e : t < T
    · rw [List.getElem?_append_left (by rw [run_len]; exact e)]
      exact out_at l st e
    · have : t = T := by omega
      subst this
      rw [List.getElem?_append_right (by rw [run_len]; exact Nat.le_refl _), run_len]
      simp [ouT]
theorem tick_at (l : List Sm) (st : List Int) (t : Nat) : Tick t (sendS l st t (runS prioS l st t).1.q) (runS prioS l st t).1.wo (runS prioS l st (t + 1)).1 (ouT l st t) ∧ ouT l st t = prioS (sendS l st t (runS prioS l st t).1.q) :=
  car_tick l st t (runS prioS l st t).1 (by
    rcases prio_spec (sendS l st t (runS prioS l st t).1.q) with ⟨h, _⟩ | ⟨j, h, _, h1, _⟩
    · exact .inl h
    · exact .inr ⟨j, h, h1⟩)
theorem sum1_tick {t : Int} {q : Nat → List (Int × Int)} {wo : Nat → Int} {s : Ss} {o : Int} (hk : Tick t q wo s o) (k : Nat) : sumL (s.q k) = sumL (q k) - if o = k then 1 else 0 := by
  cases hk with
  | idle =>
    rw [if_neg (by omega)]
    show sumL (q k) = sumL (q k) - 0
    omega
  | last i a r e =>
    show sumL (upF q i r k) = _
    by_cases h : k = i
    · subst h
      rw [upF_same, e, if_pos rfl]
      simp only [sumL]
      omega
    · rw [upF_other _ _ h, if_neg (by omega)]
      omega
  | more i a m r e hk1 =>
    show sumL (upF q i ((a, m - 1) :: r) k) = _
    by_cases h : k = i
    · subst h
      rw [upF_same, e, if_pos rfl]
      simp only [sumL]
      omega
    · rw [upF_other _ _ h, if_neg (by omega)]
      omega
theorem sendS_out {l : List Sm} {st : List Int} {t : Int} {q : Nat → List (Int × Int)} {k : Nat} (h : l.length ≤ k) : sendS l st t q k = q k := by
  unfold sendS relB
  rw [List.getElem?_eq_none h]
  simp
end Go.Proofs.YtbdgblnccjpahaaGreatDoor
namespace Go.Proofs.YtbdgblnccjpahaaGreatDoor
end Go.Proofs.YtbdgblnccjpahaaGreatDoor
namespace Go.Proofs.YtbdgblnccjpahaaGreatDoor
open Go.RowKit Go.Shelf
attribute [local go_sem] bl_al bl_drew bl_drewN bl_refl
set_option maxRecDepth 20000
set_option maxHeartbeats 2000000 in
theorem r_IsName (s : ByteArray) (w : World) (hs : s.size ≤ maxLen) :
    Calls Tryz.prog 102 #[.string s] w (Ret (.bool (nameB s)) w) := by
  unfold maxLen at hs
  obtain ⟨l, Hl⟩ : ∃ l, Hid (s.data.toList = l) := ⟨_, rfl⟩
  obtain ⟨n, Hn⟩ : ∃ n, Hid (s.size = n) := ⟨_, rfl⟩
  have Hln : Hid (l.length = n) := by rw [← Hl.out, ← Hn.out]; exact (by simp : s.data.toList.length = s.size)
  have hR : Hid (nameB s = (nameFrom 0 l && inR n 1 12)) := by unfold nameB; rw [Hl.out, Hn.out]; rfl
  rw [Hn.out] at hs
  have hsz : s.size = n := Hn.out
  by_cases hlow : n < 1
  · have e : Hid (nameB s = false) := by rw [hR.out]; refine Lib.hid ?_; have : inR n 1 12 = false := by simp [inR]; intro; omega
                                         rw [this, Bool.and_false]
    have hb1 : decide ((n : Int) < 1) = true := by simp; omega
    go_enter Tryz.func102, Tryz.ntmps102
    go_wp2
    go_ret
    exact ⟨by rw [e.out] <;> rfl, bl_refl _⟩
  have hb1 : decide ((n : Int) < 1) = false := by simp; omega
  by_cases hhi : 12 < n
  · have e : Hid (nameB s = false) := by rw [hR.out]; refine Lib.hid ?_; have : inR n 1 12 = false := by simp [inR]; intro; omega
                                         rw [this, Bool.and_false]
    have hb2 : decide ((12 : Int) < n) = true := by simp; omega
    go_enter Tryz.func102, Tryz.ntmps102
    go_wp2
    go_ret
    exact ⟨by rw [e.out] <;> rfl, bl_refl _⟩
  have hb2 : decide ((12 : Int) < n) = false := by simp; omega
  replace hR : Hid (nameB s = nameFrom 0 l) := by rw [hR.out]; refine Lib.hid ?_; have : inR n 1 12 = true := by simp [inR]; omega
                                                  rw [this, Bool.and_true]
  go_enter Tryz.func102, Tryz.ntmps102
  go_wp2
  go_loopw [3] (fun i wr => ∃ k : Nat, k ≤ n ∧ i = .int .i64 k ∧ wr = w ∧ nameFrom 0 l = nameFrom k (l.drop k)) (fun i _ => n - (intOf i).toNat)
  case atStart => exact ⟨0, Nat.zero_le _, rfl, rfl, rfl⟩
  case round =>
    obtain ⟨k, hk, rfl, rfl, hi⟩ := hrel
    replace hi := Lib.hid hi
    by_cases hlt : k < n
    · have hx : l[k]? = some (l[k]'(by rw [Hln.out]; exact hlt)) := List.getElem?_eq_getElem _
      generalize l[k]'(by rw [Hln.out]; exact hlt) = c at hx
      have hd := Lib.hid (nameFrom_drop l k c hx)
      have hks : k < s.size := by rw [hsz]; exact hlt
      have hget : s.data[k]'(by simpa using hks) = c := by
        have := hx
        rw [← Hl.out] at this
        simpa using (List.getElem?_eq_some_iff.1 this).2
      have hget' : (s[k]'hks) = c := hget
      have hm0 := c.toNat_lt
      have hlet := Lib.hid (letter_iff c)
      have hoth := Lib.hid (other_iff c)
      have hyes : Hid ((97 ≤ c.toNat ∧ c.toNat ≤ 122 ∨ 65 ≤ c.toNat ∧ c.toNat ≤ 90) ∨ k ≠ 0 ∧ (48 ≤ c.toNat ∧ c.toNat ≤ 57 ∨ c.toNat = 45) → nameFrom 0 l = nameFrom (k + 1) (l.drop (k + 1))) := by
        intro h
        rw [hi.out, hd.out]
        rcases h with h | ⟨h0, h⟩
        · simp [hlet.out.2 h]
        · simp [hoth.out.2 h, h0]
      have hno : Hid (¬ ((97 ≤ c.toNat ∧ c.toNat ≤ 122 ∨ 65 ≤ c.toNat ∧ c.toNat ≤ 90) ∨ k ≠ 0 ∧ (48 ≤ c.toNat ∧ c.toNat ≤ 57 ∨ c.toNat = 45)) → nameFrom 0 l = false) := by
        intro h
        rw [hi.out, hd.out]
        have h1 : letter c = false := by rw [Bool.eq_false_iff]; intro hh; exact h (.inl (hlet.out.1 hh))
        by_cases h0 : k = 0
        · simp [h1, h0]
        · have h2 : other c = false := by rw [Bool.eq_false_iff]; intro hh; exact h (.inr ⟨h0, hoth.out.1 hh⟩)
          simp [h1, h2]
      clear hx hlet hoth hd hi
      go_upto_region 7 with fail
      clear hget hget'
      generalize c.toNat = m at *
      have hcase : m < 45 ∨ m = 45 ∨ (45 < m ∧ m < 48) ∨ (48 ≤ m ∧ m ≤ 57) ∨ (57 < m ∧ m < 65) ∨ (65 ≤ m ∧ m ≤ 90) ∨ (90 < m ∧ m < 97) ∨ (97 ≤ m ∧ m ≤ 122) ∨ 122 < m := by omega
      by_cases h0 : k = 0
      · subst h0
        rcases hcase with h | rfl | ⟨h, h'⟩ | ⟨h, h'⟩ | ⟨h, h'⟩ | ⟨h, h'⟩ | ⟨h, h'⟩ | ⟨h, h'⟩ | h
        all_goals
          go_wp2
        all_goals first
          | (go_roundw
             case rel => exact ⟨1, by omega, by go_num, trivial, hyes.out (by omega)⟩
             case measure => simp [intOf]; omega)
          | (go_ret
             exact ⟨by rw [hR.out, hno.out (by omega)] <;> rfl, bl_refl _⟩)
          | (exfalso; simp at *; omega)
      · have h0' : ((k : Int) == 0) = false := by simp; omega
        rcases hcase with h | rfl | ⟨h, h'⟩ | ⟨h, h'⟩ | ⟨h, h'⟩ | ⟨h, h'⟩ | ⟨h, h'⟩ | ⟨h, h'⟩ | h
        all_goals
          go_wp2
        all_goals first
          | (go_roundw
             case rel => exact ⟨k + 1, by omega, by go_num, trivial, hyes.out (by omega)⟩
             case measure => simp [intOf]; omega)
          | (go_ret
             exact ⟨by rw [hR.out, hno.out (by omega)] <;> rfl, bl_refl _⟩)
          | (exfalso; simp at *; omega)
    · go_wp2
      go_ret
      have : k = l.length := by have := Hln.out; omega
      exact ⟨by rw [hR.out, hi.out, this]; simp [nameFrom], bl_refl _⟩
end Go.Proofs.YtbdgblnccjpahaaGreatDoor
namespace Go.Proofs.YtbdgblnccjpahaaGreatDoor
open Go.RowKit Go.Shelf
attribute [local go_sem] bl_al bl_drew bl_drewN bl_refl bx_al bx_drew bx_drewN bx_refl
set_option maxRecDepth 20000
theorem flat_I (l : List Int) : l.flatMap cI = l.map (Value.int .i64) := by
  induction l with
  | nil => rfl
  | cons x l ih => rw [List.flatMap_cons, List.map_cons, ih]; rfl
theorem r_CopyInts (l : List Int) (A : Option Addr) (c : Nat) (w : World) (hs : Sl cI 1 w A l) (hl : l.length ≤ 1000) : Calls Tryz.prog 21 #[.slice A l.length c] w (RetI l w) := by
  obtain ⟨i0, hi, hz0, hz1, hz2⟩ := info_parts infoI
  have Hs := Lib.hid hs
  clear hs
  go_enter Tryz.func21, Tryz.ntmps21
  go_wp2_with (at_builtin; refine wpList_plain rfl fun _ hK => wp_copy (cs := cI) (l := l) (A := A) (c := c) (g := w.heap.size) _ _ rfl Tryz.underlying23 hi hz0 hz1 hz2 rfl (by decide) (fun _ => rfl) (fun x u hu => by simp [cI] at hu; subst hu; rfl) rfl rfl (Hs.out.below (bl_al _ (bl_refl _))) hl (by decide) (Blk.new w _ _) (fun A2 c2 w' ho hb => hK _ _ ?_))
  rw [flat_I] at ho
  have hb2 : Below w.heap.size w w' := bl_tr (bl_al _ (bl_refl w)) hb
  replace ho := Lib.hid ho
  clear hb
  go_wp2
  go_ret
  exact ⟨A2, c2, rfl, hb2, ho.out⟩
end Go.Proofs.YtbdgblnccjpahaaGreatDoor
namespace Go.Proofs.YtbdgblnccjpahaaGreatDoor
open Go.RowKit Go.Shelf
attribute [local go_sem] bl_al bl_drew bl_drewN bl_refl bx_al bx_drew bx_drewN bx_refl
set_option maxRecDepth 20000
theorem r_Within (n lo hi : Int) (w : World) : Calls Tryz.prog 12 #[.int .i64 n, .int .i64 lo, .int .i64 hi] w (Same (.bool (inR n lo hi)) w) := by
  by_cases h1 : lo ≤ n
  · go_enter Tryz.func12, Tryz.ntmps12
    go_wp2
    go_ret
    exact ⟨by simp [inR, h1], rfl⟩
  · go_enter Tryz.func12, Tryz.ntmps12
    go_wp2
    go_ret
    exact ⟨by simp [inR, h1] <;> (intro h; omega), rfl⟩
end Go.Proofs.YtbdgblnccjpahaaGreatDoor
namespace Go.Proofs.YtbdgblnccjpahaaGreatDoor
open Go.RowKit Go.Shelf
attribute [local go_sem] bl_al bl_drew bl_drewN bl_refl bx_al bx_drew bx_drewN bx_refl
set_option maxRecDepth 20000
theorem infoSm : (Tryz.prog.info? 43).map (fun i => (i.zero, i.size, i.bytes)) = some (some (.agg #[.string ByteArray.empty, .int .i64 0, .int .i64 0, .int .i64 0]), 4, 40) := by kernel_rfl
theorem r_CopyStreams (l : List Sm) (A : Option Addr) (c : Nat) (w : World) (hn : SmIn l A c w) : Calls Tryz.prog 11 #[.slice A l.length c] w (fun e w' => ∃ A2 c2, e = .returned (.slice A2 l.length c2) ∧ Below w.heap.size w w' ∧ SmIn l A2 c2 w') := by
  obtain ⟨i0, hi, hz0, hz1, hz2⟩ := info_parts infoSm
  have Hn := Lib.hid hn
  have hl := hn.len
  clear hn
  go_enter Tryz.func11, Tryz.ntmps11
  go_wp2_with (at_builtin; refine wpList_plain rfl fun _ hK => wp_copy (cs := cSm) (l := l) (A := A) (c := c) (g := w.heap.size) _ _ rfl Tryz.underlying22 hi hz0 hz1 hz2 rfl (by decide) (fun _ => rfl) (fun x u hu => by simp [cSm] at hu; rcases hu with h | h | h | h <;> subst h <;> rfl) rfl rfl (Hn.out.sl.below (bl_al _ (bl_refl _))) hl (by decide) (Blk.new w _ _) (fun A2 c2 w' ho hb => hK _ _ ?_))
  have hb2 : Below w.heap.size w w' := bl_tr (bl_al _ (bl_refl w)) hb
  replace ho := Lib.hid ho
  clear hb
  go_wp2
  go_ret
  refine ⟨A2, c2, rfl, hb2, Hn.out.len, ?_, Hn.out.nm, own_slC (cs := cSm) (fun _ => rfl) (by decide) ho.out⟩
  rcases ho.out.2 with ⟨e, h⟩ | ⟨_, _, _, e, _, _, h, _⟩
  · omega
  · injection e with _ _ e
    omega
theorem knownS_step (l : List Sm) (s : ByteArray) (j : Nat) (y : Sm) (hy : l[j]? = some y) : knownB ((l.take (j + 1)).map (·.name)) s = (knownB ((l.take j).map (·.name)) s || (y.name.toList == s.toList)) := by
  unfold knownB
  rw [List.take_add_one, hy]
  simp [List.any_append]
theorem knownS_hit (l : List Sm) (s : ByteArray) (j k : Nat) (y : Sm) (hy : l[j]? = some y) (hjk : j < k) (h : (y.name.toList == s.toList) = true) : knownB ((l.take k).map (·.name)) s = true := by
  unfold knownB
  rw [List.any_eq_true]
  refine ⟨y.name, ?_, h⟩
  have : (l.take k)[j]? = some y := by rw [List.getElem?_take, if_pos hjk]; exact hy
  exact List.mem_map.2 ⟨y, List.mem_of_getElem? this, rfl⟩
set_option maxHeartbeats 4000000 in
theorem r_CheckStreams (l : List Sm) (A : Option Addr) (c : Nat) (w : World) (hn : SmIn l A c w) :
    Calls Tryz.prog 44 #[.slice A l.length c] w (Ret (.tuple #[.int .i64 (smsChk l).1, .int .i64 (smsChk l).2]) w) := by
  have hN := Lib.hid hn
  have hr0 : Hid (lenE l.length 6 = fstE [unl (decide (0 < l.length)) 10, unl (decide ((l.length : Int) ≤ 6)) 8]) := rfl
  have hs1 : Hid (lenE l.length 6 = 0 → smsChk l = eachS (smErr l) l 0) := fun h => by rw [smsChk, if_pos h]
  have hs2 : Hid (lenE l.length 6 ≠ 0 → smsChk l = (0, lenE l.length 6)) := fun h => by rw [smsChk, if_neg h]
  clear hn
  obtain ⟨n, Hn⟩ : ∃ n, Hid (l.length = n) := ⟨_, rfl⟩
  rw [Hn.out] at hr0 hs1 hs2 ⊢
  by_cases h0 : n = 0
  · subst h0
    have e : smsChk l = (0, 10) := hs2.out (by decide)
    rw [e]
    go_enter Tryz.func44, Tryz.ntmps44
    go_wp2
    go_ret2
    exact ⟨rfl, bl_refl _⟩
  by_cases h6 : (n : Int) ≤ 6
  rotate_left
  · have e1 : lenE n 6 = 8 := by rw [hr0.out]; simp [fstE, unl, h6]; omega
    have e : smsChk l = (0, 8) := by rw [hs2.out (by rw [e1]; decide), e1]
    rw [e]
    have h0' : ((n : Int) == 0) = false := by simp; omega
    have h6' : (6 : Int) < n := by omega
    clear e e1 hr0 hs1 hs2
    go_enter Tryz.func44, Tryz.ntmps44
    go_wp2
    go_ret2
    exact ⟨rfl, bl_refl _⟩
  have e1 : lenE n 6 = 0 := by rw [hr0.out]; simp [fstE, unl, h6]; omega
  rw [hs1.out e1]
  have h0' : ((n : Int) == 0) = false := by simp; omega
  have h6' : ¬ (6 : Int) < n := by omega
  have hn6 : n ≤ 6 := by omega
  clear e1 hr0 hs1 hs2 h0 h6
  go_enter Tryz.func44, Tryz.ntmps44
  go_wp2
  clear h0' h6'
  go_loopw [4] (fun i wr => ∃ k : Nat, k ≤ n ∧ i = .int .i64 k ∧ Below w.heap.size w wr ∧ eachS (smErr l) l 0 = eachS (smErr l) (l.drop k) k) (fun i _ => n - (intOf i).toNat)
  case atStart => exact ⟨0, Nat.zero_le _, rfl, Below.refl _ _, rfl⟩
  case round =>
    obtain ⟨k, hk, rfl, hb0, hi⟩ := hrel
    replace hi := Lib.hid hi
    by_cases hlt : k < n
    · have hx : l[k]? = some (l[k]'(by rw [Hn.out]; exact hlt)) := List.getElem?_eq_getElem _
      generalize l[k]'(by rw [Hn.out]; exact hlt) = x at hx
      have hm : x ∈ l := List.mem_of_getElem? hx
      have hd := Lib.hid (eachS_drop (smErr l) l k x hx)
      have hnm := Lib.hid (hN.out.nm x hm)
      obtain ⟨b, off, hA, hc⟩ := hN.out.sl k x hx
      have hS : Hid (Sl cSm 4 w (some ⟨b, off, none⟩) l) := by rw [← hA]; exact hN.out.sl
      have c0 : wr.cell? ⟨b, off + k * 4, none⟩ = some (.string x.name) := by simpa using kcell hb0 (hc 0 _ rfl)
      have c1 : wr.cell? ⟨b, off + k * 4 + 1, none⟩ = some (.int .i64 x.per) := by simpa using kcell hb0 (hc 1 _ rfl)
      have c2 : wr.cell? ⟨b, off + k * 4 + 2, none⟩ = some (.int .i64 x.dl) := by simpa using kcell hb0 (hc 2 _ rfl)
      have c3 : wr.cell? ⟨b, off + k * 4 + 3, none⟩ = some (.int .i64 x.len) := by simpa using kcell hb0 (hc 3 _ rfl)
      have hre : smErr l k x = fstE [unl (nameB x.name) 4, unl (!knownB ((l.take k).map (·.name)) x.name) 5, unl (inR x.per 1 60 && (inR x.dl 1 x.per && inR x.len 1 20)) 2] := rfl
      clear hc hm hx
      obtain ⟨bn, h⟩ : ∃ b', nameB x.name = b' := ⟨_, rfl⟩
      have hcn := Lib.hid fun W : World => h ▸ r_IsName x.name W hnm.out
      rw [h] at hre
      clear h
      obtain ⟨ba, h⟩ : ∃ b', inR x.per 1 60 = b' := ⟨_, rfl⟩
      have hca := Lib.hid fun W : World => h ▸ r_Within x.per 1 60 W
      rw [h] at hre
      clear h
      obtain ⟨bb, h⟩ : ∃ b', inR x.dl 1 x.per = b' := ⟨_, rfl⟩
      have hcb := Lib.hid fun W : World => h ▸ r_Within x.dl 1 x.per W
      rw [h] at hre
      clear h
      obtain ⟨bc, h⟩ : ∃ b', inR x.len 1 20 = b' := ⟨_, rfl⟩
      have hcc := Lib.hid fun W : World => h ▸ r_Within x.len 1 20 W
      rw [h] at hre
      clear h
      subst hA
      obtain ⟨xn, xp, xd, xl⟩ := x
      dsimp only at *
      go_upto_region 9 with fail
      have hqw := hb0.size
      first
      | apply absB1 (w0 := w) (g0 := wr.heap.size)
      | apply absTB1 (w0 := w) (g0 := wr.heap.size)
      | apply absIB1 (w0 := w) (g0 := wr.heap.size)
      iterate 2 (focus exact zL)
      try clear hb3
      try clear hb0
      try clear k0
      intro wb hb0 k0
      (try simp only [List.setIfInBounds_toArray, List.set_cons_zero, List.set_cons_succ] at k0)
      clear c0 c1 c2 c3
      have L0 := k0.cell
      cases bn
      · replace hre := Lib.hid hre
        go_wp2_with (go_at_call 102; (with_reducible refine (hcn.out _).mono ?_); rintro e w3 ⟨rfl, hb3⟩)
        go_ret2
        exact ⟨by rw [hi.out, hd.out, hre.out] <;> rfl, bl_tr hb0 hb3⟩
      go_upto_region 11 with (go_at_call 102; (with_reducible refine (hcn.out _).mono ?_); rintro e w3 ⟨rfl, hb3⟩)
      clear L0
      replace hb0 := bl_tr hb0 hb3
      replace k0 := k0.below hb3
      clear hb3 hcn
      go_wp2
      obtain ⟨wo, rfl⟩ : ∃ wo : World, wo = wr := ⟨_, rfl⟩
      go_loopw [6] (fun i wi => ∃ j : Nat, j ≤ k ∧ i = .int .i64 j ∧ Below w.heap.size w wi ∧ Blk wi wo.heap.size 43 #[.string xn, .int .i64 xp, .int .i64 xd, .int .i64 xl] ∧ knownB ((l.take j).map (·.name)) xn = false) (fun i _ => k - (intOf i).toNat)
      case atStart => exact ⟨0, Nat.zero_le _, rfl, hb0, k0, by simp [knownB]⟩
      case round =>
        clear hb0 k0
        obtain ⟨j, hj, rfl, hb0, k0, hkn⟩ := hrel
        replace hkn := Lib.hid hkn
        by_cases hjk : j < k
        · have hy : l[j]? = some (l[j]'(by rw [Hn.out]; omega)) := List.getElem?_eq_getElem _
          generalize l[j]'(by rw [Hn.out]; omega) = y at hy
          obtain ⟨b2, off2, e2, hc2⟩ := hS.out j y hy
          cases e2
          have d0 : ∀ W, Below wr.heap.size wr W → W.cell? ⟨b, off + j * 4, none⟩ = some (.string y.name) := later (by simpa using kcell hb0 (hc2 0 _ rfl))
          have hks := Lib.hid (knownS_step l xn j y hy)
          have hkh := Lib.hid (knownS_hit l xn j k y hy hjk)
          clear hc2 hy
          have hjn : (j : Int) < n := by omega
          have hjn2 : j < n := by omega
          go_upto_region 14 with fail
          have Lk0 := k0.later
          have Fk0 := k0.laterF
          have Qk0 := k0.lt
          refine wp_any (w0 := wr) ⟨[], [], [some 33, some 34, some 35, some 36, some 37, some 38, some 39, some 40], [[], [], [0, 1], [0, 1, 2], [0, 1, 2, 3], [], [5], [0, 1, 2, 3, 4, 5, 6]], [[], [], [0, 1], [2], [3], [], [5], [4, 6]]⟩ (fun _ => []) (by kernel_rfl) (by kernel_rfl) (by (exact zE)) (fun u => by simp only [putD, Act.put, List.setIfInBounds_toArray, List.set_cons_zero, List.set_cons_succ, Nat.zero_add, Nat.reduceAdd]; rfl) ?_
          apply RGW.on (i := 0) rfl
          · exact zG
          · intro γ u W hcur hd
            clear hd
            (try dsimp only)
            exact ⟨rfl, zS⟩
          · exact zC
          · rfl
          dsimp only [nA, cA]
          apply RGW.on (i := 1) rfl
          · exact zG
          · intro γ u W hcur hd
            clear hd
            (try dsimp only)
            exact ⟨rfl, zS⟩
          · exact zC
          · rfl
          dsimp only [nA, cA]
          apply RGW.on (i := 2) rfl
          · exact zG
          · intro γ u W hcur hd
            obtain ⟨⟨h0, -, -⟩, ⟨h1, -, -⟩, -⟩ := hd
            dsimp only at h0 h1
            (try simp only [h0, h1])
            exact ⟨rfl, zS⟩
          · exact zC
          · rfl
          dsimp only [nA, cA]
          apply RGW.on (i := 3) rfl
          · exact zG
          · intro γ u W hcur hd
            obtain ⟨⟨h2, -, -⟩, -⟩ := hd
            dsimp only at h2
            (try simp only [h2])
            exact ⟨rfl, zS⟩
          · exact zC
          · rfl
          dsimp only [nA, cA]
          apply RGW.on (i := 4) rfl
          · exact zG
          · intro γ u W hcur hd
            obtain ⟨⟨h3, -, -⟩, -⟩ := hd
            dsimp only at h3
            (try simp only [h3])
            exact ⟨rfl, zS⟩
          · exact zC
          · rfl
          dsimp only [nA, cA]
          apply RGW.on (i := 5) rfl
          · exact zG
          · intro γ u W hcur hd
            clear hd
            (try dsimp only)
            exact ⟨rfl, zS⟩
          · exact zC
          · rfl
          dsimp only [nA, cA]
          apply RGW.on (i := 6) rfl
          · exact zG
          · intro γ u W hcur hd
            obtain ⟨⟨h5, -, -⟩, -⟩ := hd
            dsimp only at h5
            (try simp only [h5])
            exact ⟨rfl, zS⟩
          · exact zC
          · rfl
          dsimp only [nA, cA]
          apply RGW.on (i := 7) rfl
          · exact zG
          · intro γ u W hcur hd
            obtain ⟨⟨h4, -, -⟩, ⟨h6, -, -⟩, -⟩ := hd
            dsimp only at h4 h6
            (try simp only [h4, h6])
            exact ⟨rfl, zS⟩
          · exact zC
          · rfl
          dsimp only [nA, cA]
          refine RGW.fin (fun γ u wj hwj hd hdis => ?_)
          obtain ⟨⟨h0, -, -⟩, ⟨h1, -, -⟩, ⟨h2, -, -⟩, ⟨h3, -, -⟩, ⟨h4, -, -⟩, ⟨h5, -, -⟩, ⟨h6, -, -⟩, ⟨h7, -, -⟩, -⟩ := hd
          dsimp only at h0 h1 h2 h3 h4 h5 h6 h7
          clear hdis
          simp only [h0, h1, h2, h3, h4, h5, h6, h7]
          clear h7 h6 h5 h4 h3 h2 h1 h0
          clear u
          simp only [List.map_nil]
          refine PlanW.done ?_
          have hb3 := bl_tt hwj
          have hbj := bl_tr hb0 hwj
          have kj := k0.below hwj
          cases hyx : y.name.toList == xn.toList
          · go_wp2
            go_roundw
            case rel => exact ⟨j + 1, by omega, by go_num, hbj, kj, by rw [hks.out, hkn.out, hyx]; rfl⟩
            case measure => simp [intOf]; omega
          · rw [hkh.out hyx] at hre
            replace hre := Lib.hid hre
            go_wp2
            go_ret2
            exact ⟨by rw [hi.out, hd.out, hre.out] <;> rfl, hbj⟩
        · obtain rfl : j = k := by omega
          rw [hkn.out] at hre
          have L0 := k0.cell
          cases ba
          · replace hre := Lib.hid hre
            go_wp2_with (go_at_call 12; (first | (with_reducible refine (hca.out _).mono ?_) | (with_reducible refine (hcb.out _).mono ?_) | (with_reducible refine (hcc.out _).mono ?_)); rintro e w3 ⟨rfl, rfl⟩)
            go_ret2
            exact ⟨by rw [hi.out, hd.out, hre.out] <;> rfl, hb0⟩
          cases bb
          · replace hre := Lib.hid hre
            go_wp2_with (go_at_call 12; (first | (with_reducible refine (hca.out _).mono ?_) | (with_reducible refine (hcb.out _).mono ?_) | (with_reducible refine (hcc.out _).mono ?_)); rintro e w3 ⟨rfl, rfl⟩)
            go_ret2
            exact ⟨by rw [hi.out, hd.out, hre.out] <;> rfl, hb0⟩
          cases bc
          · replace hre := Lib.hid hre
            go_wp2_with (go_at_call 12; (first | (with_reducible refine (hca.out _).mono ?_) | (with_reducible refine (hcb.out _).mono ?_) | (with_reducible refine (hcc.out _).mono ?_)); rintro e w3 ⟨rfl, rfl⟩)
            go_ret2
            exact ⟨by rw [hi.out, hd.out, hre.out] <;> rfl, hb0⟩
          replace hre := Lib.hid hre
          go_wp2_with (go_at_call 12; (first | (with_reducible refine (hca.out _).mono ?_) | (with_reducible refine (hcb.out _).mono ?_) | (with_reducible refine (hcc.out _).mono ?_)); rintro e w3 ⟨rfl, rfl⟩)
          go_roundw
          case rel => exact ⟨j + 1, by omega, by go_num, hb0, by rw [hi.out, hd.out, hre.out] <;> rfl⟩
          case measure => simp [intOf]; omega
    · go_wp2
      go_ret2
      have : k = l.length := by have := Hn.out; omega
      exact ⟨by rw [hi.out, this]; simp [eachS], hb0⟩
theorem r_StreamsErr (l : List Sm) (A : Option Addr) (c : Nat) (w : World) (hn : SmIn l A c w) : Calls Tryz.prog 8 #[.slice A l.length c] w (Ret (.int .i64 (smsErr l)) w) := by
  have hcall := Lib.hid (r_CheckStreams l A c w hn)
  have he : Hid ((smsChk l).2 = smsErr l) := rfl
  clear hn
  generalize l.length = n at *
  go_enter Tryz.func8, Tryz.ntmps8
  go_wp2_with fail
  refine hcall.out.mono ?_
  rintro e w3 ⟨rfl, hb3⟩
  go_wp2
  go_ret
  exact ⟨by rw [he.out] <;> rfl, hb3⟩
end Go.Proofs.YtbdgblnccjpahaaGreatDoor
