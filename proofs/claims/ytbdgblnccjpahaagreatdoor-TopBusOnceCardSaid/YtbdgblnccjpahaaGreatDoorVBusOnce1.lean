/-
  A sender's queues and worst responses turned: one frame less, one message less, a worst response.
  Walks: the first stream that has frames left. (Printed by gen_prio.py.)
  Walks: a sender's tick: what is carried.
  Walks: a sender's run; what is carried at each tick.
  Walks: what is carried by priority.
  Walks: the error of a message, its frame.
  Walk: the frame of a message.
  Walk: whether two lists of numbers are equal.
  Walk: whether two lists of ranges are equal.
  Walks: the laws' own examples.
  Walks: the laws are awake.
  How the laws' arguments read: numbers, ranges, pairs; what the laid tables hold.
  How the laws' arguments read, continued: messages, frames, pairs, streams.
  Walks: the reference's remainder of a division, and whether a list has a number.
  Walks: which nets are valid, by the reference: names met before, ascending indexes.
-/
import Derived.Test.YtbdgblnccjpahaaGreatDoorUO9
import Derived.Shelf.Abstract
import Derived.Test.YtbdgblnccjpahaaGreatDoorUO5
import Derived.Maps.AppendAt
import Derived.Laws.EntriesVeiled
import Derived.Test.YtbdgblnccjpahaaGreatDoorUO6
import Derived.Laws.CopyOwn
import Derived.Test.YtbdgblnccjpahaaGreatDoorUO4
import Derived.Test.YtbdgblnccjpahaaGreatDoorUO3
import Derived.Test.YtbdgblnccjpahaaGreatDoorUO12
import Derived.Test.YtbdgblnccjpahaaGreatDoorCards
import Derived.Test.YtbdgblnccjpahaaGreatDoorTie
import Derived.ProofKit
import Derived.Deep.Slices
import Derived.OpenShut
import Derived.ChangeOld
import Derived.Deep.DeepHandedRow
import Derived.Lib.LaidTab
import Derived.Lay
import Derived.LaidMore
import Derived.SevenTiedAt
import Derived.Test.YtbdgblnccjpahaaGreatDoorUO10
import Derived.Test.YtbdgblnccjpahaaGreatDoorUO8
set_option linter.unusedSimpArgs false
set_option linter.unusedVariables false
namespace Go.Proofs.YtbdgblnccjpahaaGreatDoor
open Go.RowKit Go.Shelf
set_option maxRecDepth 20000
section
variable {b S Bw n : Nat} {vl vs : Value} {Q : QS} {s : Ss} {w : World}
end
end Go.Proofs.YtbdgblnccjpahaaGreatDoor
namespace Go.Proofs.YtbdgblnccjpahaaGreatDoor
open Go.RowKit Go.Shelf
attribute [local go_sem] bl_al bl_drew bl_drewN bl_refl bx_al bx_drew bx_drewN bx_refl
set_option maxRecDepth 20000
end Go.Proofs.YtbdgblnccjpahaaGreatDoor
namespace Go.Proofs.YtbdgblnccjpahaaGreatDoor
open Go.RowKit Go.Shelf
attribute [local go_sem] bl_al bl_drew bl_drewN bl_refl bx_al bx_drew bx_drewN bx_refl
set_option maxRecDepth 20000
theorem bx_trX {X Y : List Nat} {w w1 w2 : World} (h1 : BX X w w1) (h2 : BX Y w1 w2) (hY : ∀ y ∈ Y, y ∈ X ∨ w.heap.size ≤ y) : BX X w w2 :=
  ⟨h2.os.trans h1.os, h2.tape.trans h1.tape, h2.output.trans h1.output, Nat.le_trans h1.size h2.size, fun i hi hX =>
    (h2.block i (Nat.lt_of_lt_of_le hi h1.size) (fun hm => by rcases hY i hm with h | h; exact hX h; omega)).trans (h1.block i hi hX), fun g hg t cs hk => by
    obtain ⟨c1, k1, e1⟩ := h1.shape g hg t cs hk
    by_cases hgY : g ∈ Y
    · obtain ⟨c2, k2, e2⟩ := h2.shape g hgY t c1 k1
      exact ⟨c2, k2, e2.trans e1⟩
    · exact ⟨c1, k1.keep hgY h2, e1⟩⟩
theorem foot_new {S Bw : Nat} {Q Q1 : QS} {w : World} (h : ∀ i, i < 6 → blA (Q1.A i) = blA (Q.A i) ∨ ∃ g, blA (Q1.A i) = [g] ∧ w.heap.size ≤ g) : ∀ y ∈ foot S Bw Q1, y ∈ foot S Bw Q ∨ w.heap.size ≤ y := fun y hy => by
  simp only [foot, List.mem_cons, List.mem_flatMap, List.mem_range] at hy ⊢
  rcases hy with rfl | rfl | ⟨i, hi, hy⟩
  · exact .inl (.inl rfl)
  · exact .inl (.inr (.inl rfl))
  · rcases h i hi with e | ⟨g, e, hg⟩
    · rw [e] at hy; exact .inl (.inr (.inr ⟨i, hi, hy⟩))
    · rw [e] at hy; simp at hy; subst hy; exact .inr hg
theorem Turn.trans {b S Bw n : Nat} {vl vs : Value} {Q Q1 Q2 : QS} {s2 : Ss} {w w1 w2 : World} (hx1 : BX (foot S Bw Q) w w1) (hq1 : ∀ i, i < 6 → blA (Q1.A i) = blA (Q.A i) ∨ ∃ g, blA (Q1.A i) = [g] ∧ w.heap.size ≤ g)
    (h2 : Snd b S Bw vl vs n Q2 s2 w2) (hx2 : BX (foot S Bw Q1) w1 w2) (hq2 : ∀ i, i < 6 → blA (Q2.A i) = blA (Q1.A i)) : Turn b S Bw vl vs n Q s2 w w2 :=
  ⟨Q2, h2, bx_trX hx1 hx2 (foot_new hq1), fun i hi => by rw [hq2 i hi]; exact hq1 i hi⟩
/-- What holds of a sender's messages ahead of a tick. -/
structure St (t n : Nat) (s : Ss) : Prop where
  none : ∀ i, n ≤ i → s.q i = []
  len : ∀ i, (s.q i).length ≤ t
  msg : ∀ i, ∀ m ∈ s.q i, 0 ≤ m.1 ∧ m.1 < t ∧ 1 ≤ m.2 ∧ m.2 ≤ 20
  wor : ∀ i, 0 ≤ s.wo i ∧ s.wo i ≤ t
end Go.Proofs.YtbdgblnccjpahaaGreatDoor
namespace Go.Proofs.YtbdgblnccjpahaaGreatDoor
open Go.RowKit Go.Shelf
attribute [local go_sem] bl_al bl_drew bl_drewN bl_refl bx_al bx_drew bx_drewN bx_refl
set_option maxRecDepth 20000
theorem St.zero (n : Nat) : St 0 n ss0 := ⟨fun _ _ => rfl, fun _ => Nat.le_refl _, fun _ m hm => by simp [ss0] at hm, fun _ => by simp [ss0]⟩
theorem Snd.grown {b S Bw n : Nat} {vl vs : Value} {Q : QS} {s : Ss} {w w' : World} {row : Option Nat} (h : Snd b S Bw vl vs n Q s w) (hg : w.grownBy w' row) (hr : ∀ g ∈ foot S Bw Q, some g ≠ row) : Snd b S Bw vl vs n Q s w' := by
  have key : ∀ {g t cs}, Blk w g t cs → g ∈ foot S Bw Q → Blk w' g t cs := fun hk hm => (hg.block _ hk.lt (hr _ hm)).trans hk
  refine ⟨key h.blk (by simp [foot]), key h.wor (by simp [foot]), fun i hi => ?_, h.bS, h.bW, h.SW, h.dis, h.dS, h.dW⟩
  rcases h.que i hi with h1 | ⟨g, off, cs, e, h1, h2, h3⟩
  · exact .inl h1
  · exact .inr ⟨g, off, cs, e, h1, key h2 (foot_q hi (by rw [e]; simp [blA])), h3⟩
end Go.Proofs.YtbdgblnccjpahaaGreatDoor
namespace Go.Proofs.YtbdgblnccjpahaaGreatDoor
open Go.RowKit Go.Shelf
attribute [local go_sem] bl_al bl_drew bl_drewN bl_refl bx_al bx_drew bx_drewN bx_refl
set_option maxRecDepth 20000
end Go.Proofs.YtbdgblnccjpahaaGreatDoor
namespace Go.Proofs.YtbdgblnccjpahaaGreatDoor
open Go.RowKit Go.Shelf
attribute [local go_sem] bl_al bl_drew bl_drewN bl_refl bx_al bx_drew bx_drewN bx_refl
set_option maxRecDepth 20000
/-- Numbers in the middle of a block. -/
theorem Blk.sub {w : World} {g off : Nat} {t : TypeId} {cs : Array Value} {l : List Int} (h : Blk w g t cs) (hl : ∀ k x, l[k]? = some x → cs[off + k]? = some (.int .i64 x)) : Sl cI 1 w (some ⟨g, off, none⟩) l := fun k x hx =>
  ⟨g, off, rfl, fun j v hv => by
    have hj : j = 0 := by
      have := (List.getElem?_eq_some_iff.1 hv).1
      simp [cI] at this; omega
    subst hj
    have hv' : v = .int .i64 x := by simpa [cI] using hv.symm
    subst hv'
    rw [h.cell]
    simpa using hl k x hx⟩
set_option maxHeartbeats 4000000 in
theorem c_CheckMessage (m : Ms) (w : World) : Calls Tryz.prog 77 #[vMs m] w (Ret (.int .i64 (msE m)) w) := by
  have hr : Hid (msE m = fstE [unl ((inR m.src 0 15 && inR m.kind 0 3) && byteB m.num) 2, bytesE [m.d0, m.d1, m.d2, m.d3]]) := rfl
  obtain ⟨m0, m1, m2, m3, m4, m5, m6⟩ := m
  dsimp only at hr
  cases hA : inR m0 0 15
  all_goals cases hB : inR m2 0 3
  all_goals
    rw [hA, hB] at hr
    simp only [Bool.false_and, Bool.true_and] at hr
    go_enter Tryz.func77, Tryz.ntmps77
    go_upto_region 2 with (first | (go_at_call 71; (with_reducible refine (c_within _ _ _ _).mono ?_); rintro e w3 ⟨rfl, rfl⟩) | (go_at_call 130; (with_reducible refine (c_isByte _ _).mono ?_); rintro e w3 ⟨rfl, rfl⟩))
    first
    | apply absB1 (w0 := w) (g0 := w.heap.size)
    | apply absTB1 (w0 := w) (g0 := w.heap.size)
    | apply absIB1 (w0 := w) (g0 := w.heap.size)
    iterate 2 (focus exact zL)
    try clear hb3
    try clear hb0
    try clear k0
    intro wa hb0 k0
    (try simp only [List.setIfInBounds_toArray, List.set_cons_zero, List.set_cons_succ] at k0)
    have Lk0 := k0.later
    have Fk0 := k0.laterF
    have Qk0 := k0.lt
    have hcb : Hid (∀ W : World, Below wa.heap.size wa W → Calls Tryz.prog 80 #[.slice (some ⟨w.heap.size, 3, none⟩) 4 4] W (Ret (.int .i64 (bytesE [m3, m4, m5, m6])) W)) := fun (W : World) (hb : Below wa.heap.size wa W) => c_bytesErr [m3, m4, m5, m6] (some ⟨w.heap.size, 3, none⟩) 4 W (by simp) ((k0.sub (l := [m3, m4, m5, m6]) (fun k x hx => by match k, hx with | 0, hx | 1, hx | 2, hx | 3, hx => simpa using hx)).below hb)
    refine wp_any (w0 := wa) ⟨[], [], [some 17, some 18, some 19, some 20, some 21, some 22, some 23, some 2], [[], [0], [], [2], [0, 1, 2, 3], [0, 1, 2, 3, 4], [0, 1, 2, 3, 4, 5], [0, 1, 2, 3, 4, 5, 6]], [[], [0], [], [2], [3], [1, 4], [5], [5, 6]]⟩ (fun _ => []) (by kernel_rfl) (by kernel_rfl) (by (exact zE)) (fun u => by simp only [putD, Act.put, List.setIfInBounds_toArray, List.set_cons_zero, List.set_cons_succ, Nat.zero_add, Nat.reduceAdd]; rfl) ?_
    apply RGW.on (i := 0) rfl
    · exact zG
    · intro γ u W hcur hd
      clear hd
      (try dsimp only)
      exact ⟨rfl, zS⟩
    · exact zC
    · rfl
    dsimp only [nA, cA]
    apply RGW.call (i := 1) rfl
    · exact zG
    · intro γ u W hcur hd
      obtain ⟨⟨h0, -, -⟩, -⟩ := hd
      dsimp only at h0
      (try simp only [h0])
      refine ⟨rfl, fun K hK => ?_⟩
      go_simp
      first
      | (go_at_call 58; (with_reducible refine (c_unless _ _ _).mono ?_); rintro e w3 ⟨rfl, rfl⟩)
      | (go_at_call 80; (with_reducible refine (hcb.out _ (by (exact zE))).mono ?_); rintro e w3 ⟨rfl, hb3⟩; replace hb3 := bl_tt hb3)
      | (go_at_call 74; (with_reducible refine (c_first2 (by (exact zK))).mono ?_); rintro e w3 ⟨rfl, rfl⟩)
      (try dsimp only)
      exact hK.out _ _ rfl (by (exact zE))
    · exact zC
    · rfl
    dsimp only [nA, cA]
    apply RGW.on (i := 2) rfl
    · exact zG
    · intro γ u W hcur hd
      clear hd
      (try dsimp only)
      exact ⟨rfl, zS⟩
    · exact zC
    · rfl
    dsimp only [nA, cA]
    apply RGW.on (i := 3) rfl
    · exact zG
    · intro γ u W hcur hd
      obtain ⟨⟨h2, -, -⟩, -⟩ := hd
      dsimp only at h2
      (try simp only [h2])
      exact ⟨rfl, zS⟩
    · exact zC
    · rfl
    dsimp only [nA, cA]
    apply RGW.call (i := 4) rfl
    · exact zG
    · intro γ u W hcur hd
      obtain ⟨⟨h3, -, -⟩, -⟩ := hd
      dsimp only at h3
      (try simp only [h3])
      refine ⟨rfl, fun K hK => ?_⟩
      go_simp
      first
      | (go_at_call 58; (with_reducible refine (c_unless _ _ _).mono ?_); rintro e w3 ⟨rfl, rfl⟩)
      | (go_at_call 80; (with_reducible refine (hcb.out _ (by (exact zE))).mono ?_); rintro e w3 ⟨rfl, hb3⟩; replace hb3 := bl_tt hb3)
      | (go_at_call 74; (with_reducible refine (c_first2 (by (exact zK))).mono ?_); rintro e w3 ⟨rfl, rfl⟩)
      (try dsimp only)
      exact hK.out _ _ rfl (by (exact zE))
    · exact zC
    · rfl
    dsimp only [nA, cA]
    apply RGW.bslice (i := 5) rfl
    · exact zG
    · intro γ u W hcur hd
      obtain ⟨⟨h1, -, -⟩, ⟨h4, -, -⟩, -⟩ := hd
      dsimp only at h1 h4
      (try simp only [h1, h4])
      refine ⟨rfl, fun K hK => ?_⟩
      go_simp
      exact hK.out _ _ rfl rfl
    · exact zC
    · rfl
    · rfl
    dsimp only [nA, cA]
    apply RGW.call (i := 6) rfl
    · exact zG
    · intro γ u W hcur hd
      obtain ⟨⟨h5, r5, -⟩, -⟩ := hd
      dsimp only at h5 r5
      have L5 := r5.cell
      (try simp only [h5])
      refine ⟨rfl, fun K hK => ?_⟩
      go_simp
      first
      | (go_at_call 58; (with_reducible refine (c_unless _ _ _).mono ?_); rintro e w3 ⟨rfl, rfl⟩)
      | (go_at_call 80; (with_reducible refine (hcb.out _ (by (exact zE))).mono ?_); rintro e w3 ⟨rfl, hb3⟩; replace hb3 := bl_tt hb3)
      | (go_at_call 74; (with_reducible refine (c_first2 (by (exact zK))).mono ?_); rintro e w3 ⟨rfl, rfl⟩)
      (try dsimp only)
      exact hK.out _ _ rfl (by (exact zE))
    · first
      | exact zC
      | intro γ γ' hg
        try dsimp only
        have e5 := hg 5 (by decide)
        simp only [e5]
    · rfl
    dsimp only [nA, cA]
    apply RGW.on (i := 7) rfl
    · exact zG
    · intro γ u W hcur hd
      obtain ⟨⟨h5, r5, -⟩, ⟨h6, -, -⟩, -⟩ := hd
      dsimp only at h5 h6 r5
      have L5 := r5.cell
      (try simp only [h5, h6])
      exact ⟨rfl, zS⟩
    · first
      | exact zC
      | intro γ γ' hg
        try dsimp only
        have e5 := hg 5 (by decide)
        simp only [e5]
    · rfl
    dsimp only [nA, cA]
    refine RGW.fin (fun γ u wb hwb hd hdis => ?_)
    obtain ⟨⟨h0, -, -⟩, ⟨h1, -, -⟩, ⟨h2, -, -⟩, ⟨h3, -, -⟩, ⟨h4, -, -⟩, ⟨h5, r5, b5⟩, ⟨h6, -, -⟩, ⟨h7, -, -⟩, -⟩ := hd
    dsimp only at h0 h1 h2 h3 h4 h5 h6 h7 r5 b5
    clear hdis
    simp only [h0, h1, h2, h3, h4, h5, h6, h7]
    clear h7 h6 h5 h4 h3 h2 h1 h0
    replace b5 := b5 _ (List.mem_singleton.2 rfl)
    generalize hγ5 : (γ 5).n = g5 at *
    clear hγ5
    clear u
    simp only [List.map_nil]
    refine PlanW.done ?_
    have hb3 := bl_tt hwb
    go_wp2
    go_ret
    exact ⟨by rw [hr.out] <;> rfl, by (exact zE)⟩
end Go.Proofs.YtbdgblnccjpahaaGreatDoor
namespace Go.Proofs.YtbdgblnccjpahaaGreatDoor
open Go.RowKit Go.Shelf
attribute [local go_sem] bl_al bl_drew bl_drewN bl_refl bx_al bx_drew bx_drewN bx_refl
set_option maxRecDepth 20000
theorem ms_ok {m : Ms} (h : msE m = 0) : ∀ n ∈ [m.src, m.num, m.kind, m.d0, m.d1, m.d2, m.d3], 0 ≤ n ∧ n ≤ 255 := by
  unfold msE at h
  simp only [fst_cons] at h
  obtain ⟨h1, h2, -⟩ := h
  rw [unl_zero (by decide)] at h1
  simp only [Bool.and_eq_true, byteB, inR_iff] at h1
  have hd := bytes_ok h2
  simp only [List.mem_cons, List.not_mem_nil, or_false, forall_eq_or_imp, forall_eq] at hd ⊢
  omega
set_option maxHeartbeats 4000000 in
theorem c_Encoded (m : Ms) (w : World) : Calls Tryz.prog 25 #[vMs m] w (Ret (.tuple #[vFr (encS m).1, .int .i64 (encS m).2]) w) := by
  have hcm := Lib.hid fun (W : World) => c_CheckMessage m W
  have h1 : Hid (msE m ≠ 0 → encS m = (fr0, msE m)) := fun h => by rw [encS, if_neg h]
  have h2 : Hid (msE m = 0 → encS m = (frameOf m, 0)) := fun h => by rw [encS, if_pos h]
  have hb := Lib.hid fun h : msE m = 0 => ms_ok h
  have hfr : Hid (frameOf m = ⟨m.src, m.num, m.kind, m.d0, m.d1, m.d2, m.d3, remI [m.src, m.num, m.kind, m.d0, m.d1, m.d2, m.d3]⟩) := rfl
  go_enter Tryz.func25, Tryz.ntmps25
  go_wp2_with fail
  refine (hcm.out _).mono ?_
  rintro e w3 ⟨rfl, hb3⟩
  replace hb3 := bl_tt hb3
  apply absX2 (w0 := w) (w := w3) (g0 := w.heap.size) (g1 := w.heap.size + 1)
  iterate 3 (focus exact zL)
  try clear hb3
  try clear hb0
  try clear k0
  try clear k1
  intro wa hb0 k0 k1
  (try simp only [List.setIfInBounds_toArray, List.set_cons_zero, List.set_cons_succ] at k0 k1)
  have Lk0 := k0.later
  have Fk0 := k0.laterF
  have Qk0 := k0.lt
  have Lk1 := k1.later
  have Fk1 := k1.laterF
  have Qk1 := k1.lt
  have hq1 := k1.lt
  clear hcm
  by_cases h0 : msE m = 0
  · have h0' : (msE m != 0) = false := by simp [h0]
    have hs := Lib.hid (h2.out h0)
    have hbd := Lib.hid (hb.out h0)
    replace h0 := Lib.hid h0
    clear h1 h2 hb
    go_upto_region 5 with fail
    first
    | apply absB3 (w0 := w) (g0 := w.heap.size) (g1 := w.heap.size + 1) (g2 := wa.heap.size)
    | apply absTB3 (w0 := w) (g0 := w.heap.size) (g1 := w.heap.size + 1) (g2 := wa.heap.size)
    | apply absIB3 (w0 := w) (g0 := w.heap.size) (g1 := w.heap.size + 1) (g2 := wa.heap.size)
    iterate 4 (focus exact zL)
    try clear hb3
    try clear Lk0
    try clear Fk0
    try clear Qk0
    try clear Lk1
    try clear Fk1
    try clear Qk1
    try clear hb0
    try clear k0
    try clear k1
    try clear k2
    intro wb hb0 k0 k1 k2
    (try simp only [List.setIfInBounds_toArray, List.set_cons_zero, List.set_cons_succ] at k0 k1 k2)
    have Lk0 := k0.later
    have Fk0 := k0.laterF
    have Qk0 := k0.lt
    have Lk1 := k1.later
    have Fk1 := k1.laterF
    have Qk1 := k1.lt
    have Lk2 := k2.later
    have Fk2 := k2.laterF
    have Qk2 := k2.lt
    have hcp := run_copy_row (P := Tryz.prog) wb.drew 23 23 3 3 wa.heap.size 3 4 5 ⟨w.heap.size, 3, none⟩ 4 4 _ _ [.int .i64 m.d0, .int .i64 m.d1, .int .i64 m.d2, .int .i64 m.d3] Tryz.underlying23 (by kernel_rfl) (Blk.drew k2) rfl
      (fun j v hj => by
        have hc := (Blk.drew k0).cell
        match j, hj with
        | 0, hj | 1, hj | 2, hj | 3, hj =>
          simp only [List.getElem?_cons_zero, List.getElem?_cons_succ] at hj
          rw [← hj, Go.WideShapes.add_plain, hc]
          rfl) (by simp) (by simp [Value.oneCell'])
    simp only [List.take, List.drop, List.length_cons, List.length_nil, List.cons_append, List.nil_append, Nat.reduceAdd] at hcp
    go_region
    clear hcp
    have k2' := Blk.row (Blk.drew k2) #[.int .i64 m.src, .int .i64 m.num, .int .i64 m.kind, .int .i64 m.d0, .int .i64 m.d1, .int .i64 m.d2, .int .i64 m.d3, .int .i64 0]
    have hbr : Below w.heap.size w (wb.drew.setRow wa.heap.size #[.int .i64 m.src, .int .i64 m.num, .int .i64 m.kind, .int .i64 m.d0, .int .i64 m.d1, .int .i64 m.d2, .int .i64 m.d3, .int .i64 0]) := below_setRow (bl_drew hb0) (by omega) _
    have k1' := Blk.rowOther (Blk.drew k1) (show w.heap.size + 1 ≠ wa.heap.size by omega) #[.int .i64 m.src, .int .i64 m.num, .int .i64 m.kind, .int .i64 m.d0, .int .i64 m.d1, .int .i64 m.d2, .int .i64 m.d3, .int .i64 0]
    generalize wb.drew.setRow wa.heap.size _ = wc at *
    clear Lk0 Lk1 Lk2 Fk0 Fk1 Fk2 hb0 k0 k1 k2
    apply absX2 (w0 := w) (w := wc) (g0 := w.heap.size + 1) (g1 := wa.heap.size)
    iterate 3 (focus exact zL)
    try clear hb3
    try clear hb0
    try clear k1'
    try clear k2'
    intro wd hb0 k1' k2'
    (try simp only [List.setIfInBounds_toArray, List.set_cons_zero, List.set_cons_succ] at k1' k2')
    have Lk1' := k1'.later
    have Fk1' := k1'.laterF
    have Qk1' := k1'.lt
    have Lk2' := k2'.later
    have Fk2' := k2'.laterF
    have Qk2' := k2'.lt
    have hrm : Hid (Calls Tryz.prog 78 #[.slice (some ⟨wa.heap.size, 0, none⟩) 7 8] wd (Same (.int .i64 (remI [m.src, m.num, m.kind, m.d0, m.d1, m.d2, m.d3] : Nat)) wd)) :=
      c_remainder [m.src, m.num, m.kind, m.d0, m.d1, m.d2, m.d3] (some ⟨wa.heap.size, 0, none⟩) 8 wd (by simp) hbd.out (k2'.sub (l := [m.src, m.num, m.kind, m.d0, m.d1, m.d2, m.d3]) (fun k x hx => by match k, hx with | 0, hx | 1, hx | 2, hx | 3, hx | 4, hx | 5, hx | 6, hx => simpa using hx))
    go_wp2_with (go_at_call 78; (with_reducible refine hrm.out.mono ?_); rintro e w4 ⟨rfl, rfl⟩)
    first
    | apply absPB2 (w0 := w) (g0 := w.heap.size + 1) (g1 := wa.heap.size)
    | apply absPMB2 (w0 := w) (g0 := w.heap.size + 1) (g1 := wa.heap.size)
    iterate 3 (focus exact zL)
    try clear hb3
    try clear Lk1'
    try clear Fk1'
    try clear Qk1'
    try clear Lk2'
    try clear Fk2'
    try clear Qk2'
    try clear hb0
    try clear k1'
    try clear k2'
    intro wz hb0 k1' k2'
    (try simp only [List.setIfInBounds_toArray, List.set_cons_zero, List.set_cons_succ] at k1' k2')
    have hr := k1'.cell
    exact bodyPost_ret (v := .tuple #[vFr (frameOf m), .int .i64 0]) (by simp [results, Tryz.results25, go_sem, hr, hfr.out]) rfl ⟨by rw [hs.out] <;> rfl, hb0⟩
  · have h0' : (msE m != 0) = true := by simp [h0]
    have hs := Lib.hid (h1.out h0)
    replace h0 := Lib.hid h0
    clear h1 h2 hb
    go_wp2
    first
    | apply absPB1 (w0 := w) (g0 := w.heap.size + 1)
    | apply absPMB1 (w0 := w) (g0 := w.heap.size + 1)
    iterate 2 (focus exact zL)
    try clear hb3
    try clear hb0
    try clear k1
    intro wz hb0 k1
    (try simp only [List.setIfInBounds_toArray, List.set_cons_zero, List.set_cons_succ] at k1)
    have hr := k1.cell
    exact bodyPost_ret (v := .tuple #[vFr fr0, .int .i64 (msE m)]) (by simp [results, Tryz.results25, go_sem, hr, fr0]) rfl ⟨by rw [hs.out] <;> rfl, hb0⟩
end Go.Proofs.YtbdgblnccjpahaaGreatDoor
namespace Go.Proofs.YtbdgblnccjpahaaGreatDoor
open Go.RowKit
attribute [local go_sem] bl_al bl_drew bl_drewN bl_refl bx_al bx_drew bx_drewN bx_refl
set_option maxRecDepth 20000
/-- Whether two lists of numbers are equal. -/
def intsB (a b : List Int) : Bool := decide (a = b)
theorem take_step {a b : List Int} {k : Nat} {x : Int} (ha : a[k]? = some x) (hb : b[k]? = some x) (h : a.take k = b.take k) : a.take (k + 1) = b.take (k + 1) := by
  rw [List.take_add_one, List.take_add_one, ha, hb, h]
set_option maxHeartbeats 4000000 in
theorem r_IntsL (a b : List Int) (A B : Option Addr) (c d : Nat) (w : World) (ha : Sl cI 1 w A a) (hb : Sl cI 1 w B b) (h1 : a.length ≤ 1000000) (h2 : b.length ≤ 1000000) :
    Calls Tryz.prog 45 #[.slice A a.length c, .slice B b.length d] w (Ret (.bool (intsB a b)) w) := by
  have Ha := Lib.hid ha
  have Hb := Lib.hid hb
  clear ha hb
  by_cases hl : a.length = b.length
  · obtain ⟨n, Hn⟩ : ∃ n, Hid (a.length = n) := ⟨_, rfl⟩
    have Hm : Hid (b.length = n) := Lib.hid (by rw [← hl]; exact Hn.out)
    rw [Hn.out] at h1 ⊢
    rw [Hm.out]
    clear hl h2
    go_enter Tryz.func45, Tryz.ntmps45
    go_wp2
    go_loopw [5] (fun i wr => ∃ k : Nat, k ≤ n ∧ i = .int .i64 k ∧ Below w.heap.size w wr ∧ a.take k = b.take k) (fun i _ => n - (intOf i).toNat)
    case atStart => exact ⟨0, Nat.zero_le _, rfl, Below.refl _ _, rfl⟩
    case round =>
      obtain ⟨k, hk, rfl, hbw, hi⟩ := hrel
      replace hi := Lib.hid hi
      by_cases hlt : k < n
      · have hx : a[k]? = some (a[k]'(by rw [Hn.out]; exact hlt)) := List.getElem?_eq_getElem _
        generalize a[k]'(by rw [Hn.out]; exact hlt) = x at hx
        have hy : b[k]? = some (b[k]'(by rw [Hm.out]; exact hlt)) := List.getElem?_eq_getElem _
        generalize b[k]'(by rw [Hm.out]; exact hlt) = y at hy
        obtain ⟨ba, oa, hA, hca⟩ := Ha.out k x hx
        obtain ⟨bb, ob, hB, hcb⟩ := Hb.out k y hy
        have c0 : ∀ W, Below wr.heap.size wr W → W.cell? ⟨ba, oa + k, none⟩ = some (.int .i64 x) := later (by have := kcell hbw (hca 0 _ rfl); simpa using this)
        have c1 : ∀ W, Below wr.heap.size wr W → W.cell? ⟨bb, ob + k, none⟩ = some (.int .i64 y) := later (by have := kcell hbw (hcb 0 _ rfl); simpa using this)
        clear hca hcb
        have hnx : Hid (x = y → a.take (k + 1) = b.take (k + 1)) := fun h => take_step hx (h ▸ hy) hi.out
        have hno : Hid (x ≠ y → intsB a b = false) := fun h => by
          unfold intsB
          rw [decide_eq_false_iff_not]
          intro e
          rw [e, hy] at hx
          exact h (by injection hx with hx; exact hx.symm)
        clear hx hy
        subst hA hB
        go_wp2
        refine wp_any (w0 := wr) ⟨[], [], [some 17, some 18, some 19, some 20, some 21, some 22, some 23, some 24, some 25], [[], [], [0, 1], [0, 1, 2], [], [], [4, 5], [4, 5, 6], [0, 1, 2, 3, 4, 5, 6, 7]], [[], [], [0, 1], [2], [], [], [4, 5], [6], [3, 7]]⟩ (fun _ => []) (by kernel_rfl) (by kernel_rfl) (by (exact zE)) (fun u => by simp only [putD, Act.put, List.setIfInBounds_toArray, List.set_cons_zero, List.set_cons_succ, Nat.zero_add, Nat.reduceAdd]; rfl) ?_
        apply RGW.on (i := 0) rfl
        · exact zG
        · intro γ u W hcur hd
          clear hd
          (try dsimp only)
          exact ⟨rfl, zS⟩
        · exact zC
        · rfl
        dsimp only [nA, cA]
        apply RGW.on (i := 1) rfl
        · exact zG
        · intro γ u W hcur hd
          clear hd
          (try dsimp only)
          exact ⟨rfl, zS⟩
        · exact zC
        · rfl
        dsimp only [nA, cA]
        apply RGW.on (i := 2) rfl
        · exact zG
        · intro γ u W hcur hd
          obtain ⟨⟨h0, -, -⟩, ⟨h1, -, -⟩, -⟩ := hd
          dsimp only at h0 h1
          (try simp only [h0, h1])
          exact ⟨rfl, zS⟩
        · exact zC
        · rfl
        dsimp only [nA, cA]
        apply RGW.on (i := 3) rfl
        · exact zG
        · intro γ u W hcur hd
          obtain ⟨⟨h2, -, -⟩, -⟩ := hd
          dsimp only at h2
          (try simp only [h2])
          exact ⟨rfl, zS⟩
        · exact zC
        · rfl
        dsimp only [nA, cA]
        apply RGW.on (i := 4) rfl
        · exact zG
        · intro γ u W hcur hd
          clear hd
          (try dsimp only)
          exact ⟨rfl, zS⟩
        · exact zC
        · rfl
        dsimp only [nA, cA]
        apply RGW.on (i := 5) rfl
        · exact zG
        · intro γ u W hcur hd
          clear hd
          (try dsimp only)
          exact ⟨rfl, zS⟩
        · exact zC
        · rfl
        dsimp only [nA, cA]
        apply RGW.on (i := 6) rfl
        · exact zG
        · intro γ u W hcur hd
          obtain ⟨⟨h4, -, -⟩, ⟨h5, -, -⟩, -⟩ := hd
          dsimp only at h4 h5
          (try simp only [h4, h5])
          exact ⟨rfl, zS⟩
        · exact zC
        · rfl
        dsimp only [nA, cA]
        apply RGW.on (i := 7) rfl
        · exact zG
        · intro γ u W hcur hd
          obtain ⟨⟨h6, -, -⟩, -⟩ := hd
          dsimp only at h6
          (try simp only [h6])
          exact ⟨rfl, zS⟩
        · exact zC
        · rfl
        dsimp only [nA, cA]
        apply RGW.on (i := 8) rfl
        · exact zG
        · intro γ u W hcur hd
          obtain ⟨⟨h3, -, -⟩, ⟨h7, -, -⟩, -⟩ := hd
          dsimp only at h3 h7
          (try simp only [h3, h7])
          exact ⟨rfl, zS⟩
        · exact zC
        · rfl
        dsimp only [nA, cA]
        refine RGW.fin (fun γ u wj hwj hd hdis => ?_)
        obtain ⟨⟨h0, -, -⟩, ⟨h1, -, -⟩, ⟨h2, -, -⟩, ⟨h3, -, -⟩, ⟨h4, -, -⟩, ⟨h5, -, -⟩, ⟨h6, -, -⟩, ⟨h7, -, -⟩, ⟨h8, -, -⟩, -⟩ := hd
        dsimp only at h0 h1 h2 h3 h4 h5 h6 h7 h8
        clear hdis
        simp only [h0, h1, h2, h3, h4, h5, h6, h7, h8]
        clear h8 h7 h6 h5 h4 h3 h2 h1 h0
        clear u
        simp only [List.map_nil]
        refine PlanW.done ?_
        have hb3 := bl_tt hwj
        have hbj := bl_tr hbw hwj
        by_cases hxy : x = y
        · have e : (x != y) = false := by simp [hxy]
          have h' := Lib.hid (hnx.out hxy)
          clear hxy hnx hno
          go_wp2
          go_roundw
          case rel => exact ⟨k + 1, by omega, by go_num, hbj, h'.out⟩
          case measure => simp [intOf]; omega
        · have e : (x != y) = true := by simp [hxy]
          have h' := Lib.hid (hno.out hxy)
          clear hxy hnx hno
          go_wp2
          go_ret
          exact ⟨by rw [h'.out] <;> rfl, hbj⟩
      · go_wp2
        go_ret
        have hkn : k = n := by omega
        have e : intsB a b = true := by
          unfold intsB
          rw [decide_eq_true_eq]
          have := hi.out
          rw [hkn, List.take_of_length_le (by rw [Hn.out]; exact Nat.le_refl _), List.take_of_length_le (by rw [Hm.out]; exact Nat.le_refl _)] at this
          exact this
        exact ⟨by rw [e] <;> rfl, hbw⟩
  · have e : Hid (intsB a b = false) := by
      refine Lib.hid ?_
      unfold intsB
      rw [decide_eq_false_iff_not]
      intro h
      exact hl (by rw [h])
    have e' : ((a.length : Int) != (b.length : Int)) = true := by simp; omega
    clear hl
    generalize a.length = n at *
    generalize b.length = m at *
    go_enter Tryz.func45, Tryz.ntmps45
    go_wp2
    go_ret
    exact ⟨by rw [e.out] <;> rfl, bl_refl _⟩
theorem r_Ints (a b : List Int) (A B : Option Addr) (c d : Nat) (w : World) (ha : Sl cI 1 w A a) (hb : Sl cI 1 w B b) (h1 : a.length ≤ 1000) (h2 : b.length ≤ 1000) :
    Calls Tryz.prog 45 #[.slice A a.length c, .slice B b.length d] w (Ret (.bool (intsB a b)) w) := r_IntsL a b A B c d w ha hb (by omega) (by omega)
end Go.Proofs.YtbdgblnccjpahaaGreatDoor
namespace Go.Proofs.YtbdgblnccjpahaaGreatDoor
open Go.RowKit
attribute [local go_sem] bl_al bl_drew bl_drewN bl_refl bx_al bx_drew bx_drewN bx_refl
set_option maxRecDepth 20000
end Go.Proofs.YtbdgblnccjpahaaGreatDoor
namespace Go.Proofs.YtbdgblnccjpahaaGreatDoor
open Go.RowKit Go.Shelf
attribute [local go_sem] bl_al bl_drew bl_drewN bl_refl bx_al bx_drew bx_drewN bx_refl
set_option maxRecDepth 20000
def sms0 : List Sm := [⟨⟨#[97]⟩, 4, 4, 1⟩, ⟨⟨#[98]⟩, 6, 6, 2⟩, ⟨⟨#[99]⟩, 12, 12, 3⟩]
theorem ev_enc : encS ⟨0, 0, 0, 0, 0, 1, 0⟩ = (⟨0, 0, 0, 0, 0, 1, 0, 21⟩, 0) := by kernel_rfl
theorem ev_resp : respOf sms0 2 = (10, 0) := by kernel_rfl
theorem r_Streams (w : World) : Calls Tryz.prog 55 #[] w (fun e w' => e = .returned (.slice (some ⟨w.heap.size, 0, none⟩) 3 3) ∧ Below w.heap.size w w' ∧ SmIn sms0 (some ⟨w.heap.size, 0, none⟩) 3 w') := by
  go_enter Tryz.func55, Tryz.ntmps55
  go_wp2
  go_ret
  refine ⟨rfl, bl_al _ (bl_refl w), by decide, by decide, fun s hs => ?_, Blk.slC (cs := cSm) (l := sms0) (fun _ => rfl) (Blk.new w _ _)⟩
  have : s.name.size = 1 := by
    simp [sms0] at hs
    rcases hs with rfl | rfl | rfl <;> rfl
  rw [this]
  unfold maxLen
  omega
end Go.Proofs.YtbdgblnccjpahaaGreatDoor
namespace Go.Proofs.YtbdgblnccjpahaaGreatDoor
open Go.RowKit Go.Shelf
attribute [local go_sem] bl_al bl_drew bl_drewN bl_refl bx_al bx_drew bx_drewN bx_refl
set_option maxRecDepth 20000
end Go.Proofs.YtbdgblnccjpahaaGreatDoor
namespace Go.Proofs.YtbdgblnccjpahaaGreatDoor
open Go.ChangeShapes Go.WideShapes Go.ChangeAt Go.RowKit Go.Deep
set_option maxRecDepth 20000
theorem own : ownKnob Tryz.prog.godebug = none := by kernel_rfl
theorem laidOut : laidOutB Tryz.prog = true := by kernel_rfl
theorem len2 {α : Type} {l : List α} (h : l.length = 2) : ∃ a b, l = [a, b] := by
  match l, h with
  | [a, b], _ => exact ⟨a, b, rfl⟩
theorem len3 {α : Type} {l : List α} (h : l.length = 3) : ∃ a b c, l = [a, b, c] := by
  match l, h with
  | [a, b, c], _ => exact ⟨a, b, c, rfl⟩
theorem len4 {α : Type} {l : List α} (h : l.length = 4) : ∃ a b c d, l = [a, b, c, d] := by
  match l, h with
  | [a, b, c, d], _ => exact ⟨a, b, c, d, rfl⟩
theorem len7 {α : Type} {l : List α} (h : l.length = 7) : ∃ a b c d e f g, l = [a, b, c, d, e, f, g] := by
  match l, h with
  | [a, b, c, d, e, f, g], _ => exact ⟨a, b, c, d, e, f, g, rfl⟩
section
variable {H : Type} {enc : TypeId × Value → H} {w : World} {base : Nat} {spare : Nat → Bool} {held : Bool} {fuel : Nat} {cs : List Value} {y : DataW H × List MemPlace}
theorem ci : Tryz.prog.cellsOf 3 = 1 := by kernel_rfl
theorem rd_int (h : DataW.trod enc Tryz.prog w base spare held fuel 3 cs = some y) : ∃ x, cs = [.int .i64 x] := by
  obtain ⟨x, e, -⟩ := DataW.trod_int Tryz.underlying3 h
  exact ⟨x, e⟩
theorem choose_list {α : Type} {p : Nat → α → Prop} : ∀ n, (∀ i, i < n → ∃ x, p i x) → ∃ l : List α, l.length = n ∧ ∀ (i : Nat) (x : α), l[i]? = some x → p i x
  | 0, _ => ⟨[], rfl, fun i x h => by simp at h⟩
  | n + 1, h => by
    obtain ⟨l, h1, h2⟩ := choose_list n fun i hi => h i (by omega)
    obtain ⟨x, hx⟩ := h n (by omega)
    refine ⟨l ++ [x], by simp [h1], fun i y hy => ?_⟩
    rw [List.getElem?_append] at hy
    split at hy
    · exact h2 i y hy
    · rename_i hi
      have : i = n := by
        have := (List.getElem?_eq_some_iff.1 hy).1
        simp at this
        omega
      subst this
      simp [h1] at hy
      exact hy ▸ hx
/-- A slice that came in, of elements that are so many cells each. -/
theorem rd_slice {α : Type} {c : α → List Value} {ok : α → Prop} {t e sz : Nat} (hu : Tryz.prog.underlying t = some (.slice e)) (hsz : Tryz.prog.cellsOf e = sz) (h0 : 0 < sz) (hcl : ∀ x, (c x).length = sz)
    (hr : ∀ (n : Nat) (cs' : List Value) (z : DataW H × List MemPlace), DataW.trod enc Tryz.prog w base spare held n e cs' = some z → ∃ x, cs' = c x ∧ ok x)
    (h : DataW.trod enc Tryz.prog w base spare held fuel t cs = some y) : ∃ A cap, ∃ l : List α, cs = [.slice A l.length cap] ∧ l.length ≤ cap ∧ cap ≤ maxLen ∧ Sl c sz w A l ∧ ∀ x ∈ l, ok x := by
  rcases open_slice hu h with ⟨rfl, -⟩ | ⟨a, len, cap, m, n, D, Pl, rfl, -, hlc, hcm, hm, -, hel⟩
  · exact ⟨none, 0, [], rfl, Nat.le_refl _, Nat.zero_le _, Sl.nil, fun x hx => by cases hx⟩
  · have hlm : len ≤ m := by rw [hm]; split <;> omega
    obtain ⟨l, hl, hx⟩ := choose_list (p := fun i x => w.cells? base (a.add (i * sz)) sz = some (c x) ∧ ok x) len fun i hi => by
      obtain ⟨cs', h1, h2⟩ := hel i (by omega)
      obtain ⟨x, rfl, hk⟩ := hr _ _ _ h2
      rw [hsz] at h1
      exact ⟨x, h1, hk⟩
    refine ⟨some a, cap, l, by rw [hl], by omega, hcm, fun k x hk => ?_, fun x hm => ?_⟩
    · obtain ⟨h1, -⟩ := hx k x hk
      obtain ⟨-, -, h2⟩ := World.cells?_some h1
      have hcell : ∀ j v, (c x)[j]? = some v → w.cell? ((a.add (k * sz)).add j) = some v := fun j v hv => by
        have hj := (List.getElem?_eq_some_iff.1 hv).1
        have := h2 j (by rw [hcl] at hj; exact hj)
        rw [this]
        exact hv
      obtain ⟨b, off, spot⟩ := a
      have hs : spot = none := by
        have hlt : 0 < l.length := by have := (List.getElem?_eq_some_iff.1 hk).1; omega
        obtain ⟨x0, hx0⟩ : ∃ x0, l[0]? = some x0 := ⟨l[0], by simp⟩
        obtain ⟨h1', -⟩ := hx 0 x0 hx0
        obtain ⟨-, -, h2'⟩ := World.cells?_some h1'
        have hv : ∃ v, (c x0)[0]? = some v := ⟨(c x0)[0]'(by rw [hcl]; exact h0), by simp⟩
        obtain ⟨v, hv⟩ := hv
        have := h2' 0 h0
        rw [hv] at this
        simp only [Nat.zero_mul, Addr.add, if_true] at this
        exact World.cell?_spot this
      subst hs
      refine ⟨b, off, rfl, fun j v hv => ?_⟩
      have := hcell j v hv
      rw [Go.WideShapes.add_plain, Go.WideShapes.add_plain] at this
      exact this
    · obtain ⟨i, hi, rfl⟩ := List.getElem_of_mem hm
      exact (hx i _ (List.getElem?_eq_getElem hi)).2
/-- A slice of integers that came in. -/
theorem rd_Is (h : DataW.trod enc Tryz.prog w base spare held fuel 23 cs = some y) : ∃ A c, ∃ l : List Int, cs = [.slice A l.length c] ∧ l.length ≤ c ∧ c ≤ maxLen ∧ Sl cI 1 w A l := by
  obtain ⟨A, c, l, e, h1, h2, h3, -⟩ := rd_slice (c := cI) (ok := fun _ : Int => True) Tryz.underlying23 ci (by decide) (fun _ => rfl) (fun _ _ _ hz => (rd_int hz).imp fun _ e => ⟨e, trivial⟩) h
  exact ⟨A, c, l, e, h1, h2, h3⟩
end
theorem agg_of {P : Program} {W : World} {base : Nat} {t : TypeId} {v : Value} {fs : Array Field} (hu : P.underlying t = some (.struct fs)) (h : Value.okWide P W .any base t v) : ∃ cs, v = .agg cs := by
  unfold Value.okWide at h
  rw [hu] at h
  exact ⟨_, h.choose_spec.1⟩
theorem agg_cells {cs : Array Value} {l : List Value} (h : (Value.agg cs).cells.toList = l) : Value.agg cs = .agg l.toArray := by
  rw [← h]
  simp [Value.cells]
theorem slice_of {P : Program} {W : World} {base : Nat} {t e : TypeId} {v : Value} (hu : P.underlying t = some (.slice e)) (h : Value.okWide P W .any base t v) : ∃ a m k, v = .slice a m k := by
  unfold Value.okWide at h
  simp only [hu] at h
  cases v with
  | slice a m k => exact ⟨a, m, k, rfl⟩
  | _ => simp [Cell.okWide, Cell.ok, hu] at h
theorem one_cell {v u : Value} (g : v.cells.toList = [u]) (hv : v.cells = #[v] := by rfl) : v = u := by
  rw [hv] at g
  simpa using g
end Go.Proofs.YtbdgblnccjpahaaGreatDoor
namespace Go.Proofs.YtbdgblnccjpahaaGreatDoor
open Go.ChangeShapes Go.WideShapes Go.ChangeAt Go.RowKit Go.Deep
set_option maxRecDepth 20000
theorem cI4 : Tryz.prog.cellsOf 50 = 4 := by kernel_rfl
theorem cMs7 : Tryz.prog.cellsOf 52 = 7 := by kernel_rfl
section
variable {H : Type} {enc : TypeId × Value → H} {w : World} {base : Nat} {spare : Nat → Bool} {held : Bool} {fuel : Nat} {cs : List Value} {y : DataW H × List MemPlace}
theorem rd_I4 (h : DataW.trod enc Tryz.prog w base spare held fuel 50 cs = some y) : ∃ p q r s : Int, cs = [.int .i64 p, .int .i64 q, .int .i64 r, .int .i64 s] := by
  obtain ⟨xs, n, -, -, hl, hlen, hf⟩ := DataW.trod_array Tryz.underlying50 h
  rw [cI4] at hl
  obtain ⟨c0, c1, c2, c3, rfl⟩ := len4 hl
  obtain ⟨x0, x1, x2, x3, rfl⟩ := len4 hlen
  have h0 := hf 0 (by decide)
  have h1 := hf 1 (by decide)
  have h2 := hf 2 (by decide)
  have h3 := hf 3 (by decide)
  simp [ci] at h0 h1 h2 h3
  obtain ⟨a, e0⟩ := rd_int h0
  obtain ⟨b, e1⟩ := rd_int h1
  obtain ⟨c, e2⟩ := rd_int h2
  obtain ⟨d, e3⟩ := rd_int h3
  simp at e0 e1 e2 e3
  exact ⟨a, b, c, d, by rw [e0, e1, e2, e3]⟩
theorem rd_Ms (h : DataW.trod enc Tryz.prog w base spare held fuel 52 cs = some y) : ∃ m : Ms, cs = (aMs m).toList := by
  obtain ⟨xs, n, -, -, hl, hlen, hf⟩ := DataW.trod_struct Tryz.underlying52 h
  rw [cMs7] at hl
  obtain ⟨c0, c1, c2, c3, c4, c5, c6, rfl⟩ := len7 hl
  obtain ⟨x0, x1, x2, x3, rfl⟩ := len4 (show xs.length = 4 from hlen)
  have h0 := hf 0 _ rfl
  have h1 := hf 1 _ rfl
  have h2 := hf 2 _ rfl
  have h3 := hf 3 _ rfl
  simp [ci, cI4] at h0 h1 h2 h3
  obtain ⟨a, e0⟩ := rd_int h0
  obtain ⟨b, e1⟩ := rd_int h1
  obtain ⟨c, e2⟩ := rd_int h2
  obtain ⟨p, q, r, s, e3⟩ := rd_I4 h3
  simp at e0 e1 e2 e3
  exact ⟨⟨a, b, c, p, q, r, s⟩, by rw [e0, e1, e2, e3.1, e3.2.1, e3.2.2.1, e3.2.2.2]⟩
end
end Go.Proofs.YtbdgblnccjpahaaGreatDoor
namespace Go.Proofs.YtbdgblnccjpahaaGreatDoor
open Go.RowKit Go.Shelf
attribute [local go_sem] bl_al bl_drew bl_drewN bl_refl bx_al bx_drew bx_drewN bx_refl
set_option maxRecDepth 20000
theorem md_neg {n d : Int} (hd : 0 < d) (h : n.tmod d < 0) : n.tmod d + d = n % d := by
  have h1 := Int.mul_tdiv_add_tmod n d
  have h2 := Int.lt_tmod_of_pos n hd
  have h3 := (Int.ediv_emod_unique (a := n) (b := d) (r := n.tmod d + d) (q := n.tdiv d - 1) hd).2 ⟨by rw [Int.mul_sub]; omega, by omega, by omega⟩
  exact h3.2.symm
theorem md_pos {n d : Int} (hd : 0 < d) (h : ¬ n.tmod d < 0) : n.tmod d = n % d := by
  have h1 := Int.mul_tdiv_add_tmod n d
  have h2 := Int.tmod_lt_of_pos n hd
  have h3 := (Int.ediv_emod_unique (a := n) (b := d) (r := n.tmod d) (q := n.tdiv d) hd).2 ⟨by omega, by omega, h2⟩
  exact h3.2.symm
theorem r_Mod (n d : Int) (w : World) (h3 : 0 < d) (h4 : d ≤ 1000000000000) : Calls Tryz.prog 26 #[.int .i64 n, .int .i64 d] w (Same (.int .i64 (n % d)) w) := by
  have q3 := Int.lt_tmod_of_pos n h3
  have q4 := Int.tmod_lt_of_pos n h3
  have hd : d ≠ 0 := by omega
  by_cases hT : n.tmod d < 0
  · have e := Lib.hid (md_neg h3 hT)
    have hT' : decide (n.tmod d < 0) = true := by simp [hT]
    go_enter Tryz.func26, Tryz.ntmps26
    go_wp2
    all_goals (go_ret; exact ⟨by rw [← e.out] <;> rfl, rfl⟩)
  · have e := Lib.hid (md_pos h3 hT)
    have hT' : decide (n.tmod d < 0) = false := by simp [hT]
    go_enter Tryz.func26, Tryz.ntmps26
    go_wp2
    all_goals (go_ret; exact ⟨by rw [← e.out] <;> rfl, rfl⟩)
set_option maxHeartbeats 2000000 in
theorem r_Has (l : List Int) (x : Int) (A : Option Addr) (c : Nat) (w : World) (hl : Sl cI 1 w A l) (hll : l.length ≤ 1000) :
    Calls Tryz.prog 13 #[.slice A l.length c, .int .i64 x] w (Ret (.bool (l.contains x)) w) := by
  have Hl := Lib.hid hl
  obtain ⟨n, Hn⟩ : ∃ n, Hid (l.length = n) := ⟨_, rfl⟩
  rw [Hn.out] at hll ⊢
  clear hl
  go_enter Tryz.func13, Tryz.ntmps13
  go_wp2
  go_loopw [5] (fun i wr => ∃ k : Nat, k ≤ n ∧ i = .int .i64 k ∧ Below w.heap.size w wr ∧ l.contains x = (l.drop k).contains x) (fun i _ => n - (intOf i).toNat)
  case atStart => exact ⟨0, Nat.zero_le _, rfl, Below.refl _ _, rfl⟩
  case round =>
    obtain ⟨k, hk, rfl, hb, hi⟩ := hrel
    replace hi := Lib.hid hi
    by_cases hlt : k < n
    · have hx : l[k]? = some (l[k]'(by rw [Hn.out]; exact hlt)) := List.getElem?_eq_getElem _
      generalize l[k]'(by rw [Hn.out]; exact hlt) = y at hx
      obtain ⟨b, off, hA, hc⟩ := Hl.out k y hx
      have c0 : wr.cell? ⟨b, off + k, none⟩ = some (.int .i64 y) := by have := kcell hb (hc 0 _ rfl); simpa using this
      have hd : Hid (l.drop k = y :: l.drop (k + 1)) := by
        have hk' := (List.getElem?_eq_some_iff.1 hx).1
        refine Lib.hid ?_
        rw [List.drop_eq_getElem_cons hk', (List.getElem?_eq_some_iff.1 hx).2]
      clear hc hx
      subst hA
      cases hyx : y == x
      · have hyx' : (x == y) = false := by rw [Bool.eq_false_iff] at hyx ⊢; intro h; exact hyx (by rw [beq_iff_eq] at h ⊢; exact h.symm)
        go_wp2
        go_roundw
        case rel => exact ⟨k + 1, by omega, by go_num, hb, by rw [hi.out, hd.out, List.contains_cons, hyx', Bool.false_or]⟩
        case measure => simp [intOf]; omega
      · have hyx' : (x == y) = true := by rw [beq_iff_eq] at hyx ⊢; exact hyx.symm
        go_wp2
        go_ret
        exact ⟨by rw [hi.out, hd.out, List.contains_cons, hyx', Bool.true_or] <;> rfl, hb⟩
    · go_wp2
      go_ret
      have : k = l.length := by have := Hn.out; omega
      exact ⟨by rw [hi.out, this]; simp, hb⟩
end Go.Proofs.YtbdgblnccjpahaaGreatDoor
namespace Go.Proofs.YtbdgblnccjpahaaGreatDoor
open Go.RowKit Go.Shelf
attribute [local go_sem] bl_al bl_drew bl_drewN bl_refl bx_al bx_drew bx_drewN bx_refl
set_option maxRecDepth 20000
set_option maxHeartbeats 2000000 in
theorem r_HasText (l : List ByteArray) (s : ByteArray) (A : Option Addr) (c : Nat) (w : World) (hl : Sl cS 1 w A l) (hll : l.length ≤ 1000) :
    Calls Tryz.prog 133 #[.slice A l.length c, .string s] w (Same (.bool (knownB l s)) w) := by
  have Hl := Lib.hid hl
  have hst := Lib.hid fun (k : Nat) (x : ByteArray) (hx : l[k]? = some x) => (show knownB (l.drop k) s = ((x.toList == s.toList) || knownB (l.drop (k + 1)) s) by
    have hk' := (List.getElem?_eq_some_iff.1 hx).1
    unfold knownB
    rw [List.drop_eq_getElem_cons hk', (List.getElem?_eq_some_iff.1 hx).2, List.any_cons])
  have hen : Hid (knownB (l.drop l.length) s = false) := Lib.hid (by rw [List.drop_length]; rfl)
  obtain ⟨g, hg⟩ : ∃ g : Nat → Bool, ∀ k, knownB (l.drop k) s = g k := ⟨_, fun _ => rfl⟩
  have he0 : knownB l s = g 0 := by rw [← hg]; rfl
  rw [he0]
  simp only [hg] at hst hen
  clear hg he0 hl
  obtain ⟨n, Hn⟩ : ∃ n, Hid (l.length = n) := ⟨_, rfl⟩
  rw [Hn.out] at hen hll ⊢
  go_enter Tryz.func133, Tryz.ntmps133
  go_wp2
  go_loopw [5] (fun i wr => ∃ k : Nat, k ≤ n ∧ i = .int .i64 k ∧ w = wr ∧ g 0 = g k) (fun i _ => n - (intOf i).toNat)
  case atStart => exact ⟨0, Nat.zero_le _, rfl, rfl, rfl⟩
  case round =>
    obtain ⟨k, hk, rfl, rfl, hi⟩ := hrel
    replace hi := Lib.hid hi
    by_cases hlt : k < n
    · have hx : l[k]? = some (l[k]'(by rw [Hn.out]; exact hlt)) := List.getElem?_eq_getElem _
      generalize l[k]'(by rw [Hn.out]; exact hlt) = y at hx
      obtain ⟨b, off, rfl, hc⟩ := Hl.out k y hx
      have c0 : w.cell? ⟨b, off + k, none⟩ = some (.string y) := by simpa using hc 0 _ rfl
      have hd := Lib.hid (hst.out k y hx)
      clear hc hx
      cases hyx : y.toList == s.toList
      · have e2 := Lib.hid (show g 0 = g (k + 1) by rw [hi.out, hd.out, hyx, Bool.false_or])
        go_wp2
        go_roundw
        case rel => exact ⟨k + 1, by omega, by go_num, by trivial, e2.out⟩
        case measure => simp [intOf]; omega
      · have e2 := Lib.hid (show g 0 = true by rw [hi.out, hd.out, hyx, Bool.true_or])
        go_wp2
        go_ret
        exact ⟨by rw [e2.out] <;> rfl, rfl⟩
    · obtain rfl : k = n := by omega
      have e2 := Lib.hid (hi.out.trans hen.out)
      go_wp2
      go_ret
      exact ⟨by rw [e2.out] <;> rfl, rfl⟩
def ixErr (l : List Int) (ct : Int) (k : Nat) (n : Int) : Int := fstE [unl (inR n 0 (ct - 1)) 6, unl (decide (prevI l k < n)) 9]
theorem idxErr_eq (l : List Int) (ct : Int) : idxErr l ct = (eachS (ixErr l ct) l 0).2 := rfl
set_option maxHeartbeats 8000000 in
theorem r_IndexesErrL (l : List Int) (ct : Int) (A : Option Addr) (c : Nat) (w : World) (hs : Sl cI 1 w A l) (hl : l.length ≤ maxLen) (hc : 0 ≤ ct ∧ ct ≤ 1000000) :
    Calls Tryz.prog 134 #[.slice A l.length c, .int .i64 ct] w (Ret (.int .i64 (idxErr l ct)) w) := by
  have Hs := Lib.hid hs
  unfold maxLen at hl
  rw [idxErr_eq]
  obtain ⟨hc0, hc1⟩ := hc
  obtain ⟨n, Hn⟩ : ∃ n, Hid (l.length = n) := ⟨_, rfl⟩
  rw [Hn.out] at hl ⊢
  clear hs
  go_enter Tryz.func134, Tryz.ntmps134
  go_wp2
  go_loopw [5] (fun i wr => ∃ k : Nat, k ≤ n ∧ i = .int .i64 k ∧ Below w.heap.size w wr ∧ eachS (ixErr l ct) l 0 = eachS (ixErr l ct) (l.drop k) k) (fun i _ => n - (intOf i).toNat)
  case atStart => exact ⟨0, Nat.zero_le _, rfl, bl_refl _, rfl⟩
  case round =>
    obtain ⟨k, hk, rfl, hb0, hi0⟩ := hrel
    replace hi0 := Lib.hid hi0
    by_cases hkn : k < n
    · have hx : l[k]? = some (l[k]'(by rw [Hn.out]; exact hkn)) := List.getElem?_eq_getElem _
      generalize l[k]'(by rw [Hn.out]; exact hkn) = x at hx
      have hd := Lib.hid (eachS_drop (ixErr l ct) l k x hx)
      obtain ⟨b, off, rfl, hc⟩ := Hs.out k x hx
      have c0 : ∀ W, Below wr.heap.size wr W → W.cell? ⟨b, off + k, none⟩ = some (.int .i64 x) := later (by have := kcell hb0 (hc 0 _ rfl); simpa using this)
      clear hc
      cases hT : inR x 0 (ct - 1)
      · have hh : ixErr l ct k x = 6 := by simp [ixErr, hT, fstE, unl]
        have hE : Hid ((eachS (ixErr l ct) l 0).2 = 6) := Lib.hid (by rw [hi0.out, hd.out, hh]; rfl)
        clear hi0 hd hh
        have c0' := c0 wr (bl_refl _)
        go_wp2_with (go_at_call 12; (with_reducible refine (hT ▸ r_Within x 0 (ct - 1) _).mono ?_); rintro e w3 ⟨rfl, rfl⟩)
        go_ret
        exact ⟨by rw [hE.out] <;> rfl, hb0⟩
      · have hx0 : 0 ≤ x := by simp [inR] at hT; omega
        have c0' := c0 wr (bl_refl _)
        go_upto_region 6 with (go_at_call 12; (with_reducible refine (hT ▸ r_Within x 0 (ct - 1) _).mono ?_); rintro e w3 ⟨rfl, rfl⟩)
        clear c0'
        by_cases hk0 : k = 0
        · subst hk0
          have hh : ixErr l ct 0 x = 0 := by simp [ixErr, hT, fstE, unl, prevI]; omega
          have hi1 := Lib.hid (show eachS (ixErr l ct) l 0 = eachS (ixErr l ct) (l.drop 1) 1 by rw [hi0.out, hd.out, if_pos hh])
          clear hi0 hd hh
          refine wp_any (w0 := wr) ⟨[], [], [some 20, some 21, some 22, some 23, some 24, some 25, some 26, some 27, some 28, some 29, some 30, some 31, some 32, some 33], [[], [0], [0, 1], [0, 1, 2], [0, 1, 2], [0, 1, 2, 3, 4], [0, 1, 2, 3, 4, 5], [0, 1, 2], [0, 1, 2], [0, 1, 2, 8], [0, 1, 2, 7, 8, 9], [0, 1, 2, 7, 8, 9, 10], [0, 1, 2, 3, 4, 5, 6, 7, 8, 9, 10, 11], [0, 1, 2, 3, 4, 5, 6, 7, 8, 9, 10, 11, 12]], [[], [0], [1], [2], [2], [2, 3, 4], [2, 5], [2], [2], [2, 8], [2, 7, 9], [2, 10], [2, 6, 11], [2, 12]]⟩ (fun _ => []) (by kernel_rfl) (by kernel_rfl) (by (exact zE)) (fun u => by simp only [putD, Act.put, List.setIfInBounds_toArray, List.set_cons_zero, List.set_cons_succ, Nat.zero_add, Nat.reduceAdd]; rfl) ?_
          apply RGW.on (i := 0) rfl
          · exact zG
          · intro γ u W hcur hd
            clear hd
            (try dsimp only)
            exact ⟨rfl, zS⟩
          · exact zC
          · rfl
          dsimp only [nA, cA]
          apply RGW.on (i := 1) rfl
          · exact zG
          · intro γ u W hcur hd
            obtain ⟨⟨h0, -, -⟩, -⟩ := hd
            dsimp only at h0
            (try simp only [h0])
            exact ⟨rfl, zS⟩
          · exact zC
          · rfl
          dsimp only [nA, cA]
          apply RGW.on (i := 2) rfl
          · exact zG
          · intro γ u W hcur hd
            obtain ⟨⟨h1, -, -⟩, -⟩ := hd
            dsimp only at h1
            (try simp only [h1])
            exact ⟨rfl, zS⟩
          · exact zC
          · rfl
          dsimp only [nA, cA]
          first
          | apply RGW.on (i := 3) rfl
            · exact zG
            · intro γ u W hcur hd
              obtain ⟨⟨h2, -, -⟩, -⟩ := hd
              dsimp only at h2
              (try simp only [h2])
              refine ⟨?_, ?_⟩
              · (simp [Region.wanted, yielded, undef, *]; done)
              exact zS
            · exact zC
            · rfl
          | apply RGW.off (i := 3) rfl
            · exact zG
            · intro γ u W hcur hd
              obtain ⟨⟨h2, -, -⟩, -⟩ := hd
              dsimp only at h2
              (try simp only [h2])
              simp [Region.wanted, yielded, undef, *]
            · rfl
          dsimp only [nA, cA]
          first
          | apply RGW.on (i := 4) rfl
            · exact zG
            · intro γ u W hcur hd
              obtain ⟨⟨h2, -, -⟩, -⟩ := hd
              dsimp only at h2
              (try simp only [h2])
              refine ⟨?_, ?_⟩
              · (simp [Region.wanted, yielded, undef, *]; done)
              exact zS
            · exact zC
            · rfl
          | apply RGW.off (i := 4) rfl
            · exact zG
            · intro γ u W hcur hd
              obtain ⟨⟨h2, -, -⟩, -⟩ := hd
              dsimp only at h2
              (try simp only [h2])
              simp [Region.wanted, yielded, undef, *]
            · rfl
          dsimp only [nA, cA]
          first
          | apply RGW.on (i := 5) rfl
            · exact zG
            · intro γ u W hcur hd
              obtain ⟨⟨h2, -, -⟩, ⟨h3, -, -⟩, ⟨h4, -, -⟩, -⟩ := hd
              dsimp only at h2 h3 h4
              (try simp only [h2, h3, h4])
              refine ⟨?_, ?_⟩
              · (simp [Region.wanted, yielded, undef, *]; done)
              exact zS
            · exact zC
            · rfl
          | apply RGW.off (i := 5) rfl
            · exact zG
            · intro γ u W hcur hd
              obtain ⟨⟨h2, -, -⟩, ⟨h3, -, -⟩, ⟨h4, -, -⟩, -⟩ := hd
              dsimp only at h2 h3 h4
              (try simp only [h2, h3, h4])
              simp [Region.wanted, yielded, undef, *]
            · rfl
          dsimp only [nA, cA]
          first
          | apply RGW.on (i := 6) rfl
            · exact zG
            · intro γ u W hcur hd
              obtain ⟨⟨h2, -, -⟩, ⟨h5, -, -⟩, -⟩ := hd
              dsimp only at h2 h5
              (try simp only [h2, h5])
              refine ⟨?_, ?_⟩
              · (simp [Region.wanted, yielded, undef, *]; done)
              exact zS
            · exact zC
            · rfl
          | apply RGW.off (i := 6) rfl
            · exact zG
            · intro γ u W hcur hd
              obtain ⟨⟨h2, -, -⟩, ⟨h5, -, -⟩, -⟩ := hd
              dsimp only at h2 h5
              (try simp only [h2, h5])
              simp [Region.wanted, yielded, undef, *]
            · rfl
          dsimp only [nA, cA]
          first
          | apply RGW.on (i := 7) rfl
            · exact zG
            · intro γ u W hcur hd
              obtain ⟨⟨h2, -, -⟩, -⟩ := hd
              dsimp only at h2
              (try simp only [h2])
              refine ⟨?_, ?_⟩
              · (simp [Region.wanted, yielded, undef, *]; done)
              exact zS
            · exact zC
            · rfl
          | apply RGW.off (i := 7) rfl
            · exact zG
            · intro γ u W hcur hd
              obtain ⟨⟨h2, -, -⟩, -⟩ := hd
              dsimp only at h2
              (try simp only [h2])
              simp [Region.wanted, yielded, undef, *]
            · rfl
          dsimp only [nA, cA]
          first
          | apply RGW.on (i := 8) rfl
            · exact zG
            · intro γ u W hcur hd
              obtain ⟨⟨h2, -, -⟩, -⟩ := hd
              dsimp only at h2
              (try simp only [h2])
              refine ⟨?_, ?_⟩
              · (simp [Region.wanted, yielded, undef, *]; done)
              exact zS
            · exact zC
            · rfl
          | apply RGW.off (i := 8) rfl
            · exact zG
            · intro γ u W hcur hd
              obtain ⟨⟨h2, -, -⟩, -⟩ := hd
              dsimp only at h2
              (try simp only [h2])
              simp [Region.wanted, yielded, undef, *]
            · rfl
          dsimp only [nA, cA]
          first
          | apply RGW.on (i := 9) rfl
            · exact zG
            · intro γ u W hcur hd
              obtain ⟨⟨h2, -, -⟩, ⟨h8, -, -⟩, -⟩ := hd
              dsimp only at h2 h8
              (try simp only [h2, h8])
              refine ⟨?_, ?_⟩
              · (simp [Region.wanted, yielded, undef, *]; done)
              exact zS
            · exact zC
            · rfl
          | apply RGW.off (i := 9) rfl
            · exact zG
            · intro γ u W hcur hd
              obtain ⟨⟨h2, -, -⟩, ⟨h8, -, -⟩, -⟩ := hd
              dsimp only at h2 h8
              (try simp only [h2, h8])
              simp [Region.wanted, yielded, undef, *]
            · rfl
          dsimp only [nA, cA]
          first
          | apply RGW.on (i := 10) rfl
            · exact zG
            · intro γ u W hcur hd
              obtain ⟨⟨h2, -, -⟩, ⟨h7, -, -⟩, ⟨h9, -, -⟩, -⟩ := hd
              dsimp only at h2 h7 h9
              (try simp only [h2, h7, h9])
              refine ⟨?_, ?_⟩
              · (simp [Region.wanted, yielded, undef, *]; done)
              exact zS
            · exact zC
            · rfl
          | apply RGW.off (i := 10) rfl
            · exact zG
            · intro γ u W hcur hd
              obtain ⟨⟨h2, -, -⟩, ⟨h7, -, -⟩, ⟨h9, -, -⟩, -⟩ := hd
              dsimp only at h2 h7 h9
              (try simp only [h2, h7, h9])
              simp [Region.wanted, yielded, undef, *]
            · rfl
          dsimp only [nA, cA]
          first
          | apply RGW.on (i := 11) rfl
            · exact zG
            · intro γ u W hcur hd
              obtain ⟨⟨h2, -, -⟩, ⟨h10, -, -⟩, -⟩ := hd
              dsimp only at h2 h10
              (try simp only [h2, h10])
              refine ⟨?_, ?_⟩
              · (simp [Region.wanted, yielded, undef, *]; done)
              exact zS
            · exact zC
            · rfl
          | apply RGW.off (i := 11) rfl
            · exact zG
            · intro γ u W hcur hd
              obtain ⟨⟨h2, -, -⟩, ⟨h10, -, -⟩, -⟩ := hd
              dsimp only at h2 h10
              (try simp only [h2, h10])
              simp [Region.wanted, yielded, undef, *]
            · rfl
          dsimp only [nA, cA]
          first
          | apply RGW.on (i := 12) rfl
            · exact zG
            · intro γ u W hcur hd
              obtain ⟨⟨h2, -, -⟩, ⟨h6, -, -⟩, ⟨h11, -, -⟩, -⟩ := hd
              dsimp only at h2 h6 h11
              (try simp only [h2, h6, h11])
              refine ⟨?_, ?_⟩
              · (simp [Region.wanted, yielded, undef, *]; done)
              exact zS
            · exact zC
            · rfl
          | apply RGW.off (i := 12) rfl
            · exact zG
            · intro γ u W hcur hd
              obtain ⟨⟨h2, -, -⟩, ⟨h6, -, -⟩, ⟨h11, -, -⟩, -⟩ := hd
              dsimp only at h2 h6 h11
              (try simp only [h2, h6, h11])
              simp [Region.wanted, yielded, undef, *]
            · rfl
          dsimp only [nA, cA]
          apply RGW.on (i := 13) rfl
          · exact zG
          · intro γ u W hcur hd
            obtain ⟨⟨h2, -, -⟩, ⟨h12, -, -⟩, -⟩ := hd
            dsimp only at h2 h12
            (try simp only [h2, h12])
            exact ⟨rfl, zS⟩
          · exact zC
          · rfl
          dsimp only [nA, cA]
          refine RGW.fin (fun γ u wj hwj hd hdis => ?_)
          obtain ⟨⟨h0, -, -⟩, ⟨h1, -, -⟩, ⟨h2, -, -⟩, ⟨h3, -, -⟩, ⟨h4, -, -⟩, ⟨h5, -, -⟩, ⟨h6, -, -⟩, ⟨h7, -, -⟩, ⟨h8, -, -⟩, ⟨h9, -, -⟩, ⟨h10, -, -⟩, ⟨h11, -, -⟩, ⟨h12, -, -⟩, ⟨h13, -, -⟩, -⟩ := hd
          dsimp only at h0 h1 h2 h3 h4 h5 h6 h7 h8 h9 h10 h11 h12 h13
          clear hdis
          simp only [h0, h1, h2, h3, h4, h5, h6, h7, h8, h9, h10, h11, h12, h13]
          clear h13 h12 h11 h10 h9 h8 h7 h6 h5 h4 h3 h2 h1 h0
          clear u
          simp only [List.map_nil]
          refine PlanW.done ?_
          have hb3 := bl_tt hwj
          have hbj := bl_tr hb0 hwj
          go_wp2
          go_roundw
          case rel => exact ⟨1, by omega, by go_num, hbj, hi1.out⟩
          case measure => simp [intOf]; omega
        · obtain ⟨j, rfl⟩ : ∃ j, k = j + 1 := ⟨k - 1, by omega⟩
          have hy : l[j]? = some (l[j]'(by rw [Hn.out]; omega)) := List.getElem?_eq_getElem _
          generalize l[j]'(by rw [Hn.out]; omega) = y at hy
          obtain ⟨b2, off2, e2, hc⟩ := Hs.out j y hy
          injection e2 with e2
          injection e2 with e2 e3 _
          subst e2 e3
          have c1 : ∀ W, Below wr.heap.size wr W → W.cell? ⟨b, off + j, none⟩ = some (.int .i64 y) := later (by have := kcell hb0 (hc 0 _ rfl); simpa using this)
          have hp : prevI l (j + 1) = y := by simp [prevI, hy]
          have hh : ixErr l ct (j + 1) x = unl (decide (y < x)) 9 := by
            unfold ixErr
            rw [hp, hT]
            by_cases h : y < x <;> simp [fstE, unl, h]
          have hnx := Lib.hid fun h : ixErr l ct (j + 1) x = 0 => (show eachS (ixErr l ct) l 0 = eachS (ixErr l ct) (l.drop (j + 2)) (j + 2) by rw [hi0.out, hd.out, if_pos h])
          have hno := Lib.hid fun h : ixErr l ct (j + 1) x ≠ 0 => (show (eachS (ixErr l ct) l 0).2 = ixErr l ct (j + 1) x by rw [hi0.out, hd.out, if_neg h])
          replace hh := Lib.hid hh
          have hj0 : (0 : Int) < (j : Int) + 1 := by omega
          have hjn : j < n := by omega
          have hj1 : (j : Int) + 1 < n := by omega
          have hj2 : ((j + 1 : Nat) : Int) < n := by omega
          have hj3 : (j : Int) < n := by omega
          have hj4 : (0 : Int) ≤ (j : Int) + 1 := by omega
          clear hi0 hd hc hp hx hy hT
          refine wp_any (w0 := wr) ⟨[], [], [some 20, some 21, some 22, some 23, some 24, some 25, some 26, some 27, some 28, some 29, some 30, some 31, some 32, some 33], [[], [0], [0, 1], [0, 1, 2], [0, 1, 2], [0, 1, 2, 3, 4], [0, 1, 2, 3, 4, 5], [0, 1, 2], [0, 1, 2], [0, 1, 2, 8], [0, 1, 2, 7, 8, 9], [0, 1, 2, 7, 8, 9, 10], [0, 1, 2, 3, 4, 5, 6, 7, 8, 9, 10, 11], [0, 1, 2, 3, 4, 5, 6, 7, 8, 9, 10, 11, 12]], [[], [0], [1], [2], [2], [2, 3, 4], [2, 5], [2], [2], [2, 8], [2, 7, 9], [2, 10], [2, 6, 11], [2, 12]]⟩ (fun _ => []) (by kernel_rfl) (by kernel_rfl) (by (exact zE)) (fun u => by simp only [putD, Act.put, List.setIfInBounds_toArray, List.set_cons_zero, List.set_cons_succ, Nat.zero_add, Nat.reduceAdd]; rfl) ?_
          apply RGW.on (i := 0) rfl
          · exact zG
          · intro γ u W hcur hd
            clear hd
            (try dsimp only)
            exact ⟨rfl, zS⟩
          · exact zC
          · rfl
          dsimp only [nA, cA]
          apply RGW.on (i := 1) rfl
          · exact zG
          · intro γ u W hcur hd
            obtain ⟨⟨h0, -, -⟩, -⟩ := hd
            dsimp only at h0
            (try simp only [h0])
            exact ⟨rfl, zS⟩
          · exact zC
          · rfl
          dsimp only [nA, cA]
          apply RGW.on (i := 2) rfl
          · exact zG
          · intro γ u W hcur hd
            obtain ⟨⟨h1, -, -⟩, -⟩ := hd
            dsimp only at h1
            (try simp only [h1])
            exact ⟨rfl, zS⟩
          · exact zC
          · rfl
          dsimp only [nA, cA]
          first
          | apply RGW.on (i := 3) rfl
            · exact zG
            · intro γ u W hcur hd
              obtain ⟨⟨h2, -, -⟩, -⟩ := hd
              dsimp only at h2
              (try simp only [h2])
              refine ⟨?_, ?_⟩
              · (simp [Region.wanted, yielded, undef, *]; done)
              exact zS
            · exact zC
            · rfl
          | apply RGW.off (i := 3) rfl
            · exact zG
            · intro γ u W hcur hd
              obtain ⟨⟨h2, -, -⟩, -⟩ := hd
              dsimp only at h2
              (try simp only [h2])
              simp [Region.wanted, yielded, undef, *]
            · rfl
          dsimp only [nA, cA]
          first
          | apply RGW.on (i := 4) rfl
            · exact zG
            · intro γ u W hcur hd
              obtain ⟨⟨h2, -, -⟩, -⟩ := hd
              dsimp only at h2
              (try simp only [h2])
              refine ⟨?_, ?_⟩
              · (simp [Region.wanted, yielded, undef, *]; done)
              exact zS
            · exact zC
            · rfl
          | apply RGW.off (i := 4) rfl
            · exact zG
            · intro γ u W hcur hd
              obtain ⟨⟨h2, -, -⟩, -⟩ := hd
              dsimp only at h2
              (try simp only [h2])
              simp [Region.wanted, yielded, undef, *]
            · rfl
          dsimp only [nA, cA]
          first
          | apply RGW.on (i := 5) rfl
            · exact zG
            · intro γ u W hcur hd
              obtain ⟨⟨h2, -, -⟩, ⟨h3, -, -⟩, ⟨h4, -, -⟩, -⟩ := hd
              dsimp only at h2 h3 h4
              (try simp only [h2, h3, h4])
              refine ⟨?_, ?_⟩
              · (simp [Region.wanted, yielded, undef, *]; done)
              exact zS
            · exact zC
            · rfl
          | apply RGW.off (i := 5) rfl
            · exact zG
            · intro γ u W hcur hd
              obtain ⟨⟨h2, -, -⟩, ⟨h3, -, -⟩, ⟨h4, -, -⟩, -⟩ := hd
              dsimp only at h2 h3 h4
              (try simp only [h2, h3, h4])
              simp [Region.wanted, yielded, undef, *]
            · rfl
          dsimp only [nA, cA]
          first
          | apply RGW.on (i := 6) rfl
            · exact zG
            · intro γ u W hcur hd
              obtain ⟨⟨h2, -, -⟩, ⟨h5, -, -⟩, -⟩ := hd
              dsimp only at h2 h5
              (try simp only [h2, h5])
              refine ⟨?_, ?_⟩
              · (simp [Region.wanted, yielded, undef, *]; done)
              exact zS
            · exact zC
            · rfl
          | apply RGW.off (i := 6) rfl
            · exact zG
            · intro γ u W hcur hd
              obtain ⟨⟨h2, -, -⟩, ⟨h5, -, -⟩, -⟩ := hd
              dsimp only at h2 h5
              (try simp only [h2, h5])
              simp [Region.wanted, yielded, undef, *]
            · rfl
          dsimp only [nA, cA]
          first
          | apply RGW.on (i := 7) rfl
            · exact zG
            · intro γ u W hcur hd
              obtain ⟨⟨h2, -, -⟩, -⟩ := hd
              dsimp only at h2
              (try simp only [h2])
              refine ⟨?_, ?_⟩
              · (simp [Region.wanted, yielded, undef, *]; done)
              exact zS
            · exact zC
            · rfl
          | apply RGW.off (i := 7) rfl
            · exact zG
            · intro γ u W hcur hd
              obtain ⟨⟨h2, -, -⟩, -⟩ := hd
              dsimp only at h2
              (try simp only [h2])
              simp [Region.wanted, yielded, undef, *]
            · rfl
          dsimp only [nA, cA]
          first
          | apply RGW.on (i := 8) rfl
            · exact zG
            · intro γ u W hcur hd
              obtain ⟨⟨h2, -, -⟩, -⟩ := hd
              dsimp only at h2
              (try simp only [h2])
              refine ⟨?_, ?_⟩
              · (simp [Region.wanted, yielded, undef, *]; done)
              exact zS
            · exact zC
            · rfl
          | apply RGW.off (i := 8) rfl
            · exact zG
            · intro γ u W hcur hd
              obtain ⟨⟨h2, -, -⟩, -⟩ := hd
              dsimp only at h2
              (try simp only [h2])
              simp [Region.wanted, yielded, undef, *]
            · rfl
          dsimp only [nA, cA]
          first
          | apply RGW.on (i := 9) rfl
            · exact zG
            · intro γ u W hcur hd
              obtain ⟨⟨h2, -, -⟩, ⟨h8, -, -⟩, -⟩ := hd
              dsimp only at h2 h8
              (try simp only [h2, h8])
              refine ⟨?_, ?_⟩
              · (simp [Region.wanted, yielded, undef, *]; done)
              exact zS
            · exact zC
            · rfl
          | apply RGW.off (i := 9) rfl
            · exact zG
            · intro γ u W hcur hd
              obtain ⟨⟨h2, -, -⟩, ⟨h8, -, -⟩, -⟩ := hd
              dsimp only at h2 h8
              (try simp only [h2, h8])
              simp [Region.wanted, yielded, undef, *]
            · rfl
          dsimp only [nA, cA]
          first
          | apply RGW.on (i := 10) rfl
            · exact zG
            · intro γ u W hcur hd
              obtain ⟨⟨h2, -, -⟩, ⟨h7, -, -⟩, ⟨h9, -, -⟩, -⟩ := hd
              dsimp only at h2 h7 h9
              (try simp only [h2, h7, h9])
              refine ⟨?_, ?_⟩
              · (simp [Region.wanted, yielded, undef, *]; done)
              exact zS
            · exact zC
            · rfl
          | apply RGW.off (i := 10) rfl
            · exact zG
            · intro γ u W hcur hd
              obtain ⟨⟨h2, -, -⟩, ⟨h7, -, -⟩, ⟨h9, -, -⟩, -⟩ := hd
              dsimp only at h2 h7 h9
              (try simp only [h2, h7, h9])
              simp [Region.wanted, yielded, undef, *]
            · rfl
          dsimp only [nA, cA]
          first
          | apply RGW.on (i := 11) rfl
            · exact zG
            · intro γ u W hcur hd
              obtain ⟨⟨h2, -, -⟩, ⟨h10, -, -⟩, -⟩ := hd
              dsimp only at h2 h10
              (try simp only [h2, h10])
              refine ⟨?_, ?_⟩
              · (simp [Region.wanted, yielded, undef, *]; done)
              exact zS
            · exact zC
            · rfl
          | apply RGW.off (i := 11) rfl
            · exact zG
            · intro γ u W hcur hd
              obtain ⟨⟨h2, -, -⟩, ⟨h10, -, -⟩, -⟩ := hd
              dsimp only at h2 h10
              (try simp only [h2, h10])
              simp [Region.wanted, yielded, undef, *]
            · rfl
          dsimp only [nA, cA]
          first
          | apply RGW.on (i := 12) rfl
            · exact zG
            · intro γ u W hcur hd
              obtain ⟨⟨h2, -, -⟩, ⟨h6, -, -⟩, ⟨h11, -, -⟩, -⟩ := hd
              dsimp only at h2 h6 h11
              (try simp only [h2, h6, h11])
              refine ⟨?_, ?_⟩
              · (simp [Region.wanted, yielded, undef, *]; done)
              exact zS
            · exact zC
            · rfl
          | apply RGW.off (i := 12) rfl
            · exact zG
            · intro γ u W hcur hd
              obtain ⟨⟨h2, -, -⟩, ⟨h6, -, -⟩, ⟨h11, -, -⟩, -⟩ := hd
              dsimp only at h2 h6 h11
              (try simp only [h2, h6, h11])
              simp [Region.wanted, yielded, undef, *]
            · rfl
          dsimp only [nA, cA]
          apply RGW.on (i := 13) rfl
          · exact zG
          · intro γ u W hcur hd
            obtain ⟨⟨h2, -, -⟩, ⟨h12, -, -⟩, -⟩ := hd
            dsimp only at h2 h12
            (try simp only [h2, h12])
            exact ⟨rfl, zS⟩
          · exact zC
          · rfl
          dsimp only [nA, cA]
          refine RGW.fin (fun γ u wj hwj hd hdis => ?_)
          obtain ⟨⟨h0, -, -⟩, ⟨h1, -, -⟩, ⟨h2, -, -⟩, ⟨h3, -, -⟩, ⟨h4, -, -⟩, ⟨h5, -, -⟩, ⟨h6, -, -⟩, ⟨h7, -, -⟩, ⟨h8, -, -⟩, ⟨h9, -, -⟩, ⟨h10, -, -⟩, ⟨h11, -, -⟩, ⟨h12, -, -⟩, ⟨h13, -, -⟩, -⟩ := hd
          dsimp only at h0 h1 h2 h3 h4 h5 h6 h7 h8 h9 h10 h11 h12 h13
          clear hdis
          simp only [h0, h1, h2, h3, h4, h5, h6, h7, h8, h9, h10, h11, h12, h13]
          clear h13 h12 h11 h10 h9 h8 h7 h6 h5 h4 h3 h2 h1 h0
          clear u
          simp only [List.map_nil]
          refine PlanW.done ?_
          have hb3 := bl_tt hwj
          have hbj := bl_tr hb0 hwj
          by_cases hyx : y < x
          · have hi1 := Lib.hid (hnx.out (by rw [hh.out]; simp [unl, hyx]))
            have hle : ¬ x ≤ y := by omega
            clear hh hnx hno
            go_wp2
            go_roundw
            case rel => exact ⟨j + 2, by omega, by go_num, hbj, hi1.out⟩
            case measure => simp [intOf]; omega
          · have hE : Hid ((eachS (ixErr l ct) l 0).2 = 9) := Lib.hid (by
              have e1 : ixErr l ct (j + 1) x = 9 := by rw [hh.out]; simp [unl, hyx]
              have e := hno.out (by rw [e1]; decide)
              rw [e, e1])
            have hle : x ≤ y := by omega
            clear hh hnx hno
            go_wp2
            go_ret
            exact ⟨by rw [hE.out] <;> rfl, hbj⟩
    · have e : k = n := by omega
      subst e
      have hz := Lib.hid (show (eachS (ixErr l ct) l 0).2 = 0 by rw [hi0.out, List.drop_of_length_le (by rw [Hn.out]; exact Nat.le_refl _)]; rfl)
      go_wp2
      go_ret
      exact ⟨by rw [hz.out] <;> rfl, hb0⟩
end Go.Proofs.YtbdgblnccjpahaaGreatDoor
