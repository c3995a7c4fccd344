/-
  Walks: the vote of a box and the fix of a box, with all errors.
-/
import Derived.Test.YtephimmamkafoaaVote
import Derived.Test.YtephimmamkafoaaOk
import Derived.Test.YtephimmamkafoaaOBox
namespace Go.Proofs.Ytephimmamkafoaa
set_option linter.unusedSimpArgs false
set_option linter.unusedVariables false
open Go.RowKit Go.Shelf
attribute [local go_sem] bl_al bl_drew bl_drewN bl_refl bx_al bx_drew bx_drewN bx_refl
set_option maxRecDepth 20000
def votesB (n : Nt) (b : Bx) (v : Vt) : Bx × Nat := votesOf (okB n.bs v.rs v.wrong) b.pts
def votedS (n : Nt) (b : Bx) (v : Vt) : Bx × Int × Int :=
  if votedE n b v = 0 then (if b.size ≤ 20000 then (if (votesB n b v).2 = 0 then (bx0, 0, 12) else ((votesB n b v).1, ((votesB n b v).2 : Int), 0)) else (bx0, 0, 8)) else (bx0, 0, votedE n b v)
abbrev vVt (A : Option Addr) (n c : Nat) (k : Int) : Value := .agg #[.slice A n c, .int .i64 k]
set_option maxHeartbeats 4000000 in
theorem c_VotedIn (n : Nt) (b : Bx) (v : Vt) (A A' : Option Addr) (c c' : Nat) (w : World) (hn : NtIn n A c w) (hl : Sl cRd 4 w A' v.rs) (hll : v.rs.length ≤ 1000) (hlb : n.bs.length ≤ 1000) :
    Calls Try.prog 23 #[vNt n.world (.slice A n.bs.length c), vBx b, vVt A' v.rs.length c' v.wrong] w
      (Ret (.tuple #[vBx (votedS n b v).1, .int .i64 (votedS n b v).2.1, .int .i64 (votedS n b v).2.2]) w) := by
  have hco := Lib.hid fun (W : World) (hb : Below w.heap.size w W) => c_openBox n b A c W (hn.below hb)
  have hcv := Lib.hid fun (W : World) (hb : Below w.heap.size w W) => c_voteErr n v A A' c c' W (hn.below hb) (hl.below hb) hll hlb
  have hcc := Lib.hid fun (W : World) (hb : Below w.heap.size w W) (h : votedE n b v = 0) (hs : b.size ≤ 20000) => c_vote n.world b n.bs A A' c c' v W (hn.sl.below hb) hlb (hl.below hb) (voted_ok h).2.1 (voted_ok h).1 hs (voted_ok h).2.2
  have hok := Lib.hid fun h : votedE n b v = 0 => (voted_ok h).1
  have hme : Hid (votedE n b v = fstE [boxErr n b, voteE n v]) := rfl
  have hs1 : Hid (votedE n b v ≠ 0 → votedS n b v = (bx0, 0, votedE n b v)) := fun h => by rw [votedS, if_neg h]
  have hs2 : Hid (votedE n b v = 0 → ¬ b.size ≤ 20000 → votedS n b v = (bx0, 0, 8)) := fun h h' => by rw [votedS, if_pos h, if_neg h']
  have hs3 : Hid (votedE n b v = 0 → b.size ≤ 20000 → votedS n b v = if (votesB n b v).2 = 0 then (bx0, 0, 12) else ((votesB n b v).1, ((votesB n b v).2 : Int), 0)) := fun h h' => by rw [votedS, if_pos h, if_pos h']
  replace hcc : Hid _ := hcc
  change Hid (∀ W, _ → _ → _ → Calls Try.prog 84 _ W (Ret (.tuple #[vBx (votesB n b v).1, .int .i64 (votesB n b v).2]) W)) at hcc
  clear hn hl
  generalize n.bs.length = nl at *
  generalize v.rs.length = ll at *
  go_enter Try.func23, Try.ntmps23
  go_wp2_with fail
  refine Calls.mono (hco.out _ ?_) ?_
  · solve_by_elim (maxDepth := 60) only [bl_al, bl_drew, bl_drewN, bl_refl, *]
  rintro e w3 ⟨rfl, hb3⟩
  replace hb3 := bl_tt hb3
  apply absX3 (w0 := w) (w := w3) (g0 := w.heap.size) (g1 := w.heap.size + 2) (g2 := w.heap.size + 3)
  iterate 4 (focus ((with_reducible (repeat' (first | assumption | apply bl_refl | apply bl_al | apply bl_drew | apply bl_drewN | (apply bl_set; case hp => (first | (simp; done) | (simp; omega) | (dsimp only; omega))) | (apply bl_row; case hg => (first | (simp; done) | (simp; omega) | omega)) | apply hb3 | apply bx_refl | (apply bx_set; case hp => (first | exact Or.inl (by simp; done) | exact Or.inr (by first | (simp; done) | (simp; omega) | (dsimp only; omega)))) | apply bx_drew | apply bx_al | apply bx_drewN | apply hb3x | (apply Blk.newAt; first | (simp; done) | rfl) | apply Blk.alloc | apply Blk.drew | apply Blk.drewN | apply Blk.set | (apply Blk.other; case hne => first | assumption | (simp; done) | (simp; omega) | omega) | apply Blk.row | (apply Blk.rowOther; case hne => first | assumption | (simp; done) | (simp; omega) | omega) | apply Blk.below (hb := hb3 _ (bl_refl _))))); done))
  intro wa hb0' k0' k2' k3'
  (try simp only [List.setIfInBounds_toArray, List.set_cons_zero, List.set_cons_succ] at k0' k2' k3')
  try clear hb3
  try clear hb0
  try clear k0
  try clear k2
  try clear k3
  have hb0 := hb0'; clear hb0'
  have k0 := k0'; clear k0'
  have k2 := k2'; clear k2'
  have k3 := k3'; clear k3'
  have Lk0 := k0.later
  have Fk0 := k0.laterF
  have Qk0 := k0.lt
  have Lk2 := k2.later
  have Fk2 := k2.laterF
  have Qk2 := k2.lt
  have Lk3 := k3.later
  have Fk3 := k3.laterF
  have Qk3 := k3.lt
  go_upto_region 2 with fail
  first
  | apply absB5 (w0 := w) (g0 := w.heap.size) (g1 := w.heap.size + 2) (g2 := w.heap.size + 3) (g3 := wa.heap.size) (g4 := wa.heap.size + 1)
  | apply absTB5 (w0 := w) (g0 := w.heap.size) (g1 := w.heap.size + 2) (g2 := w.heap.size + 3) (g3 := wa.heap.size) (g4 := wa.heap.size + 1)
  | apply absIB5 (w0 := w) (g0 := w.heap.size) (g1 := w.heap.size + 2) (g2 := w.heap.size + 3) (g3 := wa.heap.size) (g4 := wa.heap.size + 1)
  iterate 6 (focus ((with_reducible (repeat' (first | assumption | apply bl_refl | apply bl_al | apply bl_drew | apply bl_drewN | (apply bl_set; case hp => (first | (simp; done) | (simp; omega) | (dsimp only; omega))) | (apply bl_row; case hg => (first | (simp; done) | (simp; omega) | omega)) | apply hb3 | apply bx_refl | (apply bx_set; case hp => (first | exact Or.inl (by simp; done) | exact Or.inr (by first | (simp; done) | (simp; omega) | (dsimp only; omega)))) | apply bx_drew | apply bx_al | apply bx_drewN | apply hb3x | (apply Blk.newAt; first | (simp; done) | rfl) | apply Blk.alloc | apply Blk.drew | apply Blk.drewN | apply Blk.set | (apply Blk.other; case hne => first | assumption | (simp; done) | (simp; omega) | omega) | apply Blk.row | (apply Blk.rowOther; case hne => first | assumption | (simp; done) | (simp; omega) | omega) | apply Blk.below (hb := hb3 _ (bl_refl _))))); done))
  intro wb hb0' k0' k2' k3' k5' k6'
  (try simp only [List.setIfInBounds_toArray, List.set_cons_zero, List.set_cons_succ] at k0' k2' k3' k5' k6')
  try clear hb3
  try clear Lk0
  try clear Fk0
  try clear Qk0
  try clear Lk2
  try clear Fk2
  try clear Qk2
  try clear Lk3
  try clear Fk3
  try clear Qk3
  try clear hb0
  try clear k0
  try clear k2
  try clear k3
  try clear k5
  try clear k6
  have hb0 := hb0'; clear hb0'
  have k0 := k0'; clear k0'
  have k2 := k2'; clear k2'
  have k3 := k3'; clear k3'
  have k5 := k5'; clear k5'
  have k6 := k6'; clear k6'
  have Lk0 := k0.later
  have Fk0 := k0.laterF
  have Qk0 := k0.lt
  have Lk2 := k2.later
  have Fk2 := k2.laterF
  have Qk2 := k2.lt
  have Lk3 := k3.later
  have Fk3 := k3.laterF
  have Qk3 := k3.lt
  have Lk5 := k5.later
  have Fk5 := k5.laterF
  have Qk5 := k5.lt
  have Lk6 := k6.later
  have Fk6 := k6.laterF
  have Qk6 := k6.lt
  go_upto_region 3 with (first | (go_at_call 82; (with_reducible refine (hcv.out _ (bl_tr hb0 (by (with_reducible (repeat' (first | assumption | apply bl_refl | apply bl_al | apply bl_drew | apply bl_drewN | (apply bl_set; case hp => (first | (simp; done) | (simp; omega) | (dsimp only; omega))) | (apply bl_row; case hg => (first | (simp; done) | (simp; omega) | omega)) | apply hb3)))))).mono ?_); rintro e w3 ⟨rfl, hb3⟩; replace hb3 := bl_tt hb3) | (go_at_call 60; (with_reducible refine (c_first2 (by (with_reducible (repeat' (first | assumption | (apply Blk.newAt; first | (simp; done) | rfl) | apply Blk.alloc | apply Blk.drew | apply Blk.drewN | apply Blk.set | (apply Blk.other; case hne => first | assumption | (simp; done) | (simp; omega) | omega) | apply Blk.row | (apply Blk.rowOther; case hne => first | assumption | (simp; done) | (simp; omega) | omega) | apply Blk.below (hb := hb3 _ (bl_refl _))))))).mono ?_); rintro e w3 ⟨rfl, rfl⟩))
  first
  | apply absB5 (w0 := w) (g0 := w.heap.size) (g1 := w.heap.size + 2) (g2 := w.heap.size + 3) (g3 := wa.heap.size) (g4 := wa.heap.size + 1)
  | apply absTB5 (w0 := w) (g0 := w.heap.size) (g1 := w.heap.size + 2) (g2 := w.heap.size + 3) (g3 := wa.heap.size) (g4 := wa.heap.size + 1)
  | apply absIB5 (w0 := w) (g0 := w.heap.size) (g1 := w.heap.size + 2) (g2 := w.heap.size + 3) (g3 := wa.heap.size) (g4 := wa.heap.size + 1)
  iterate 6 (focus ((with_reducible (repeat' (first | assumption | apply bl_refl | apply bl_al | apply bl_drew | apply bl_drewN | (apply bl_set; case hp => (first | (simp; done) | (simp; omega) | (dsimp only; omega))) | (apply bl_row; case hg => (first | (simp; done) | (simp; omega) | omega)) | apply hb3 | apply bx_refl | (apply bx_set; case hp => (first | exact Or.inl (by simp; done) | exact Or.inr (by first | (simp; done) | (simp; omega) | (dsimp only; omega)))) | apply bx_drew | apply bx_al | apply bx_drewN | apply hb3x | (apply Blk.newAt; first | (simp; done) | rfl) | apply Blk.alloc | apply Blk.drew | apply Blk.drewN | apply Blk.set | (apply Blk.other; case hne => first | assumption | (simp; done) | (simp; omega) | omega) | apply Blk.row | (apply Blk.rowOther; case hne => first | assumption | (simp; done) | (simp; omega) | omega) | apply Blk.below (hb := hb3 _ (bl_refl _))))); done))
  intro wc hb0' k0' k2' k3' k5' k6'
  (try simp only [List.setIfInBounds_toArray, List.set_cons_zero, List.set_cons_succ] at k0' k2' k3' k5' k6')
  try clear hb3
  try clear Lk0
  try clear Fk0
  try clear Qk0
  try clear Lk2
  try clear Fk2
  try clear Qk2
  try clear Lk3
  try clear Fk3
  try clear Qk3
  try clear Lk5
  try clear Fk5
  try clear Qk5
  try clear Lk6
  try clear Fk6
  try clear Qk6
  try clear hb0
  try clear k0
  try clear k2
  try clear k3
  try clear k5
  try clear k6
  have hb0 := hb0'; clear hb0'
  have k0 := k0'; clear k0'
  have k2 := k2'; clear k2'
  have k3 := k3'; clear k3'
  have k5 := k5'; clear k5'
  have k6 := k6'; clear k6'
  have Lk0 := k0.later
  have Fk0 := k0.laterF
  have Qk0 := k0.lt
  have Lk2 := k2.later
  have Fk2 := k2.laterF
  have Qk2 := k2.lt
  have Lk3 := k3.later
  have Fk3 := k3.laterF
  have Qk3 := k3.lt
  have Lk5 := k5.later
  have Fk5 := k5.laterF
  have Qk5 := k5.lt
  have Lk6 := k6.later
  have Fk6 := k6.laterF
  have Qk6 := k6.lt
  rw [← hme.out]
  by_cases h0 : votedE n b v = 0
  · have h0' : (votedE n b v != 0) = false := by simp [h0]
    have hbo := hok.out h0
    have hcs := Lib.hid fun W : World => c_search b W hbo
    by_cases hsz : b.size ≤ 20000
    · have hcc' := Lib.hid fun (W : World) (hb : Below w.heap.size w W) => hcc.out W hb h0 hsz
      have hs := Lib.hid (hs3.out h0 hsz)
      have hsz' : Hid (unl (decide (b.size ≤ 20000)) 8 = 0) := by simp [unl, hsz]; exact Lib.hid trivial
      rw [hsz'.out] at hcs
      replace h0 := Lib.hid h0
      clear hs1 hs2 hs3 hcc hco hcv hok hme
      generalize votesB n b v = s at *
      obtain ⟨o, m⟩ := s
      dsimp only at hs hcc'
      go_upto_region 6 with (go_at_call 83; (with_reducible refine (hcs.out _).mono ?_); rintro e w3 ⟨rfl, hb3⟩; replace hb3 := bl_tt hb3)
      first
      | apply absB5 (w0 := w) (g0 := w.heap.size) (g1 := w.heap.size + 2) (g2 := w.heap.size + 3) (g3 := wa.heap.size) (g4 := wa.heap.size + 1)
      | apply absTB5 (w0 := w) (g0 := w.heap.size) (g1 := w.heap.size + 2) (g2 := w.heap.size + 3) (g3 := wa.heap.size) (g4 := wa.heap.size + 1)
      | apply absIB5 (w0 := w) (g0 := w.heap.size) (g1 := w.heap.size + 2) (g2 := w.heap.size + 3) (g3 := wa.heap.size) (g4 := wa.heap.size + 1)
      iterate 6 (focus ((with_reducible (repeat' (first | assumption | apply bl_refl | apply bl_al | apply bl_drew | apply bl_drewN | (apply bl_set; case hp => (first | (simp; done) | (simp; omega) | (dsimp only; omega))) | (apply bl_row; case hg => (first | (simp; done) | (simp; omega) | omega)) | apply hb3 | apply bx_refl | (apply bx_set; case hp => (first | exact Or.inl (by simp; done) | exact Or.inr (by first | (simp; done) | (simp; omega) | (dsimp only; omega)))) | apply bx_drew | apply bx_al | apply bx_drewN | apply hb3x | (apply Blk.newAt; first | (simp; done) | rfl) | apply Blk.alloc | apply Blk.drew | apply Blk.drewN | apply Blk.set | (apply Blk.other; case hne => first | assumption | (simp; done) | (simp; omega) | omega) | apply Blk.row | (apply Blk.rowOther; case hne => first | assumption | (simp; done) | (simp; omega) | omega) | apply Blk.below (hb := hb3 _ (bl_refl _))))); done))
      intro wd hb0' k0' k2' k3' k5' k6'
      (try simp only [List.setIfInBounds_toArray, List.set_cons_zero, List.set_cons_succ] at k0' k2' k3' k5' k6')
      try clear hb3
      try clear Lk0
      try clear Fk0
      try clear Qk0
      try clear Lk2
      try clear Fk2
      try clear Qk2
      try clear Lk3
      try clear Fk3
      try clear Qk3
      try clear Lk5
      try clear Fk5
      try clear Qk5
      try clear Lk6
      try clear Fk6
      try clear Qk6
      try clear hb0
      try clear k0
      try clear k2
      try clear k3
      try clear k5
      try clear k6
      have hb0 := hb0'; clear hb0'
      have k0 := k0'; clear k0'
      have k2 := k2'; clear k2'
      have k3 := k3'; clear k3'
      have k5 := k5'; clear k5'
      have k6 := k6'; clear k6'
      have Lk0 := k0.later
      have Fk0 := k0.laterF
      have Qk0 := k0.lt
      have Lk2 := k2.later
      have Fk2 := k2.laterF
      have Qk2 := k2.lt
      have Lk3 := k3.later
      have Fk3 := k3.laterF
      have Qk3 := k3.lt
      have Lk5 := k5.later
      have Fk5 := k5.laterF
      have Qk5 := k5.lt
      have Lk6 := k6.later
      have Fk6 := k6.laterF
      have Qk6 := k6.lt
      go_upto_region 9 with (go_at_call 84; (with_reducible refine (hcc'.out _ (bl_tr hb0 (by (with_reducible (repeat' (first | assumption | apply bl_refl | apply bl_al | apply bl_drew | apply bl_drewN | (apply bl_set; case hp => (first | (simp; done) | (simp; omega) | (dsimp only; omega))) | (apply bl_row; case hg => (first | (simp; done) | (simp; omega) | omega)) | apply hb3)))))).mono ?_); rintro e w3 ⟨rfl, hb3⟩; replace hb3 := bl_tt hb3)
      first
      | apply absB6 (w0 := w) (g0 := w.heap.size) (g1 := w.heap.size + 2) (g2 := w.heap.size + 3) (g3 := wa.heap.size) (g4 := wa.heap.size + 1) (g5 := w3.heap.size)
      | apply absTB6 (w0 := w) (g0 := w.heap.size) (g1 := w.heap.size + 2) (g2 := w.heap.size + 3) (g3 := wa.heap.size) (g4 := wa.heap.size + 1) (g5 := w3.heap.size)
      | apply absIB6 (w0 := w) (g0 := w.heap.size) (g1 := w.heap.size + 2) (g2 := w.heap.size + 3) (g3 := wa.heap.size) (g4 := wa.heap.size + 1) (g5 := w3.heap.size)
      iterate 7 (focus ((with_reducible (repeat' (first | assumption | apply bl_refl | apply bl_al | apply bl_drew | apply bl_drewN | (apply bl_set; case hp => (first | (simp; done) | (simp; omega) | (dsimp only; omega))) | (apply bl_row; case hg => (first | (simp; done) | (simp; omega) | omega)) | apply hb3 | apply bx_refl | (apply bx_set; case hp => (first | exact Or.inl (by simp; done) | exact Or.inr (by first | (simp; done) | (simp; omega) | (dsimp only; omega)))) | apply bx_drew | apply bx_al | apply bx_drewN | apply hb3x | (apply Blk.newAt; first | (simp; done) | rfl) | apply Blk.alloc | apply Blk.drew | apply Blk.drewN | apply Blk.set | (apply Blk.other; case hne => first | assumption | (simp; done) | (simp; omega) | omega) | apply Blk.row | (apply Blk.rowOther; case hne => first | assumption | (simp; done) | (simp; omega) | omega) | apply Blk.below (hb := hb3 _ (bl_refl _))))); done))
      intro we hb0' k0' k2' k3' k5' k6' k8'
      (try simp only [List.setIfInBounds_toArray, List.set_cons_zero, List.set_cons_succ] at k0' k2' k3' k5' k6' k8')
      try clear hb3
      try clear Lk0
      try clear Fk0
      try clear Qk0
      try clear Lk2
      try clear Fk2
      try clear Qk2
      try clear Lk3
      try clear Fk3
      try clear Qk3
      try clear Lk5
      try clear Fk5
      try clear Qk5
      try clear Lk6
      try clear Fk6
      try clear Qk6
      try clear hb0
      try clear k0
      try clear k2
      try clear k3
      try clear k5
      try clear k6
      try clear k8
      have hb0 := hb0'; clear hb0'
      have k0 := k0'; clear k0'
      have k2 := k2'; clear k2'
      have k3 := k3'; clear k3'
      have k5 := k5'; clear k5'
      have k6 := k6'; clear k6'
      have k8 := k8'; clear k8'
      have Lk0 := k0.later
      have Fk0 := k0.laterF
      have Qk0 := k0.lt
      have Lk2 := k2.later
      have Fk2 := k2.laterF
      have Qk2 := k2.lt
      have Lk3 := k3.later
      have Fk3 := k3.laterF
      have Qk3 := k3.lt
      have Lk5 := k5.later
      have Fk5 := k5.laterF
      have Qk5 := k5.lt
      have Lk6 := k6.later
      have Fk6 := k6.laterF
      have Qk6 := k6.lt
      have Lk8 := k8.later
      have Fk8 := k8.laterF
      have Qk8 := k8.lt
      by_cases hm0 : m = 0
      · have hm0' : decide ((m : Int) = 0) = true := by simp [hm0]
        have hs' : Hid (votedS n b v = (bx0, 0, 12)) := by rw [hs.out, if_pos hm0]; exact Lib.hid rfl
        clear hs
        go_wp2
        first
        | apply absPB1 (w0 := w) (g0 := w.heap.size + 3)
        | apply absPMB1 (w0 := w) (g0 := w.heap.size + 3)
        iterate 2 (focus ((with_reducible (repeat' (first | assumption | apply bl_refl | apply bl_al | apply bl_drew | apply bl_drewN | (apply bl_set; case hp => (first | (simp; done) | (simp; omega) | (dsimp only; omega))) | (apply bl_row; case hg => (first | (simp; done) | (simp; omega) | omega)) | apply hb3 | apply bx_refl | (apply bx_set; case hp => (first | exact Or.inl (by simp; done) | exact Or.inr (by first | (simp; done) | (simp; omega) | (dsimp only; omega)))) | apply bx_drew | apply bx_al | apply bx_drewN | apply hb3x | (apply Blk.newAt; first | (simp; done) | rfl) | apply Blk.alloc | apply Blk.drew | apply Blk.drewN | apply Blk.set | (apply Blk.other; case hne => first | assumption | (simp; done) | (simp; omega) | omega) | apply Blk.row | (apply Blk.rowOther; case hne => first | assumption | (simp; done) | (simp; omega) | omega) | apply Blk.below (hb := hb3 _ (bl_refl _))))); done))
        intro wz hb0' k3'
        (try simp only [List.setIfInBounds_toArray, List.set_cons_zero, List.set_cons_succ] at k3')
        try clear hb3
        try clear hb0
        try clear k3
        have hb0 := hb0'; clear hb0'
        have k3 := k3'; clear k3'
        have hr := k3.cell
        refine bodyPost_ret (v := .tuple #[vBx bx0, .int .i64 0, .int .i64 12]) (by simp [results, Try.results23, go_sem, hr, bx0]) rfl ⟨by rw [hs'.out] <;> rfl, hb0⟩
      · have hm0' : decide ((m : Int) = 0) = false := by simp [hm0]
        have hs' : Hid (votedS n b v = (o, (m : Int), 0)) := by rw [hs.out, if_neg hm0]; exact Lib.hid rfl
        clear hs
        go_wp2_with ((go_at_call 85; (with_reducible refine (c_box o _).mono ?_); rintro e w3 ⟨rfl, hb3⟩; replace hb3 := bl_tt hb3))
        first
        | apply absPB1 (w0 := w) (g0 := w.heap.size + 3)
        | apply absPMB1 (w0 := w) (g0 := w.heap.size + 3)
        iterate 2 (focus ((with_reducible (repeat' (first | assumption | apply bl_refl | apply bl_al | apply bl_drew | apply bl_drewN | (apply bl_set; case hp => (first | (simp; done) | (simp; omega) | (dsimp only; omega))) | (apply bl_row; case hg => (first | (simp; done) | (simp; omega) | omega)) | apply hb3 | apply bx_refl | (apply bx_set; case hp => (first | exact Or.inl (by simp; done) | exact Or.inr (by first | (simp; done) | (simp; omega) | (dsimp only; omega)))) | apply bx_drew | apply bx_al | apply bx_drewN | apply hb3x | (apply Blk.newAt; first | (simp; done) | rfl) | apply Blk.alloc | apply Blk.drew | apply Blk.drewN | apply Blk.set | (apply Blk.other; case hne => first | assumption | (simp; done) | (simp; omega) | omega) | apply Blk.row | (apply Blk.rowOther; case hne => first | assumption | (simp; done) | (simp; omega) | omega) | apply Blk.below (hb := hb3 _ (bl_refl _))))); done))
        intro wz hb0' k3'
        (try simp only [List.setIfInBounds_toArray, List.set_cons_zero, List.set_cons_succ] at k3')
        try clear hb3
        try clear hb0
        try clear k3
        have hb0 := hb0'; clear hb0'
        have k3 := k3'; clear k3'
        have hr := k3.cell
        refine bodyPost_ret (v := .tuple #[vBx o, .int .i64 m, .int .i64 0]) (by simp [results, Try.results23, go_sem, hr, bx0]) rfl ⟨by rw [hs'.out] <;> rfl, hb0⟩
    · have hs := Lib.hid (hs2.out h0 (by omega))
      have hsz' : Hid (unl (decide (b.size ≤ 20000)) 8 = 8) := by simp [unl, hsz]; exact Lib.hid trivial
      rw [hsz'.out] at hcs
      replace h0 := Lib.hid h0
      clear hs1 hs2 hs3 hcc hco hcv hok hme
      go_wp2_with (go_at_call 83; (with_reducible refine (hcs.out _).mono ?_); rintro e w3 ⟨rfl, hb3⟩; replace hb3 := bl_tt hb3)
      first
      | apply absPB1 (w0 := w) (g0 := w.heap.size + 3)
      | apply absPMB1 (w0 := w) (g0 := w.heap.size + 3)
      iterate 2 (focus ((with_reducible (repeat' (first | assumption | apply bl_refl | apply bl_al | apply bl_drew | apply bl_drewN | (apply bl_set; case hp => (first | (simp; done) | (simp; omega) | (dsimp only; omega))) | (apply bl_row; case hg => (first | (simp; done) | (simp; omega) | omega)) | apply hb3 | apply bx_refl | (apply bx_set; case hp => (first | exact Or.inl (by simp; done) | exact Or.inr (by first | (simp; done) | (simp; omega) | (dsimp only; omega)))) | apply bx_drew | apply bx_al | apply bx_drewN | apply hb3x | (apply Blk.newAt; first | (simp; done) | rfl) | apply Blk.alloc | apply Blk.drew | apply Blk.drewN | apply Blk.set | (apply Blk.other; case hne => first | assumption | (simp; done) | (simp; omega) | omega) | apply Blk.row | (apply Blk.rowOther; case hne => first | assumption | (simp; done) | (simp; omega) | omega) | apply Blk.below (hb := hb3 _ (bl_refl _))))); done))
      intro wz hb0' k3'
      (try simp only [List.setIfInBounds_toArray, List.set_cons_zero, List.set_cons_succ] at k3')
      try clear hb3
      try clear hb0
      try clear k3
      have hb0 := hb0'; clear hb0'
      have k3 := k3'; clear k3'
      have hr := k3.cell
      refine bodyPost_ret (v := .tuple #[vBx bx0, .int .i64 0, .int .i64 8]) (by simp [results, Try.results23, go_sem, hr, bx0]) rfl ⟨by rw [hs.out] <;> rfl, hb0⟩
  · have h0' : (votedE n b v != 0) = true := by simp [h0]
    have hs := Lib.hid (hs1.out h0)
    replace h0 := Lib.hid h0
    clear hs1 hs2 hs3 hcc hco hcv hok hme
    go_wp2
    first
    | apply absPB1 (w0 := w) (g0 := w.heap.size + 3)
    | apply absPMB1 (w0 := w) (g0 := w.heap.size + 3)
    iterate 2 (focus ((with_reducible (repeat' (first | assumption | apply bl_refl | apply bl_al | apply bl_drew | apply bl_drewN | (apply bl_set; case hp => (first | (simp; done) | (simp; omega) | (dsimp only; omega))) | (apply bl_row; case hg => (first | (simp; done) | (simp; omega) | omega)) | apply hb3 | apply bx_refl | (apply bx_set; case hp => (first | exact Or.inl (by simp; done) | exact Or.inr (by first | (simp; done) | (simp; omega) | (dsimp only; omega)))) | apply bx_drew | apply bx_al | apply bx_drewN | apply hb3x | (apply Blk.newAt; first | (simp; done) | rfl) | apply Blk.alloc | apply Blk.drew | apply Blk.drewN | apply Blk.set | (apply Blk.other; case hne => first | assumption | (simp; done) | (simp; omega) | omega) | apply Blk.row | (apply Blk.rowOther; case hne => first | assumption | (simp; done) | (simp; omega) | omega) | apply Blk.below (hb := hb3 _ (bl_refl _))))); done))
    intro wz hb0' k3'
    (try simp only [List.setIfInBounds_toArray, List.set_cons_zero, List.set_cons_succ] at k3')
    try clear hb3
    try clear hb0
    try clear k3
    have hb0 := hb0'; clear hb0'
    have k3 := k3'; clear k3'
    have hr := k3.cell
    refine bodyPost_ret (v := .tuple #[vBx bx0, .int .i64 0, .int .i64 (votedE n b v)]) (by simp [results, Try.results23, go_sem, hr, bx0]) rfl ⟨by rw [hs.out] <;> rfl, hb0⟩
theorem c_FixIn (n : Nt) (b : Bx) (l : List Rd) (A A' : Option Addr) (c c' : Nat) (w : World) (hn : NtIn n A c w) (hl : Sl cRd 4 w A' l) (hll : l.length ≤ 1000) (hlb : n.bs.length ≤ 1000) :
    Calls Try.prog 21 #[vNt n.world (.slice A n.bs.length c), vBx b, .slice A' l.length c'] w
      (Ret (.tuple #[vBx (votedS n b ⟨l, 0⟩).1, .int .i64 (votedS n b ⟨l, 0⟩).2.1, .int .i64 (votedS n b ⟨l, 0⟩).2.2]) w) := by
  have hcv := Lib.hid fun (W : World) (hb : Below w.heap.size w W) => c_VotedIn n b ⟨l, 0⟩ A A' c c' W (hn.below hb) (hl.below hb) hll hlb
  dsimp only at hcv
  clear hn hl
  generalize n.bs.length = nl at *
  generalize l.length = ll at *
  generalize votedS n b ⟨l, 0⟩ = s at *
  obtain ⟨o, m, e⟩ := s
  dsimp only at hcv ⊢
  go_enter Try.func21, Try.ntmps21
  go_wp2_with fail
  refine Calls.mono (hcv.out _ ?_) ?_
  · solve_by_elim (maxDepth := 60) only [bl_al, bl_drew, bl_drewN, bl_refl, *]
  rintro e w3 ⟨rfl, hb3⟩
  replace hb3 := bl_tt hb3
  apply absX1 (w0 := w) (w := w3) (g0 := w.heap.size + 2)
  iterate 2 (focus ((with_reducible (repeat' (first | assumption | apply bl_refl | apply bl_al | apply bl_drew | apply bl_drewN | (apply bl_set; case hp => (first | (simp; done) | (simp; omega) | (dsimp only; omega))) | (apply bl_row; case hg => (first | (simp; done) | (simp; omega) | omega)) | apply hb3 | apply bx_refl | (apply bx_set; case hp => (first | exact Or.inl (by simp; done) | exact Or.inr (by first | (simp; done) | (simp; omega) | (dsimp only; omega)))) | apply bx_drew | apply bx_al | apply bx_drewN | apply hb3x | (apply Blk.newAt; first | (simp; done) | rfl) | apply Blk.alloc | apply Blk.drew | apply Blk.drewN | apply Blk.set | (apply Blk.other; case hne => first | assumption | (simp; done) | (simp; omega) | omega) | apply Blk.row | (apply Blk.rowOther; case hne => first | assumption | (simp; done) | (simp; omega) | omega) | apply Blk.below (hb := hb3 _ (bl_refl _))))); done))
  intro wa hb0' k3'
  (try simp only [List.setIfInBounds_toArray, List.set_cons_zero, List.set_cons_succ] at k3')
  try clear hb3
  try clear hb0
  try clear k3
  have hb0 := hb0'; clear hb0'
  have k3 := k3'; clear k3'
  have Lk3 := k3.later
  have Fk3 := k3.laterF
  have Qk3 := k3.lt
  go_wp2
  first
  | apply absPB1 (w0 := w) (g0 := w.heap.size + 2)
  | apply absPMB1 (w0 := w) (g0 := w.heap.size + 2)
  iterate 2 (focus ((with_reducible (repeat' (first | assumption | apply bl_refl | apply bl_al | apply bl_drew | apply bl_drewN | (apply bl_set; case hp => (first | (simp; done) | (simp; omega) | (dsimp only; omega))) | (apply bl_row; case hg => (first | (simp; done) | (simp; omega) | omega)) | apply hb3 | apply bx_refl | (apply bx_set; case hp => (first | exact Or.inl (by simp; done) | exact Or.inr (by first | (simp; done) | (simp; omega) | (dsimp only; omega)))) | apply bx_drew | apply bx_al | apply bx_drewN | apply hb3x | (apply Blk.newAt; first | (simp; done) | rfl) | apply Blk.alloc | apply Blk.drew | apply Blk.drewN | apply Blk.set | (apply Blk.other; case hne => first | assumption | (simp; done) | (simp; omega) | omega) | apply Blk.row | (apply Blk.rowOther; case hne => first | assumption | (simp; done) | (simp; omega) | omega) | apply Blk.below (hb := hb3 _ (bl_refl _))))); done))
  intro wf hb0' k3'
  (try simp only [List.setIfInBounds_toArray, List.set_cons_zero, List.set_cons_succ] at k3')
  try clear hb3
  try clear Lk3
  try clear Fk3
  try clear Qk3
  try clear hb0
  try clear k3
  have hb0 := hb0'; clear hb0'
  have k3 := k3'; clear k3'
  have hr := k3.cell
  refine bodyPost_ret (v := .tuple #[vBx o, .int .i64 m, .int .i64 e]) (by simp [results, Try.results21, go_sem, hr]) rfl ⟨rfl, hb0⟩
end Go.Proofs.Ytephimmamkafoaa
