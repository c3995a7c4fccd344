/-
  Walk: the answers of readings for a box.
-/
import Derived.Test.YtephimmamkafoaaWrongOf
namespace Go.Proofs.Ytephimmamkafoaa
set_option linter.unusedSimpArgs false
set_option linter.unusedVariables false
open Go.RowKit Go.Shelf
attribute [local go_sem] bl_al bl_drew bl_drewN bl_refl bx_al bx_drew bx_drewN bx_refl
set_option maxRecDepth 20000
/-- The answer of what is measured and what is permitted: no, maybe, yes. -/
def ans (m : Rg × Rg) : Int := if m.2.lo ≤ m.1.lo ∧ m.1.hi ≤ m.2.hi then 2 else if m.1.hi < m.2.lo ∨ m.2.hi < m.1.lo then 0 else 1
theorem ans_eq (ml mh pl ph : Int) : ans (⟨ml, mh⟩, ⟨pl, ph⟩) = if decide (pl ≤ ml) && decide (mh ≤ ph) then 2 else if decide (mh < pl) || decide (ph < ml) then 0 else 1 := by simp [ans]
def ansTo (f : Nat → Int) (k : Nat) : List Int := (List.range k).map f
theorem ansTo_succ (f : Nat → Int) (k : Nat) : ansTo f (k + 1) = ansTo f k ++ [f k] := by simp [ansTo, List.range_succ]
theorem ansTo_len (f : Nat → Int) (k : Nat) : (ansTo f k).length = k := by simp [ansTo]
def ansAt (bs : List Bc) (a : Bx) (l : List Rd) (k : Nat) : Int := ((l[k]?).map fun r => ans (measS bs a r)).getD 0
def ansS (n : Nt) (b : Bx) (l : List Rd) : List Int := if wrongE n b l = 0 then ansTo (ansAt n.bs b l) l.length else []
/-- A slice of the call's own, and an error. -/
def RetE (L : List Int) (x : Int) (w : World) (e : Ending) (w' : World) : Prop :=
  ∃ A c, e = .returned (.tuple #[.slice A L.length c, .int .i64 x]) ∧ Below w.heap.size w w' ∧ w'.ownsRow w.heap.size 3 1 (.slice A L.length c) L.length (L.map (.int .i64))
theorem RetE.of {L : List Int} {w w' : World} {v : Value} {x : Int} (hb : Below w.heap.size w w') (h : w'.ownsRow w.heap.size 3 1 v L.length (L.map (.int .i64))) : RetE L x w (.returned (.tuple #[v, .int .i64 x])) w' := by
  obtain ⟨A, c, e, h1, h2⟩ := RetI.of hb h
  injection e with e
  exact ⟨A, c, by rw [e], h1, h2⟩
set_option maxHeartbeats 8000000 in
theorem c_AnswersOf (n : Nt) (b : Bx) (l : List Rd) (A A' : Option Addr) (c c' : Nat) (w : World) (hn : NtIn n A c w) (hl : Sl cRd 4 w A' l) (hll : l.length ≤ 1000) (hlb : n.bs.length ≤ 1000) :
    Calls Try.prog 39 #[vNt n.world (.slice A n.bs.length c), vBx b, .slice A' l.length c'] w (RetE (ansS n b l) (wrongE n b l) w) := by
  obtain ⟨i0, hi0, hz0, hz1, hz2⟩ := info_parts info3
  have hco := Lib.hid fun (W : World) (hb : Below w.heap.size w W) => c_openBox n b A c W (hn.below hb)
  have hcv := Lib.hid fun (W : World) (hb : Below w.heap.size w W) => c_readingsErr n l A A' c c' W (hn.below hb) (hl.below hb) hll hlb
  have hms := Lib.hid fun (h : wrongE n b l = 0) (W : World) (hb : Below w.heap.size w W) (r : Rd) (hm : r ∈ l) => c_measured n.world b n.bs A c r W (hn.sl.below hb) hlb (wrong_ok h).1.in ((wrong_ok h).2.2 r hm)
  have hme : Hid (wrongE n b l = fstE [boxErr n b, readsErr n l]) := rfl
  have hs1 : Hid (wrongE n b l ≠ 0 → ansS n b l = []) := fun h => by rw [ansS, if_neg h]
  have hs2 : Hid (wrongE n b l = 0 → ansS n b l = ansTo (ansAt n.bs b l) l.length) := fun h => by rw [ansS, if_pos h]
  have hfk : Hid (∀ k x, l[k]? = some x → ansAt n.bs b l k = ans (measS n.bs b x)) := fun k x h => by simp [ansAt, h]
  have Hl := Lib.hid hl
  clear hn hl
  generalize n.bs.length = nl at *
  obtain ⟨ll, Hn⟩ : ∃ k, Hid (l.length = k) := ⟨_, rfl⟩
  rw [Hn.out] at hll hcv hs2 ⊢
  go_enter Try.func39, Try.ntmps39
  go_wp2_with fail
  refine Calls.mono (hco.out _ ?_) ?_
  · solve_by_elim (maxDepth := 60) only [bl_al, bl_drew, bl_drewN, bl_refl, *]
  rintro e w3 ⟨rfl, hb3⟩
  replace hb3 := bl_tt hb3
  apply absX1 (w0 := w) (w := w3) (g0 := w.heap.size)
  iterate 2 (focus ((with_reducible (repeat' (first | assumption | apply bl_refl | apply bl_al | apply bl_drew | apply bl_drewN | (apply bl_set; case hp => (first | (simp; done) | (simp; omega) | (dsimp only; omega))) | (apply bl_row; case hg => (first | (simp; done) | (simp; omega) | omega)) | apply hb3 | apply bx_refl | (apply bx_set; case hp => (first | exact Or.inl (by simp; done) | exact Or.inr (by first | (simp; done) | (simp; omega) | (dsimp only; omega)))) | apply bx_drew | apply bx_al | apply bx_drewN | apply hb3x | (apply Blk.newAt; first | (simp; done) | rfl) | apply Blk.alloc | apply Blk.drew | apply Blk.drewN | apply Blk.set | (apply Blk.other; case hne => first | assumption | (simp; done) | (simp; omega) | omega) | apply Blk.row | (apply Blk.rowOther; case hne => first | assumption | (simp; done) | (simp; omega) | omega) | apply Blk.below (hb := hb3 _ (bl_refl _))))); done))
  intro wa hb0' k0'
  (try simp only [List.setIfInBounds_toArray, List.set_cons_zero, List.set_cons_succ] at k0')
  try clear hb3
  try clear hb0
  try clear k0
  have hb0 := hb0'; clear hb0'
  have k0 := k0'; clear k0'
  have Lk0 := k0.later
  have Fk0 := k0.laterF
  have Qk0 := k0.lt
  go_upto_region 2 with fail
  first
  | apply absB3 (w0 := w) (g0 := w.heap.size) (g1 := wa.heap.size) (g2 := wa.heap.size + 1)
  | apply absTB3 (w0 := w) (g0 := w.heap.size) (g1 := wa.heap.size) (g2 := wa.heap.size + 1)
  | apply absIB3 (w0 := w) (g0 := w.heap.size) (g1 := wa.heap.size) (g2 := wa.heap.size + 1)
  iterate 4 (focus ((with_reducible (repeat' (first | assumption | apply bl_refl | apply bl_al | apply bl_drew | apply bl_drewN | (apply bl_set; case hp => (first | (simp; done) | (simp; omega) | (dsimp only; omega))) | (apply bl_row; case hg => (first | (simp; done) | (simp; omega) | omega)) | apply hb3 | apply bx_refl | (apply bx_set; case hp => (first | exact Or.inl (by simp; done) | exact Or.inr (by first | (simp; done) | (simp; omega) | (dsimp only; omega)))) | apply bx_drew | apply bx_al | apply bx_drewN | apply hb3x | (apply Blk.newAt; first | (simp; done) | rfl) | apply Blk.alloc | apply Blk.drew | apply Blk.drewN | apply Blk.set | (apply Blk.other; case hne => first | assumption | (simp; done) | (simp; omega) | omega) | apply Blk.row | (apply Blk.rowOther; case hne => first | assumption | (simp; done) | (simp; omega) | omega) | apply Blk.below (hb := hb3 _ (bl_refl _))))); done))
  intro wb hb0' k0' k5' k6'
  (try simp only [List.setIfInBounds_toArray, List.set_cons_zero, List.set_cons_succ] at k0' k5' k6')
  try clear hb3
  try clear Lk0
  try clear Fk0
  try clear Qk0
  try clear hb0
  try clear k0
  try clear k5
  try clear k6
  have hb0 := hb0'; clear hb0'
  have k0 := k0'; clear k0'
  have k5 := k5'; clear k5'
  have k6 := k6'; clear k6'
  have Lk0 := k0.later
  have Fk0 := k0.laterF
  have Qk0 := k0.lt
  have Lk5 := k5.later
  have Fk5 := k5.laterF
  have Qk5 := k5.lt
  have Lk6 := k6.later
  have Fk6 := k6.laterF
  have Qk6 := k6.lt
  go_upto_region 3 with (first | (go_at_call 93; (with_reducible refine (hcv.out _ (bl_tr hb0 (by (with_reducible (repeat' (first | assumption | apply bl_refl | apply bl_al | apply bl_drew | apply bl_drewN | (apply bl_set; case hp => (first | (simp; done) | (simp; omega) | (dsimp only; omega))) | (apply bl_row; case hg => (first | (simp; done) | (simp; omega) | omega)) | apply hb3)))))).mono ?_); rintro e w3 ⟨rfl, hb3⟩; replace hb3 := bl_tt hb3) | (go_at_call 60; (with_reducible refine (c_first2 (by (with_reducible (repeat' (first | assumption | (apply Blk.newAt; first | (simp; done) | rfl) | apply Blk.alloc | apply Blk.drew | apply Blk.drewN | apply Blk.set | (apply Blk.other; case hne => first | assumption | (simp; done) | (simp; omega) | omega) | apply Blk.row | (apply Blk.rowOther; case hne => first | assumption | (simp; done) | (simp; omega) | omega) | apply Blk.below (hb := hb3 _ (bl_refl _))))))).mono ?_); rintro e w3 ⟨rfl, rfl⟩))
  first
  | apply absB3 (w0 := w) (g0 := w.heap.size) (g1 := wa.heap.size) (g2 := wa.heap.size + 1)
  | apply absTB3 (w0 := w) (g0 := w.heap.size) (g1 := wa.heap.size) (g2 := wa.heap.size + 1)
  | apply absIB3 (w0 := w) (g0 := w.heap.size) (g1 := wa.heap.size) (g2 := wa.heap.size + 1)
  iterate 4 (focus ((with_reducible (repeat' (first | assumption | apply bl_refl | apply bl_al | apply bl_drew | apply bl_drewN | (apply bl_set; case hp => (first | (simp; done) | (simp; omega) | (dsimp only; omega))) | (apply bl_row; case hg => (first | (simp; done) | (simp; omega) | omega)) | apply hb3 | apply bx_refl | (apply bx_set; case hp => (first | exact Or.inl (by simp; done) | exact Or.inr (by first | (simp; done) | (simp; omega) | (dsimp only; omega)))) | apply bx_drew | apply bx_al | apply bx_drewN | apply hb3x | (apply Blk.newAt; first | (simp; done) | rfl) | apply Blk.alloc | apply Blk.drew | apply Blk.drewN | apply Blk.set | (apply Blk.other; case hne => first | assumption | (simp; done) | (simp; omega) | omega) | apply Blk.row | (apply Blk.rowOther; case hne => first | assumption | (simp; done) | (simp; omega) | omega) | apply Blk.below (hb := hb3 _ (bl_refl _))))); done))
  intro wc hb0' k0' k5' k6'
  (try simp only [List.setIfInBounds_toArray, List.set_cons_zero, List.set_cons_succ] at k0' k5' k6')
  try clear hb3
  try clear Lk0
  try clear Fk0
  try clear Qk0
  try clear Lk5
  try clear Fk5
  try clear Qk5
  try clear Lk6
  try clear Fk6
  try clear Qk6
  try clear hb0
  try clear k0
  try clear k5
  try clear k6
  have hb0 := hb0'; clear hb0'
  have k0 := k0'; clear k0'
  have k5 := k5'; clear k5'
  have k6 := k6'; clear k6'
  have Lk0 := k0.later
  have Fk0 := k0.laterF
  have Qk0 := k0.lt
  have Lk5 := k5.later
  have Fk5 := k5.laterF
  have Qk5 := k5.lt
  have Lk6 := k6.later
  have Fk6 := k6.laterF
  have Qk6 := k6.lt
  rw [← hme.out]
  by_cases h0 : wrongE n b l = 0
  · have h0' : (wrongE n b l != 0) = false := by simp [h0]
    have hms' := Lib.hid (hms.out h0)
    have hs := Lib.hid (hs2.out h0)
    replace h0 := Lib.hid h0
    clear hs1 hs2 hms hco hcv hme
    go_wp2
    go_loopw [11, 34] (fun v i wr => ∃ k : Nat, k ≤ ll ∧ i = .int .i64 k ∧ Below wc.heap.size wc wr ∧ wr.ownsRow wc.heap.size 3 1 v (ansTo (ansAt n.bs b l) k).length ((ansTo (ansAt n.bs b l) k).map (.int .i64))) (fun _ i _ => ll - (intOf i).toNat)
    case atStart => exact ⟨0, Nat.zero_le _, rfl, Below.refl _ _, World.ownsRow_nil _ _ _ _⟩
    case round =>
      obtain ⟨k, hk, rfl, hb, hown⟩ := hrel
      rw [ansTo_len] at hown
      by_cases hlt : k < ll
      · have hx : l[k]? = some (l[k]'(by rw [Hn.out]; exact hlt)) := List.getElem?_eq_getElem _
        generalize l[k]'(by rw [Hn.out]; exact hlt) = x at hx
        obtain ⟨bb, off, hA, hc⟩ := Hl.out k x hx
        have hm : x ∈ l := List.mem_of_getElem? hx
        have hwr : Below w.heap.size w wr := bl_tr hb0 hb
        have c0 : ∀ W, Below wr.heap.size wr W → W.cell? ⟨bb, off + k * 4, none⟩ = some (.int .i64 x.kind) := later (kcell hwr (hc 0 _ rfl))
        have c1 : ∀ W, Below wr.heap.size wr W → W.cell? ⟨bb, off + k * 4 + 1, none⟩ = some (.int .i64 x.idx) := later (kcell hwr (hc 1 _ rfl))
        have c2 : ∀ W, Below wr.heap.size wr W → W.cell? ⟨bb, off + k * 4 + 2, none⟩ = some (.int .i64 x.v.lo) := later (kcell hwr (hc 2 _ rfl))
        have c3 : ∀ W, Below wr.heap.size wr W → W.cell? ⟨bb, off + k * 4 + 3, none⟩ = some (.int .i64 x.v.hi) := later (kcell hwr (hc 3 _ rfl))
        clear hc
        subst hA
        have hfk := Lib.hid (hfk.out k x hx)
        have hca := Lib.hid fun (W : World) (h : Below wr.heap.size wr W) => hms'.out W (bl_tr hwr h) x hm
        have hsz := hb.size
        replace hown := Lib.hid hown
        replace hx := Lib.hid hx
        have k5 := k5.below hb
        have k6 := k6.below hb
        clear Lk0 Lk5 Lk6 Fk0 Fk5 Fk6 Qk0 Qk5 Qk6
        have hb0' := hb0
        have hb0 := bl_refl wr
        have Lk5 := k5.later
        have Fk5 := k5.laterF
        have Qk5 := k5.lt
        have Lk6 := k6.later
        have Fk6 := k6.laterF
        have Qk6 := k6.lt
        generalize measS n.bs b x = M at *
        obtain ⟨⟨ml, mh⟩, ⟨pl, ph⟩⟩ := M
        dsimp only at hca
        go_upto_region 9 with fail
        first
        | apply absB3 (w0 := wr) (g0 := wa.heap.size) (g1 := wa.heap.size + 1) (g2 := wr.heap.size)
        | apply absTB3 (w0 := wr) (g0 := wa.heap.size) (g1 := wa.heap.size + 1) (g2 := wr.heap.size)
        | apply absIB3 (w0 := wr) (g0 := wa.heap.size) (g1 := wa.heap.size + 1) (g2 := wr.heap.size)
        iterate 4 (focus ((with_reducible (repeat' (first | assumption | apply bl_refl | apply bl_al | apply bl_drew | apply bl_drewN | (apply bl_set; case hp => (first | (simp; done) | (simp; omega) | (dsimp only; omega))) | (apply bl_row; case hg => (first | (simp; done) | (simp; omega) | omega)) | apply hb3 | apply bx_refl | (apply bx_set; case hp => (first | exact Or.inl (by simp; done) | exact Or.inr (by first | (simp; done) | (simp; omega) | (dsimp only; omega)))) | apply bx_drew | apply bx_al | apply bx_drewN | apply hb3x | (apply Blk.newAt; first | (simp; done) | rfl) | apply Blk.alloc | apply Blk.drew | apply Blk.drewN | apply Blk.set | (apply Blk.other; case hne => first | assumption | (simp; done) | (simp; omega) | omega) | apply Blk.row | (apply Blk.rowOther; case hne => first | assumption | (simp; done) | (simp; omega) | omega) | apply Blk.below (hb := hb3 _ (bl_refl _))))); done))
        intro wf hb0' k5' k6' k7'
        (try simp only [List.setIfInBounds_toArray, List.set_cons_zero, List.set_cons_succ] at k5' k6' k7')
        try clear hb3
        try clear Lk5
        try clear Fk5
        try clear Qk5
        try clear Lk6
        try clear Fk6
        try clear Qk6
        try clear hb0
        try clear k5
        try clear k6
        try clear k7
        have hb0 := hb0'; clear hb0'
        have k5 := k5'; clear k5'
        have k6 := k6'; clear k6'
        have k7 := k7'; clear k7'
        have Lk5 := k5.later
        have Fk5 := k5.laterF
        have Qk5 := k5.lt
        have Lk6 := k6.later
        have Fk6 := k6.laterF
        have Qk6 := k6.lt
        have Lk7 := k7.later
        have Fk7 := k7.laterF
        have Qk7 := k7.lt
        go_upto_region 11 with (go_at_call 97; (with_reducible refine (hca.out _ (bl_tr hb0 (by (with_reducible (repeat' (first | assumption | apply bl_refl | apply bl_al | apply bl_drew | apply bl_drewN | (apply bl_set; case hp => (first | (simp; done) | (simp; omega) | (dsimp only; omega))) | (apply bl_row; case hg => (first | (simp; done) | (simp; omega) | omega)) | apply hb3)))))).mono ?_); rintro e w3 ⟨rfl, hb3⟩; replace hb3 := bl_tt hb3)
        first
        | apply absB5 (w0 := wr) (g0 := wa.heap.size) (g1 := wa.heap.size + 1) (g2 := wr.heap.size) (g3 := w3.heap.size) (g4 := w3.heap.size + 1)
        | apply absTB5 (w0 := wr) (g0 := wa.heap.size) (g1 := wa.heap.size + 1) (g2 := wr.heap.size) (g3 := w3.heap.size) (g4 := w3.heap.size + 1)
        | apply absIB5 (w0 := wr) (g0 := wa.heap.size) (g1 := wa.heap.size + 1) (g2 := wr.heap.size) (g3 := w3.heap.size) (g4 := w3.heap.size + 1)
        iterate 6 (focus ((with_reducible (repeat' (first | assumption | apply bl_refl | apply bl_al | apply bl_drew | apply bl_drewN | (apply bl_set; case hp => (first | (simp; done) | (simp; omega) | (dsimp only; omega))) | (apply bl_row; case hg => (first | (simp; done) | (simp; omega) | omega)) | apply hb3 | apply bx_refl | (apply bx_set; case hp => (first | exact Or.inl (by simp; done) | exact Or.inr (by first | (simp; done) | (simp; omega) | (dsimp only; omega)))) | apply bx_drew | apply bx_al | apply bx_drewN | apply hb3x | (apply Blk.newAt; first | (simp; done) | rfl) | apply Blk.alloc | apply Blk.drew | apply Blk.drewN | apply Blk.set | (apply Blk.other; case hne => first | assumption | (simp; done) | (simp; omega) | omega) | apply Blk.row | (apply Blk.rowOther; case hne => first | assumption | (simp; done) | (simp; omega) | omega) | apply Blk.below (hb := hb3 _ (bl_refl _))))); done))
        intro wx hb0' k5' k6' k7' k8' k9'
        (try simp only [List.setIfInBounds_toArray, List.set_cons_zero, List.set_cons_succ] at k5' k6' k7' k8' k9')
        try clear hb3
        try clear Lk5
        try clear Fk5
        try clear Qk5
        try clear Lk6
        try clear Fk6
        try clear Qk6
        try clear Lk7
        try clear Fk7
        try clear Qk7
        try clear hb0
        try clear k5
        try clear k6
        try clear k7
        try clear k8
        try clear k9
        have hb0 := hb0'; clear hb0'
        have k5 := k5'; clear k5'
        have k6 := k6'; clear k6'
        have k7 := k7'; clear k7'
        have k8 := k8'; clear k8'
        have k9 := k9'; clear k9'
        have Lk5 := k5.later
        have Fk5 := k5.laterF
        have Qk5 := k5.lt
        have Lk6 := k6.later
        have Fk6 := k6.laterF
        have Qk6 := k6.lt
        have Lk7 := k7.later
        have Fk7 := k7.laterF
        have Qk7 := k7.lt
        have Lk8 := k8.later
        have Fk8 := k8.laterF
        have Qk8 := k8.lt
        have Lk9 := k9.later
        have Fk9 := k9.laterF
        have Qk9 := k9.lt
        have hown := Lib.hid (own_below hown.out hb0)
        have hbx := bl_tr hb hb0
        have hszx := hbx.size
        clear hca c0 c1 c2 c3
        obtain ⟨b1, q1⟩ : ∃ b, decide (pl ≤ ml) = b := ⟨_, rfl⟩
        obtain ⟨b2, q2⟩ : ∃ b, decide (mh ≤ ph) = b := ⟨_, rfl⟩
        obtain ⟨b3, q3⟩ : ∃ b, decide (mh < pl) = b := ⟨_, rfl⟩
        obtain ⟨b4, q4⟩ : ∃ b, decide (ph < ml) = b := ⟨_, rfl⟩
        cases b1
        · cases b3
          · cases b4
            · have hv : Hid (ans (⟨ml, mh⟩, ⟨pl, ph⟩) = 1) := by refine Lib.hid ?_; rw [ans_eq]; simp only [q1, q3, q4] <;> rfl
              go_wp2_with (at_builtin; refine wpList_append_own _ rfl _ _ 79 rfl wc.heap.size 3 i0 (.int .i64 0) 1 8 Try.underlying79 hi0 hz0 hz1 hz2 rfl (by decide) _ _ _ rfl (hown.out.alloc _) ⟨wx.heap.size, 0, none⟩ 1 1 [.int .i64 1] rfl rfl ?c1 ?c2 ?c3 ?c4 ?c5 ?_)
              try case c1 =>
                intro j u hj
                match j, hj with
                | 0, hj => simp at hj; subst hj; simp [Addr.add]
              try case c2 => intro u hu; simp at hu; subst hu; rfl
              try case c3 => unfold maxLen; omega
              try case c4 => omega
              try case c5 => simp; omega
              intro v' w1 hown2 hgrow _
              have hb1 : Below wc.heap.size wc w1 := (bl_al _ hbx).grown hgrow (by simp; omega) (own_ge hown.out)
              clear hgrow hown
              replace hown2 := Lib.hid hown2
              go_wp2
              go_roundw
              case rel => exact ⟨k + 1, by omega, by go_num, hb1, by rw [ansTo_succ, hfk.out, hv.out]; simpa [ansTo] using hown2.out⟩
              case measure => simp [intOf]; omega
            · have hv : Hid (ans (⟨ml, mh⟩, ⟨pl, ph⟩) = 0) := by refine Lib.hid ?_; rw [ans_eq]; simp only [q1, q3, q4] <;> rfl
              go_wp2_with (at_builtin; refine wpList_append_own _ rfl _ _ 79 rfl wc.heap.size 3 i0 (.int .i64 0) 1 8 Try.underlying79 hi0 hz0 hz1 hz2 rfl (by decide) _ _ _ rfl (hown.out.alloc _) ⟨wx.heap.size, 0, none⟩ 1 1 [.int .i64 0] rfl rfl ?c1 ?c2 ?c3 ?c4 ?c5 ?_)
              try case c1 =>
                intro j u hj
                match j, hj with
                | 0, hj => simp at hj; subst hj; simp [Addr.add]
              try case c2 => intro u hu; simp at hu; subst hu; rfl
              try case c3 => unfold maxLen; omega
              try case c4 => omega
              try case c5 => simp; omega
              intro v' w1 hown2 hgrow _
              have hb1 : Below wc.heap.size wc w1 := (bl_al _ hbx).grown hgrow (by simp; omega) (own_ge hown.out)
              clear hgrow hown
              replace hown2 := Lib.hid hown2
              go_wp2
              go_roundw
              case rel => exact ⟨k + 1, by omega, by go_num, hb1, by rw [ansTo_succ, hfk.out, hv.out]; simpa [ansTo] using hown2.out⟩
              case measure => simp [intOf]; omega
          · have hv : Hid (ans (⟨ml, mh⟩, ⟨pl, ph⟩) = 0) := by refine Lib.hid ?_; rw [ans_eq]; simp only [q1, q3] <;> rfl
            go_wp2_with (at_builtin; refine wpList_append_own _ rfl _ _ 79 rfl wc.heap.size 3 i0 (.int .i64 0) 1 8 Try.underlying79 hi0 hz0 hz1 hz2 rfl (by decide) _ _ _ rfl (hown.out.alloc _) ⟨wx.heap.size, 0, none⟩ 1 1 [.int .i64 0] rfl rfl ?c1 ?c2 ?c3 ?c4 ?c5 ?_)
            try case c1 =>
              intro j u hj
              match j, hj with
              | 0, hj => simp at hj; subst hj; simp [Addr.add]
            try case c2 => intro u hu; simp at hu; subst hu; rfl
            try case c3 => unfold maxLen; omega
            try case c4 => omega
            try case c5 => simp; omega
            intro v' w1 hown2 hgrow _
            have hb1 : Below wc.heap.size wc w1 := (bl_al _ hbx).grown hgrow (by simp; omega) (own_ge hown.out)
            clear hgrow hown
            replace hown2 := Lib.hid hown2
            go_wp2
            go_roundw
            case rel => exact ⟨k + 1, by omega, by go_num, hb1, by rw [ansTo_succ, hfk.out, hv.out]; simpa [ansTo] using hown2.out⟩
            case measure => simp [intOf]; omega
        · cases b2
          · cases b3
            · cases b4
              · have hv : Hid (ans (⟨ml, mh⟩, ⟨pl, ph⟩) = 1) := by refine Lib.hid ?_; rw [ans_eq]; simp only [q1, q2, q3, q4] <;> rfl
                go_wp2_with (at_builtin; refine wpList_append_own _ rfl _ _ 79 rfl wc.heap.size 3 i0 (.int .i64 0) 1 8 Try.underlying79 hi0 hz0 hz1 hz2 rfl (by decide) _ _ _ rfl (hown.out.alloc _) ⟨wx.heap.size, 0, none⟩ 1 1 [.int .i64 1] rfl rfl ?c1 ?c2 ?c3 ?c4 ?c5 ?_)
                try case c1 =>
                  intro j u hj
                  match j, hj with
                  | 0, hj => simp at hj; subst hj; simp [Addr.add]
                try case c2 => intro u hu; simp at hu; subst hu; rfl
                try case c3 => unfold maxLen; omega
                try case c4 => omega
                try case c5 => simp; omega
                intro v' w1 hown2 hgrow _
                have hb1 : Below wc.heap.size wc w1 := (bl_al _ hbx).grown hgrow (by simp; omega) (own_ge hown.out)
                clear hgrow hown
                replace hown2 := Lib.hid hown2
                go_wp2
                go_roundw
                case rel => exact ⟨k + 1, by omega, by go_num, hb1, by rw [ansTo_succ, hfk.out, hv.out]; simpa [ansTo] using hown2.out⟩
                case measure => simp [intOf]; omega
              · have hv : Hid (ans (⟨ml, mh⟩, ⟨pl, ph⟩) = 0) := by refine Lib.hid ?_; rw [ans_eq]; simp only [q1, q2, q3, q4] <;> rfl
                go_wp2_with (at_builtin; refine wpList_append_own _ rfl _ _ 79 rfl wc.heap.size 3 i0 (.int .i64 0) 1 8 Try.underlying79 hi0 hz0 hz1 hz2 rfl (by decide) _ _ _ rfl (hown.out.alloc _) ⟨wx.heap.size, 0, none⟩ 1 1 [.int .i64 0] rfl rfl ?c1 ?c2 ?c3 ?c4 ?c5 ?_)
                try case c1 =>
                  intro j u hj
                  match j, hj with
                  | 0, hj => simp at hj; subst hj; simp [Addr.add]
                try case c2 => intro u hu; simp at hu; subst hu; rfl
                try case c3 => unfold maxLen; omega
                try case c4 => omega
                try case c5 => simp; omega
                intro v' w1 hown2 hgrow _
                have hb1 : Below wc.heap.size wc w1 := (bl_al _ hbx).grown hgrow (by simp; omega) (own_ge hown.out)
                clear hgrow hown
                replace hown2 := Lib.hid hown2
                go_wp2
                go_roundw
                case rel => exact ⟨k + 1, by omega, by go_num, hb1, by rw [ansTo_succ, hfk.out, hv.out]; simpa [ansTo] using hown2.out⟩
                case measure => simp [intOf]; omega
            · have hv : Hid (ans (⟨ml, mh⟩, ⟨pl, ph⟩) = 0) := by refine Lib.hid ?_; rw [ans_eq]; simp only [q1, q2, q3] <;> rfl
              go_wp2_with (at_builtin; refine wpList_append_own _ rfl _ _ 79 rfl wc.heap.size 3 i0 (.int .i64 0) 1 8 Try.underlying79 hi0 hz0 hz1 hz2 rfl (by decide) _ _ _ rfl (hown.out.alloc _) ⟨wx.heap.size, 0, none⟩ 1 1 [.int .i64 0] rfl rfl ?c1 ?c2 ?c3 ?c4 ?c5 ?_)
              try case c1 =>
                intro j u hj
                match j, hj with
                | 0, hj => simp at hj; subst hj; simp [Addr.add]
              try case c2 => intro u hu; simp at hu; subst hu; rfl
              try case c3 => unfold maxLen; omega
              try case c4 => omega
              try case c5 => simp; omega
              intro v' w1 hown2 hgrow _
              have hb1 : Below wc.heap.size wc w1 := (bl_al _ hbx).grown hgrow (by simp; omega) (own_ge hown.out)
              clear hgrow hown
              replace hown2 := Lib.hid hown2
              go_wp2
              go_roundw
              case rel => exact ⟨k + 1, by omega, by go_num, hb1, by rw [ansTo_succ, hfk.out, hv.out]; simpa [ansTo] using hown2.out⟩
              case measure => simp [intOf]; omega
          · have hv : Hid (ans (⟨ml, mh⟩, ⟨pl, ph⟩) = 2) := by refine Lib.hid ?_; rw [ans_eq]; simp only [q1, q2] <;> rfl
            go_wp2_with (at_builtin; refine wpList_append_own _ rfl _ _ 79 rfl wc.heap.size 3 i0 (.int .i64 0) 1 8 Try.underlying79 hi0 hz0 hz1 hz2 rfl (by decide) _ _ _ rfl (hown.out.alloc _) ⟨wx.heap.size, 0, none⟩ 1 1 [.int .i64 2] rfl rfl ?c1 ?c2 ?c3 ?c4 ?c5 ?_)
            try case c1 =>
              intro j u hj
              match j, hj with
              | 0, hj => simp at hj; subst hj; simp [Addr.add]
            try case c2 => intro u hu; simp at hu; subst hu; rfl
            try case c3 => unfold maxLen; omega
            try case c4 => omega
            try case c5 => simp; omega
            intro v' w1 hown2 hgrow _
            have hb1 : Below wc.heap.size wc w1 := (bl_al _ hbx).grown hgrow (by simp; omega) (own_ge hown.out)
            clear hgrow hown
            replace hown2 := Lib.hid hown2
            go_wp2
            go_roundw
            case rel => exact ⟨k + 1, by omega, by go_num, hb1, by rw [ansTo_succ, hfk.out, hv.out]; simpa [ansTo] using hown2.out⟩
            case measure => simp [intOf]; omega
      · go_wp2
        go_ret2
        have : k = ll := by omega
        subst this
        rw [hs.out]
        rw [h0.out]
        exact RetE.of (bl_tr hb0 hb) (own_mono hb0.size (by rw [ansTo_len]; exact hown))
  · have h0' : (wrongE n b l != 0) = true := by simp [h0]
    have hs := Lib.hid (hs1.out h0)
    replace h0 := Lib.hid h0
    clear hs1 hs2 hms hco hcv hme
    go_wp2
    go_ret2
    rw [hs.out]
    exact ⟨none, 0, rfl, hb0, World.ownsRow_nil _ _ _ _⟩
end Go.Proofs.Ytephimmamkafoaa
