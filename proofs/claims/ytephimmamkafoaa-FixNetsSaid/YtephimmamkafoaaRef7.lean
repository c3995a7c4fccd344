/-
  Walks: which readings are valid, by the reference.
-/
import Derived.Test.YtephimmamkafoaaRef1
import Derived.Test.YtephimmamkafoaaReads
namespace Go.Proofs.Ytephimmamkafoaa
set_option linter.unusedSimpArgs false
set_option linter.unusedVariables false
open Go.RowKit Go.Shelf
attribute [local go_sem] bl_al bl_drew bl_drewN bl_refl bx_al bx_drew bx_drewN bx_refl
set_option maxRecDepth 20000
def refReads (nb : Nat) (l : List Rd) : Int × Int := if 8 < l.length then (0, 8) else eachS (fun _ r => rdErr nb r) l 0
set_option maxHeartbeats 8000000 in
theorem r_CheckReadings (wd : Bx) (nb : Nat) (l : List Rd) (s : Option Addr) (A' : Option Addr) (c c' : Nat) (w : World) (hl : Sl cRd 4 w A' l) (hll : l.length ≤ 1000) (hnb : nb ≤ 1000) :
    Calls Try.prog 25 #[vNt wd (.slice s nb c), .slice A' l.length c'] w (Ret (.tuple #[.int .i64 (refReads nb l).1, .int .i64 (refReads nb l).2]) w) := by
  have Hl := Lib.hid hl
  obtain ⟨n, Hn⟩ : ∃ n, Hid (l.length = n) := ⟨_, rfl⟩
  have hs1 : Hid (8 < n → refReads nb l = (0, 8)) := fun h => by rw [refReads, Hn.out, if_pos h]
  have hs2 : Hid (¬ 8 < n → refReads nb l = eachS (fun _ r => rdErr nb r) l 0) := fun h => by rw [refReads, Hn.out, if_neg h]
  rw [Hn.out] at hll ⊢
  clear hl
  by_cases h8 : 8 < n
  · have e := Lib.hid (hs1.out h8)
    have h8' : decide ((8 : Int) < (n : Int)) = true := by simp; omega
    clear h8
    go_enter Try.func25, Try.ntmps25
    go_wp2
    go_ret2
    exact ⟨by rw [e.out] <;> rfl, by (with_reducible (repeat' (first | assumption | apply bl_refl | apply bl_al | apply bl_drew | apply bl_drewN | (apply bl_set; case hp => (first | (simp; done) | (simp; omega) | (dsimp only; omega))) | (apply bl_row; case hg => (first | (simp; done) | (simp; omega) | omega)) | apply hb3)))⟩
  have e := Lib.hid (hs2.out h8)
  have h8' : decide ((8 : Int) < (n : Int)) = false := by simp; omega
  clear h8 hs1 hs2
  go_enter Try.func25, Try.ntmps25
  go_upto_region 3 with fail
  first
  | apply absB1 (w0 := w) (g0 := w.heap.size)
  | apply absTB1 (w0 := w) (g0 := w.heap.size)
  | apply absIB1 (w0 := w) (g0 := w.heap.size)
  iterate 2 (focus ((with_reducible (repeat' (first | assumption | apply bl_refl | apply bl_al | apply bl_drew | apply bl_drewN | (apply bl_set; case hp => (first | (simp; done) | (simp; omega) | (dsimp only; omega))) | (apply bl_row; case hg => (first | (simp; done) | (simp; omega) | omega)) | apply hb3 | apply bx_refl | (apply bx_set; case hp => (first | exact Or.inl (by simp; done) | exact Or.inr (by first | (simp; done) | (simp; omega) | (dsimp only; omega)))) | apply bx_drew | apply bx_al | apply bx_drewN | apply hb3x | (apply Blk.newAt; first | (simp; done) | rfl) | apply Blk.alloc | apply Blk.drew | apply Blk.drewN | apply Blk.set | (apply Blk.other; case hne => first | assumption | (simp; done) | (simp; omega) | omega) | apply Blk.row | (apply Blk.rowOther; case hne => first | assumption | (simp; done) | (simp; omega) | omega) | apply Blk.below (hb := hb3 _ (bl_refl _))))); done))
  intro wa hb0' k0'
  (try simp only [List.setIfInBounds_toArray, List.set_cons_zero, List.set_cons_succ] at k0')
  try clear hb3
  try clear hb0
  try clear k0
  have hb0 := hb0'; clear hb0'
  have k0 := k0'; clear k0'
  have Lk0 := k0.later
  have Fk0 := k0.laterF
  have Qk0 := k0.lt
  go_wp2
  go_loopw [6] (fun i wr => ∃ k : Nat, k ≤ n ∧ i = .int .i64 k ∧ Below wa.heap.size wa wr ∧ eachS (fun _ r => rdErr nb r) l 0 = eachS (fun _ r => rdErr nb r) (l.drop k) k) (fun i _ => n - (intOf i).toNat)
  case atStart => exact ⟨0, Nat.zero_le _, rfl, Below.refl _ _, rfl⟩
  case round =>
    obtain ⟨k, hk, rfl, hb, hi⟩ := hrel
    replace hi := Lib.hid hi
    by_cases hlt : k < n
    · have hx : l[k]? = some (l[k]'(by rw [Hn.out]; exact hlt)) := List.getElem?_eq_getElem _
      generalize l[k]'(by rw [Hn.out]; exact hlt) = x at hx
      obtain ⟨b, off, hA, hc⟩ := Hl.out k x hx
      have hd := Lib.hid (eachS_drop (fun _ r => rdErr nb r) l k x hx)
      replace hx := Lib.hid hx
      have c0 : wr.cell? ⟨b, off + k * 4, none⟩ = some (.int .i64 x.kind) := kcell (bl_tr hb0 hb) (hc 0 _ rfl)
      have c1 : wr.cell? ⟨b, off + k * 4 + 1, none⟩ = some (.int .i64 x.idx) := kcell (bl_tr hb0 hb) (hc 1 _ rfl)
      have c2 : wr.cell? ⟨b, off + k * 4 + 2, none⟩ = some (.int .i64 x.v.lo) := kcell (bl_tr hb0 hb) (hc 2 _ rfl)
      have c3 : wr.cell? ⟨b, off + k * 4 + 3, none⟩ = some (.int .i64 x.v.hi) := kcell (bl_tr hb0 hb) (hc 3 _ rfl)
      clear hc
      subst hA
      go_upto_region 7 with fail
      have k0 := k0.below hb
      have hb0' := hb0
      have hb0 := hb
      first
      | apply absB2 (w0 := wa) (g0 := w.heap.size) (g1 := wr.heap.size)
      | apply absTB2 (w0 := wa) (g0 := w.heap.size) (g1 := wr.heap.size)
      | apply absIB2 (w0 := wa) (g0 := w.heap.size) (g1 := wr.heap.size)
      iterate 3 (focus ((with_reducible (repeat' (first | assumption | apply bl_refl | apply bl_al | apply bl_drew | apply bl_drewN | (apply bl_set; case hp => (first | (simp; done) | (simp; omega) | (dsimp only; omega))) | (apply bl_row; case hg => (first | (simp; done) | (simp; omega) | omega)) | apply hb3 | apply bx_refl | (apply bx_set; case hp => (first | exact Or.inl (by simp; done) | exact Or.inr (by first | (simp; done) | (simp; omega) | (dsimp only; omega)))) | apply bx_drew | apply bx_al | apply bx_drewN | apply hb3x | (apply Blk.newAt; first | (simp; done) | rfl) | apply Blk.alloc | apply Blk.drew | apply Blk.drewN | apply Blk.set | (apply Blk.other; case hne => first | assumption | (simp; done) | (simp; omega) | omega) | apply Blk.row | (apply Blk.rowOther; case hne => first | assumption | (simp; done) | (simp; omega) | omega) | apply Blk.below (hb := hb3 _ (bl_refl _))))); done))
      intro wb hb0' k0' k9'
      (try simp only [List.setIfInBounds_toArray, List.set_cons_zero, List.set_cons_succ] at k0' k9')
      try clear hb3
      try clear hb0
      try clear k0
      try clear k9
      have hb0 := hb0'; clear hb0'
      have k0 := k0'; clear k0'
      have k9 := k9'; clear k9'
      have Lk0 := k0.later
      have Fk0 := k0.laterF
      have Qk0 := k0.lt
      have Lk9 := k9.later
      have Fk9 := k9.laterF
      have Qk9 := k9.lt
      by_cases h1 : x.kind = 1
      · have hre : rdErr nb x = fstE [unl (inR x.kind 0 1) 15, unl (inR x.idx 0 2) 6, unl (inR x.v.lo (-30000) 30000 && inR x.v.hi (-30000) 30000) 2, unl (decide (x.v.lo ≤ x.v.hi)) 9] := by
          unfold rdErr rdErr.insR
          simp only [if_pos h1]
        have h1' : (x.kind == 1) = true := by simp [h1]
        replace h1 := Lib.hid h1
        obtain ⟨bk, h⟩ : ∃ b', inR x.kind 0 1 = b' := ⟨_, rfl⟩
        have hck := Lib.hid fun W : World => h ▸ r_Within x.kind 0 1 W
        rw [h] at hre
        clear h
        obtain ⟨bi, h⟩ : ∃ b', inR x.idx 0 2 = b' := ⟨_, rfl⟩
        have hci := Lib.hid fun W : World => h ▸ r_Within x.idx 0 2 W
        rw [h] at hre
        clear h
        obtain ⟨b1, h⟩ : ∃ b', inR x.v.lo (-30000) 30000 = b' := ⟨_, rfl⟩
        have hc1 := Lib.hid fun W : World => h ▸ r_Within x.v.lo (-30000) 30000 W
        rw [h] at hre
        clear h
        obtain ⟨b2, h⟩ : ∃ b', inR x.v.hi (-30000) 30000 = b' := ⟨_, rfl⟩
        have hc2 := Lib.hid fun W : World => h ▸ r_Within x.v.hi (-30000) 30000 W
        rw [h] at hre
        clear h
        replace hre := Lib.hid hre
        cases bk
        case false =>
          go_wp2_with (go_at_call 47; (first | (with_reducible refine (hck.out _).mono ?_) | (with_reducible refine (hci.out _).mono ?_) | (with_reducible refine (hc1.out _).mono ?_) | (with_reducible refine (hc2.out _).mono ?_)); rintro e w3 ⟨rfl, rfl⟩)
          go_ret2
          exact ⟨by rw [e.out, hi.out, hd.out, hre.out] <;> rfl, bl_tr hb0' hb0⟩
        cases bi
        case false =>
          go_wp2_with (go_at_call 47; (first | (with_reducible refine (hck.out _).mono ?_) | (with_reducible refine (hci.out _).mono ?_) | (with_reducible refine (hc1.out _).mono ?_) | (with_reducible refine (hc2.out _).mono ?_)); rintro e w3 ⟨rfl, rfl⟩)
          go_ret2
          exact ⟨by rw [e.out, hi.out, hd.out, hre.out] <;> rfl, bl_tr hb0' hb0⟩
        cases b1
        case false =>
          go_wp2_with (go_at_call 47; (first | (with_reducible refine (hck.out _).mono ?_) | (with_reducible refine (hci.out _).mono ?_) | (with_reducible refine (hc1.out _).mono ?_) | (with_reducible refine (hc2.out _).mono ?_)); rintro e w3 ⟨rfl, rfl⟩)
          go_ret2
          exact ⟨by rw [e.out, hi.out, hd.out, hre.out] <;> rfl, bl_tr hb0' hb0⟩
        cases b2
        case false =>
          go_wp2_with (go_at_call 47; (first | (with_reducible refine (hck.out _).mono ?_) | (with_reducible refine (hci.out _).mono ?_) | (with_reducible refine (hc1.out _).mono ?_) | (with_reducible refine (hc2.out _).mono ?_)); rintro e w3 ⟨rfl, rfl⟩)
          go_ret2
          exact ⟨by rw [e.out, hi.out, hd.out, hre.out] <;> rfl, bl_tr hb0' hb0⟩
        cases hbo : decide (x.v.lo ≤ x.v.hi)
        case false =>
          have e1 : decide (x.v.hi < x.v.lo) = true := by have := of_decide_eq_false hbo; simp; omega
          rw [hbo] at hre
          clear hbo
          go_wp2_with (go_at_call 47; (first | (with_reducible refine (hck.out _).mono ?_) | (with_reducible refine (hci.out _).mono ?_) | (with_reducible refine (hc1.out _).mono ?_) | (with_reducible refine (hc2.out _).mono ?_)); rintro e w3 ⟨rfl, rfl⟩)
          go_ret2
          exact ⟨by rw [e.out, hi.out, hd.out, hre.out] <;> rfl, bl_tr hb0' hb0⟩
        have e1 : decide (x.v.hi < x.v.lo) = false := by have := of_decide_eq_true hbo; simp; omega
        rw [hbo] at hre
        clear hbo
        go_wp2_with (go_at_call 47; (first | (with_reducible refine (hck.out _).mono ?_) | (with_reducible refine (hci.out _).mono ?_) | (with_reducible refine (hc1.out _).mono ?_) | (with_reducible refine (hc2.out _).mono ?_)); rintro e w3 ⟨rfl, rfl⟩)
        go_roundw
        case rel => exact ⟨k + 1, by omega, by go_num, hb0, by rw [hi.out, hd.out, hre.out] <;> rfl⟩
        case measure => simp [intOf]; omega
      · have hre : rdErr nb x = fstE [unl (inR x.kind 0 1) 15, unl (inR x.idx 0 ((nb : Int) - 1)) 6, unl (inR x.v.lo 0 30000 && inR x.v.hi 0 30000) 2, unl (decide (x.v.lo ≤ x.v.hi)) 9] := by
          unfold rdErr rdErr.insR
          simp only [if_neg h1]
        have h1' : (x.kind == 1) = false := by simp [h1]
        replace h1 := Lib.hid h1
        obtain ⟨bk, h⟩ : ∃ b', inR x.kind 0 1 = b' := ⟨_, rfl⟩
        have hck := Lib.hid fun W : World => h ▸ r_Within x.kind 0 1 W
        rw [h] at hre
        clear h
        obtain ⟨bi, h⟩ : ∃ b', inR x.idx 0 ((nb : Int) - 1) = b' := ⟨_, rfl⟩
        have hci := Lib.hid fun W : World => h ▸ r_Within x.idx 0 ((nb : Int) - 1) W
        rw [h] at hre
        clear h
        obtain ⟨b1, h⟩ : ∃ b', inR x.v.lo 0 30000 = b' := ⟨_, rfl⟩
        have hc1 := Lib.hid fun W : World => h ▸ r_Within x.v.lo 0 30000 W
        rw [h] at hre
        clear h
        obtain ⟨b2, h⟩ : ∃ b', inR x.v.hi 0 30000 = b' := ⟨_, rfl⟩
        have hc2 := Lib.hid fun W : World => h ▸ r_Within x.v.hi 0 30000 W
        rw [h] at hre
        clear h
        replace hre := Lib.hid hre
        cases bk
        case false =>
          go_wp2_with (go_at_call 47; (first | (with_reducible refine (hck.out _).mono ?_) | (with_reducible refine (hci.out _).mono ?_) | (with_reducible refine (hc1.out _).mono ?_) | (with_reducible refine (hc2.out _).mono ?_)); rintro e w3 ⟨rfl, rfl⟩)
          go_ret2
          exact ⟨by rw [e.out, hi.out, hd.out, hre.out] <;> rfl, bl_tr hb0' hb0⟩
        cases bi
        case false =>
          go_wp2_with (go_at_call 47; (first | (with_reducible refine (hck.out _).mono ?_) | (with_reducible refine (hci.out _).mono ?_) | (with_reducible refine (hc1.out _).mono ?_) | (with_reducible refine (hc2.out _).mono ?_)); rintro e w3 ⟨rfl, rfl⟩)
          go_ret2
          exact ⟨by rw [e.out, hi.out, hd.out, hre.out] <;> rfl, bl_tr hb0' hb0⟩
        cases b1
        case false =>
          go_wp2_with (go_at_call 47; (first | (with_reducible refine (hck.out _).mono ?_) | (with_reducible refine (hci.out _).mono ?_) | (with_reducible refine (hc1.out _).mono ?_) | (with_reducible refine (hc2.out _).mono ?_)); rintro e w3 ⟨rfl, rfl⟩)
          go_ret2
          exact ⟨by rw [e.out, hi.out, hd.out, hre.out] <;> rfl, bl_tr hb0' hb0⟩
        cases b2
        case false =>
          go_wp2_with (go_at_call 47; (first | (with_reducible refine (hck.out _).mono ?_) | (with_reducible refine (hci.out _).mono ?_) | (with_reducible refine (hc1.out _).mono ?_) | (with_reducible refine (hc2.out _).mono ?_)); rintro e w3 ⟨rfl, rfl⟩)
          go_ret2
          exact ⟨by rw [e.out, hi.out, hd.out, hre.out] <;> rfl, bl_tr hb0' hb0⟩
        cases hbo : decide (x.v.lo ≤ x.v.hi)
        case false =>
          have e1 : decide (x.v.hi < x.v.lo) = true := by have := of_decide_eq_false hbo; simp; omega
          rw [hbo] at hre
          clear hbo
          go_wp2_with (go_at_call 47; (first | (with_reducible refine (hck.out _).mono ?_) | (with_reducible refine (hci.out _).mono ?_) | (with_reducible refine (hc1.out _).mono ?_) | (with_reducible refine (hc2.out _).mono ?_)); rintro e w3 ⟨rfl, rfl⟩)
          go_ret2
          exact ⟨by rw [e.out, hi.out, hd.out, hre.out] <;> rfl, bl_tr hb0' hb0⟩
        have e1 : decide (x.v.hi < x.v.lo) = false := by have := of_decide_eq_true hbo; simp; omega
        rw [hbo] at hre
        clear hbo
        go_wp2_with (go_at_call 47; (first | (with_reducible refine (hck.out _).mono ?_) | (with_reducible refine (hci.out _).mono ?_) | (with_reducible refine (hc1.out _).mono ?_) | (with_reducible refine (hc2.out _).mono ?_)); rintro e w3 ⟨rfl, rfl⟩)
        go_roundw
        case rel => exact ⟨k + 1, by omega, by go_num, hb0, by rw [hi.out, hd.out, hre.out] <;> rfl⟩
        case measure => simp [intOf]; omega
    · go_wp2
      go_ret2
      have : k = l.length := by have := Hn.out; omega
      exact ⟨by rw [e.out, hi.out, this]; simp [eachS], bl_tr hb0 hb⟩
/-- The reference's errors of readings, and of a vote, behind a valid net. -/
theorem refReads_eq {n : Nt} {l : List Rd} (h : netErr n = 0) : refReads n.bs.length l = readsChk n l := by
  unfold refReads readsChk readsE
  by_cases h8 : 8 < l.length
  · have h8' : ¬ ((l.length : Int) ≤ 8) := by omega
    simp [h, fstE, unl, h8, h8']
  · have h8' : ((l.length : Int) ≤ 8) := by omega
    simp [h, fstE, unl, h8, h8']
end Go.Proofs.Ytephimmamkafoaa
