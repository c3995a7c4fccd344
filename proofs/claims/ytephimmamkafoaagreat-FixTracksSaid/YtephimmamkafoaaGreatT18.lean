/-
  Walks: which readings are valid, by the reference.
  Walks: the reference's names; the errors of a vote.
  Walks: whether a box is too great for a search; the reference's error of a net alone, and of a box.
  Walk: the reference's names.
-/
import Derived.Test.YtephimmamkafoaaGreatT14
import Derived.Test.YtephimmamkafoaaGreatT7
import Derived.Test.YtephimmamkafoaaGreatT10
import Derived.Test.YtephimmamkafoaaGreatT16
import Derived.Test.YtephimmamkafoaaGreatT3
import Derived.Test.YtephimmamkafoaaGreatT2
set_option linter.unusedSimpArgs false
set_option linter.unusedVariables false
namespace Go.Proofs.YtephimmamkafoaaGreat
open Go.RowKit Go.Shelf
attribute [local go_sem] bl_al bl_drew bl_drewN bl_refl bx_al bx_drew bx_drewN bx_refl
set_option maxRecDepth 20000
def refReads (nb : Nat) (l : List Rd) : Int × Int := if 8 < l.length then (0, 8) else eachS (fun _ r => rdErr nb r) l 0
set_option maxHeartbeats 8000000 in
theorem r_CheckReadings (wd : Bx) (nb : Nat) (l : List Rd) (s : Option Addr) (A' : Option Addr) (c c' : Nat) (w : World) (hl : Sl cRd 4 w A' l) (hll : l.length ≤ 1000) (hnb : nb ≤ 1000) :
    Calls Tryz.prog 96 #[vNt wd (.slice s nb c), .slice A' l.length c'] w (Ret (.tuple #[.int .i64 (refReads nb l).1, .int .i64 (refReads nb l).2]) w) := by
  have Hl := Lib.hid hl
  obtain ⟨n, Hn⟩ : ∃ n, Hid (l.length = n) := ⟨_, rfl⟩
  have hs1 : Hid (8 < n → refReads nb l = (0, 8)) := fun h => by rw [refReads, Hn.out, if_pos h]
  have hs2 : Hid (¬ 8 < n → refReads nb l = eachS (fun _ r => rdErr nb r) l 0) := fun h => by rw [refReads, Hn.out, if_neg h]
  rw [Hn.out] at hll ⊢
  clear hl
  by_cases h8 : 8 < n
  · have e := Lib.hid (hs1.out h8)
    have h8' : decide ((8 : Int) < (n : Int)) = true := by simp; omega
    clear h8
    go_enter Tryz.func96, Tryz.ntmps96
    go_wp2
    go_ret2
    exact ⟨by rw [e.out] <;> rfl, by (with_reducible (repeat' (first | assumption | apply jA | apply jB | apply jC | apply jD | apply jE | apply jF | apply hb3 | omega | (simp; done) | (simp; omega) | (dsimp only; omega))))⟩
  have e := Lib.hid (hs2.out h8)
  have h8' : decide ((8 : Int) < (n : Int)) = false := by simp; omega
  clear h8 hs1 hs2
  go_enter Tryz.func96, Tryz.ntmps96
  go_upto_region 3 with fail
  apply absB1 (w0 := w) (g0 := w.heap.size)
  iterate 2 (focus ((with_reducible (repeat' (first | assumption | apply jA | apply jB | apply jC | apply jD | apply jE | apply jF | apply hb3 | apply jG | apply jH | apply jI | apply jJ | apply jK | apply hb3x | (apply jL; first | (simp; done) | rfl) | apply jM | apply jN | apply jO | apply jP | apply jQ | apply jR | apply jS | apply jT (hb := hb3 _ (jA _)) | omega | (simp; done) | (simp; omega) | (dsimp only; omega)))); done))
  intro wa hb0' k0'
  (try simp only [List.setIfInBounds_toArray, List.set_cons_zero, List.set_cons_succ] at k0')
  try clear hb3
  try clear hb0
  try clear k0
  have hb0 := hb0'; clear hb0'
  have k0 := k0'; clear k0'
  have Lk0 := k0.later
  have Fk0 := k0.laterF
  have Qk0 := k0.lt
  go_wp2
  go_loopw [6] (fun i wr => ∃ k : Nat, k ≤ n ∧ i = .int .i64 k ∧ Below wa.heap.size wa wr ∧ eachS (fun _ r => rdErr nb r) l 0 = eachS (fun _ r => rdErr nb r) (l.drop k) k) (fun i _ => n - (intOf i).toNat)
  case atStart => exact ⟨0, Nat.zero_le _, rfl, Below.refl _ _, rfl⟩
  case round =>
    obtain ⟨k, hk, rfl, hb, hi⟩ := hrel
    replace hi := Lib.hid hi
    by_cases hlt : k < n
    · have hx : l[k]? = some (l[k]'(by rw [Hn.out]; exact hlt)) := List.getElem?_eq_getElem _
      generalize l[k]'(by rw [Hn.out]; exact hlt) = x at hx
      obtain ⟨b, off, hA, hc⟩ := Hl.out k x hx
      have hd := Lib.hid (eachS_drop (fun _ r => rdErr nb r) l k x hx)
      replace hx := Lib.hid hx
      have c0 : wr.cell? ⟨b, off + k * 4, none⟩ = some (.int .i64 x.kind) := kcell (bl_tr hb0 hb) (hc 0 _ rfl)
      have c1 : wr.cell? ⟨b, off + k * 4 + 1, none⟩ = some (.int .i64 x.idx) := kcell (bl_tr hb0 hb) (hc 1 _ rfl)
      have c2 : wr.cell? ⟨b, off + k * 4 + 2, none⟩ = some (.int .i64 x.v.lo) := kcell (bl_tr hb0 hb) (hc 2 _ rfl)
      have c3 : wr.cell? ⟨b, off + k * 4 + 3, none⟩ = some (.int .i64 x.v.hi) := kcell (bl_tr hb0 hb) (hc 3 _ rfl)
      clear hc
      subst hA
      go_upto_region 7 with fail
      have k0 := k0.below hb
      have hb0' := hb0
      have hb0 := hb
      apply absB2 (w0 := wa) (g0 := w.heap.size) (g1 := wr.heap.size)
      iterate 3 (focus ((with_reducible (repeat' (first | assumption | apply jA | apply jB | apply jC | apply jD | apply jE | apply jF | apply hb3 | apply jG | apply jH | apply jI | apply jJ | apply jK | apply hb3x | (apply jL; first | (simp; done) | rfl) | apply jM | apply jN | apply jO | apply jP | apply jQ | apply jR | apply jS | apply jT (hb := hb3 _ (jA _)) | omega | (simp; done) | (simp; omega) | (dsimp only; omega)))); done))
      intro wb hb0' k0' k9'
      (try simp only [List.setIfInBounds_toArray, List.set_cons_zero, List.set_cons_succ] at k0' k9')
      try clear hb3
      try clear hb0
      try clear k0
      try clear k9
      have hb0 := hb0'; clear hb0'
      have k0 := k0'; clear k0'
      have k9 := k9'; clear k9'
      have Lk0 := k0.later
      have Fk0 := k0.laterF
      have Qk0 := k0.lt
      have Lk9 := k9.later
      have Fk9 := k9.laterF
      have Qk9 := k9.lt
      by_cases h1 : x.kind = 1
      · have hre : rdErr nb x = fstE [unl (inR x.kind 0 1) 15, unl (inR x.idx 0 2) 6, unl (inR x.v.lo (-30000) 30000 && inR x.v.hi (-30000) 30000) 2, unl (decide (x.v.lo ≤ x.v.hi)) 9] := by
          unfold rdErr rdErr.insR
          simp only [if_pos h1]
        have h1' : (x.kind == 1) = true := by simp [h1]
        replace h1 := Lib.hid h1
        obtain ⟨bk, h⟩ : ∃ b', inR x.kind 0 1 = b' := ⟨_, rfl⟩
        have hck := Lib.hid fun W : World => h ▸ r_Within x.kind 0 1 W
        rw [h] at hre
        clear h
        obtain ⟨bi, h⟩ : ∃ b', inR x.idx 0 2 = b' := ⟨_, rfl⟩
        have hci := Lib.hid fun W : World => h ▸ r_Within x.idx 0 2 W
        rw [h] at hre
        clear h
        obtain ⟨b1, h⟩ : ∃ b', inR x.v.lo (-30000) 30000 = b' := ⟨_, rfl⟩
        have hc1 := Lib.hid fun W : World => h ▸ r_Within x.v.lo (-30000) 30000 W
        rw [h] at hre
        clear h
        obtain ⟨b2, h⟩ : ∃ b', inR x.v.hi (-30000) 30000 = b' := ⟨_, rfl⟩
        have hc2 := Lib.hid fun W : World => h ▸ r_Within x.v.hi (-30000) 30000 W
        rw [h] at hre
        clear h
        replace hre := Lib.hid hre
        cases bk
        case false =>
          go_wp2_with (go_at_call 78; (first | (with_reducible refine (hck.out _).mono ?_) | (with_reducible refine (hci.out _).mono ?_) | (with_reducible refine (hc1.out _).mono ?_) | (with_reducible refine (hc2.out _).mono ?_)); rintro e w3 ⟨rfl, rfl⟩)
          go_ret2
          exact ⟨by rw [e.out, hi.out, hd.out, hre.out] <;> rfl, bl_tr hb0' hb0⟩
        cases bi
        case false =>
          go_wp2_with (go_at_call 78; (first | (with_reducible refine (hck.out _).mono ?_) | (with_reducible refine (hci.out _).mono ?_) | (with_reducible refine (hc1.out _).mono ?_) | (with_reducible refine (hc2.out _).mono ?_)); rintro e w3 ⟨rfl, rfl⟩)
          go_ret2
          exact ⟨by rw [e.out, hi.out, hd.out, hre.out] <;> rfl, bl_tr hb0' hb0⟩
        cases b1
        case false =>
          go_wp2_with (go_at_call 78; (first | (with_reducible refine (hck.out _).mono ?_) | (with_reducible refine (hci.out _).mono ?_) | (with_reducible refine (hc1.out _).mono ?_) | (with_reducible refine (hc2.out _).mono ?_)); rintro e w3 ⟨rfl, rfl⟩)
          go_ret2
          exact ⟨by rw [e.out, hi.out, hd.out, hre.out] <;> rfl, bl_tr hb0' hb0⟩
        cases b2
        case false =>
          go_wp2_with (go_at_call 78; (first | (with_reducible refine (hck.out _).mono ?_) | (with_reducible refine (hci.out _).mono ?_) | (with_reducible refine (hc1.out _).mono ?_) | (with_reducible refine (hc2.out _).mono ?_)); rintro e w3 ⟨rfl, rfl⟩)
          go_ret2
          exact ⟨by rw [e.out, hi.out, hd.out, hre.out] <;> rfl, bl_tr hb0' hb0⟩
        cases hbo : decide (x.v.lo ≤ x.v.hi)
        case false =>
          have e1 : decide (x.v.hi < x.v.lo) = true := by have := of_decide_eq_false hbo; simp; omega
          rw [hbo] at hre
          clear hbo
          go_wp2_with (go_at_call 78; (first | (with_reducible refine (hck.out _).mono ?_) | (with_reducible refine (hci.out _).mono ?_) | (with_reducible refine (hc1.out _).mono ?_) | (with_reducible refine (hc2.out _).mono ?_)); rintro e w3 ⟨rfl, rfl⟩)
          go_ret2
          exact ⟨by rw [e.out, hi.out, hd.out, hre.out] <;> rfl, bl_tr hb0' hb0⟩
        have e1 : decide (x.v.hi < x.v.lo) = false := by have := of_decide_eq_true hbo; simp; omega
        rw [hbo] at hre
        clear hbo
        go_wp2_with (go_at_call 78; (first | (with_reducible refine (hck.out _).mono ?_) | (with_reducible refine (hci.out _).mono ?_) | (with_reducible refine (hc1.out _).mono ?_) | (with_reducible refine (hc2.out _).mono ?_)); rintro e w3 ⟨rfl, rfl⟩)
        go_roundw
        case rel => exact ⟨k + 1, by omega, by go_num, hb0, by rw [hi.out, hd.out, hre.out] <;> rfl⟩
        case measure => simp [intOf]; omega
      · have hre : rdErr nb x = fstE [unl (inR x.kind 0 1) 15, unl (inR x.idx 0 ((nb : Int) - 1)) 6, unl (inR x.v.lo 0 30000 && inR x.v.hi 0 30000) 2, unl (decide (x.v.lo ≤ x.v.hi)) 9] := by
          unfold rdErr rdErr.insR
          simp only [if_neg h1]
        have h1' : (x.kind == 1) = false := by simp [h1]
        replace h1 := Lib.hid h1
        obtain ⟨bk, h⟩ : ∃ b', inR x.kind 0 1 = b' := ⟨_, rfl⟩
        have hck := Lib.hid fun W : World => h ▸ r_Within x.kind 0 1 W
        rw [h] at hre
        clear h
        obtain ⟨bi, h⟩ : ∃ b', inR x.idx 0 ((nb : Int) - 1) = b' := ⟨_, rfl⟩
        have hci := Lib.hid fun W : World => h ▸ r_Within x.idx 0 ((nb : Int) - 1) W
        rw [h] at hre
        clear h
        obtain ⟨b1, h⟩ : ∃ b', inR x.v.lo 0 30000 = b' := ⟨_, rfl⟩
        have hc1 := Lib.hid fun W : World => h ▸ r_Within x.v.lo 0 30000 W
        rw [h] at hre
        clear h
        obtain ⟨b2, h⟩ : ∃ b', inR x.v.hi 0 30000 = b' := ⟨_, rfl⟩
        have hc2 := Lib.hid fun W : World => h ▸ r_Within x.v.hi 0 30000 W
        rw [h] at hre
        clear h
        replace hre := Lib.hid hre
        cases bk
        case false =>
          go_wp2_with (go_at_call 78; (first | (with_reducible refine (hck.out _).mono ?_) | (with_reducible refine (hci.out _).mono ?_) | (with_reducible refine (hc1.out _).mono ?_) | (with_reducible refine (hc2.out _).mono ?_)); rintro e w3 ⟨rfl, rfl⟩)
          go_ret2
          exact ⟨by rw [e.out, hi.out, hd.out, hre.out] <;> rfl, bl_tr hb0' hb0⟩
        cases bi
        case false =>
          go_wp2_with (go_at_call 78; (first | (with_reducible refine (hck.out _).mono ?_) | (with_reducible refine (hci.out _).mono ?_) | (with_reducible refine (hc1.out _).mono ?_) | (with_reducible refine (hc2.out _).mono ?_)); rintro e w3 ⟨rfl, rfl⟩)
          go_ret2
          exact ⟨by rw [e.out, hi.out, hd.out, hre.out] <;> rfl, bl_tr hb0' hb0⟩
        cases b1
        case false =>
          go_wp2_with (go_at_call 78; (first | (with_reducible refine (hck.out _).mono ?_) | (with_reducible refine (hci.out _).mono ?_) | (with_reducible refine (hc1.out _).mono ?_) | (with_reducible refine (hc2.out _).mono ?_)); rintro e w3 ⟨rfl, rfl⟩)
          go_ret2
          exact ⟨by rw [e.out, hi.out, hd.out, hre.out] <;> rfl, bl_tr hb0' hb0⟩
        cases b2
        case false =>
          go_wp2_with (go_at_call 78; (first | (with_reducible refine (hck.out _).mono ?_) | (with_reducible refine (hci.out _).mono ?_) | (with_reducible refine (hc1.out _).mono ?_) | (with_reducible refine (hc2.out _).mono ?_)); rintro e w3 ⟨rfl, rfl⟩)
          go_ret2
          exact ⟨by rw [e.out, hi.out, hd.out, hre.out] <;> rfl, bl_tr hb0' hb0⟩
        cases hbo : decide (x.v.lo ≤ x.v.hi)
        case false =>
          have e1 : decide (x.v.hi < x.v.lo) = true := by have := of_decide_eq_false hbo; simp; omega
          rw [hbo] at hre
          clear hbo
          go_wp2_with (go_at_call 78; (first | (with_reducible refine (hck.out _).mono ?_) | (with_reducible refine (hci.out _).mono ?_) | (with_reducible refine (hc1.out _).mono ?_) | (with_reducible refine (hc2.out _).mono ?_)); rintro e w3 ⟨rfl, rfl⟩)
          go_ret2
          exact ⟨by rw [e.out, hi.out, hd.out, hre.out] <;> rfl, bl_tr hb0' hb0⟩
        have e1 : decide (x.v.hi < x.v.lo) = false := by have := of_decide_eq_true hbo; simp; omega
        rw [hbo] at hre
        clear hbo
        go_wp2_with (go_at_call 78; (first | (with_reducible refine (hck.out _).mono ?_) | (with_reducible refine (hci.out _).mono ?_) | (with_reducible refine (hc1.out _).mono ?_) | (with_reducible refine (hc2.out _).mono ?_)); rintro e w3 ⟨rfl, rfl⟩)
        go_roundw
        case rel => exact ⟨k + 1, by omega, by go_num, hb0, by rw [hi.out, hd.out, hre.out] <;> rfl⟩
        case measure => simp [intOf]; omega
    · go_wp2
      go_ret2
      have : k = l.length := by have := Hn.out; omega
      exact ⟨by rw [e.out, hi.out, this]; simp [eachS], bl_tr hb0 hb⟩
/-- The reference's errors of readings, and of a vote, behind a valid net. -/
theorem refReads_eq {n : Nt} {l : List Rd} (h : netErr n = 0) : refReads n.bs.length l = readsChk n l := by
  unfold refReads readsChk readsE
  by_cases h8 : 8 < l.length
  · have h8' : ¬ ((l.length : Int) ≤ 8) := by omega
    simp [h, fstE, unl, h8, h8']
  · have h8' : ((l.length : Int) ≤ 8) := by omega
    simp [h, fstE, unl, h8, h8']
end Go.Proofs.YtephimmamkafoaaGreat
namespace Go.Proofs.YtephimmamkafoaaGreat
open Go.RowKit Go.Shelf
attribute [local go_sem] bl_al bl_drew bl_drewN bl_refl bx_al bx_drew bx_drewN bx_refl
set_option maxRecDepth 20000
/-- The errors of a vote of a valid net. -/
def refVote (nb : Nat) (v : Vt) : Int := if (refReads nb v.rs).2 = 0 then unl (inR v.wrong 0 v.rs.length) 2 else (refReads nb v.rs).2
set_option maxHeartbeats 4000000 in
theorem r_VoteErr (wd : Bx) (nb : Nat) (v : Vt) (s : Option Addr) (A' : Option Addr) (c c' : Nat) (w : World) (hl : Sl cRd 4 w A' v.rs) (hll : v.rs.length ≤ 1000) (hnb : nb ≤ 1000) :
    Calls Tryz.prog 56 #[vNt wd (.slice s nb c), .agg #[.slice A' v.rs.length c', .int .i64 v.wrong]] w (Ret (.int .i64 (refVote nb v)) w) := by
  have hcr := Lib.hid fun (W : World) (hb : Below w.heap.size w W) => r_CheckReadings wd nb v.rs s A' c c' W (hl.below hb) hll hnb
  have hr1 : Hid ((refReads nb v.rs).2 = 0 → refVote nb v = unl (inR v.wrong 0 v.rs.length) 2) := fun h => by rw [refVote, if_pos h]
  have hr2 : Hid ((refReads nb v.rs).2 ≠ 0 → refVote nb v = (refReads nb v.rs).2) := fun h => by rw [refVote, if_neg h]
  clear hl
  generalize v.rs.length = ll at *
  generalize refReads nb v.rs = re at *
  go_enter Tryz.func56, Tryz.ntmps56
  go_upto_region 1 with fail
  apply absB2 (w0 := w) (g0 := w.heap.size) (g1 := w.heap.size + 1)
  iterate 3 (focus ((with_reducible (repeat' (first | assumption | apply jA | apply jB | apply jC | apply jD | apply jE | apply jF | apply hb3 | apply jG | apply jH | apply jI | apply jJ | apply jK | apply hb3x | (apply jL; first | (simp; done) | rfl) | apply jM | apply jN | apply jO | apply jP | apply jQ | apply jR | apply jS | apply jT (hb := hb3 _ (jA _)) | omega | (simp; done) | (simp; omega) | (dsimp only; omega)))); done))
  intro wa hb0' k0' k1'
  (try simp only [List.setIfInBounds_toArray, List.set_cons_zero, List.set_cons_succ] at k0' k1')
  try clear hb3
  try clear hb0
  try clear k0
  try clear k1
  have hb0 := hb0'; clear hb0'
  have k0 := k0'; clear k0'
  have k1 := k1'; clear k1'
  have Lk0 := k0.later
  have Fk0 := k0.laterF
  have Qk0 := k0.lt
  have Lk1 := k1.later
  have Fk1 := k1.laterF
  have Qk1 := k1.lt
  by_cases h0 : re.2 = 0
  · have e := Lib.hid (hr1.out h0)
    have h0' : (re.2 != 0) = false := by simp [h0]
    clear h0 hr1 hr2
    obtain ⟨bv, h⟩ : ∃ b', inR v.wrong 0 ll = b' := ⟨_, rfl⟩
    have hcv := Lib.hid fun W : World => h ▸ r_Within v.wrong 0 ll W
    rw [h] at e
    clear h
    cases bv
    all_goals
      go_wp2_with fail
      refine Calls.mono (hcr.out _ hb0) ?_
      rintro e' w3 ⟨rfl, hb3⟩
      replace hb3 := bl_tt hb3
      apply absX2 (w0 := w) (w := w3) (g0 := w.heap.size) (g1 := w.heap.size + 1)
      iterate 3 (focus ((with_reducible (repeat' (first | assumption | apply jA | apply jB | apply jC | apply jD | apply jE | apply jF | apply hb3 | apply jG | apply jH | apply jI | apply jJ | apply jK | apply hb3x | (apply jL; first | (simp; done) | rfl) | apply jM | apply jN | apply jO | apply jP | apply jQ | apply jR | apply jS | apply jT (hb := hb3 _ (jA _)) | omega | (simp; done) | (simp; omega) | (dsimp only; omega)))); done))
      intro wb hb0' k0' k1'
      (try simp only [List.setIfInBounds_toArray, List.set_cons_zero, List.set_cons_succ] at k0' k1')
      try clear hb3
      try clear Lk0
      try clear Fk0
      try clear Qk0
      try clear Lk1
      try clear Fk1
      try clear Qk1
      try clear hb0
      try clear k0
      try clear k1
      have hb0 := hb0'; clear hb0'
      have k0 := k0'; clear k0'
      have k1 := k1'; clear k1'
      have Lk0 := k0.later
      have Fk0 := k0.laterF
      have Qk0 := k0.lt
      have Lk1 := k1.later
      have Fk1 := k1.laterF
      have Qk1 := k1.lt
      go_wp2_with (go_at_call 78; (with_reducible refine (hcv.out _).mono ?_); rintro e w3 ⟨rfl, rfl⟩)
      go_ret
      exact ⟨by rw [e.out] <;> rfl, hb0⟩
  · have e := Lib.hid (hr2.out h0)
    have h0' : (re.2 != 0) = true := by simp [h0]
    clear h0 hr1 hr2
    go_wp2_with fail
    refine Calls.mono (hcr.out _ hb0) ?_
    rintro e' w3 ⟨rfl, hb3⟩
    go_wp2
    go_ret
    exact ⟨by rw [e.out] <;> rfl, bl_tr hb0 hb3⟩
end Go.Proofs.YtephimmamkafoaaGreat
namespace Go.Proofs.YtephimmamkafoaaGreat
open Go.RowKit Go.Shelf
attribute [local go_sem] bl_al bl_drew bl_drewN bl_refl bx_al bx_drew bx_drewN bx_refl
set_option maxRecDepth 20000
theorem big_mul {s y : Int} (h : 20000 < s) (hy : 1 ≤ y) : 20000 < s * y := by
  have := Int.mul_le_mul_of_nonneg_left hy (show 0 ≤ s by omega)
  omega
set_option maxHeartbeats 4000000 in
theorem r_IsLarge (a : Bx) (w : World) (ha : a.ok) : Calls Tryz.prog 44 #[vBx a] w (Ret (.bool (decide (20000 < a.size))) w) := by
  obtain ⟨⟨x1, x2, x3⟩, ⟨y1, y2, y3⟩, ⟨z1, z2, z3⟩⟩ := ha
  obtain ⟨p1, p2⟩ := mul_bd (a := a.x.hi - a.x.lo + 1) (b := a.y.hi - a.y.lo + 1) (m := 20001) (n := 20001) (by omega) (by omega) (by omega) (by omega)
  obtain ⟨q1, q2⟩ := mul_bd (a := (a.x.hi - a.x.lo + 1) * (a.y.hi - a.y.lo + 1)) (b := a.z.hi - a.z.lo + 1) (m := 400040001) (n := 20001) p1 p2 (by omega) (by omega)
  have m1 := Lib.hid fun h : 20000 < a.x.hi - a.x.lo + 1 => big_mul (big_mul h (show 1 ≤ a.y.hi - a.y.lo + 1 by omega)) (show 1 ≤ a.z.hi - a.z.lo + 1 by omega)
  have m2 := Lib.hid fun h : 20000 < (a.x.hi - a.x.lo + 1) * (a.y.hi - a.y.lo + 1) => big_mul h (show 1 ≤ a.z.hi - a.z.lo + 1 by omega)
  go_enter Tryz.func44, Tryz.ntmps44
  go_upto_region 2 with ((go_at_call 77; (with_reducible refine (r_Sides a _).mono ?_); rintro e w3 ⟨rfl, hb3⟩; replace hb3 := bl_tt hb3))
  apply absB2 (w0 := w) (g0 := w.heap.size) (g1 := w3.heap.size)
  iterate 3 (focus ((with_reducible (repeat' (first | assumption | apply jA | apply jB | apply jC | apply jD | apply jE | apply jF | apply hb3 | apply jG | apply jH | apply jI | apply jJ | apply jK | apply hb3x | (apply jL; first | (simp; done) | rfl) | apply jM | apply jN | apply jO | apply jP | apply jQ | apply jR | apply jS | apply jT (hb := hb3 _ (jA _)) | omega | (simp; done) | (simp; omega) | (dsimp only; omega)))); done))
  intro wa hb0' k0' k1'
  (try simp only [List.setIfInBounds_toArray, List.set_cons_zero, List.set_cons_succ] at k0' k1')
  try clear hb3
  try clear hb0
  try clear k0
  try clear k1
  have hb0 := hb0'; clear hb0'
  have k0 := k0'; clear k0'
  have k1 := k1'; clear k1'
  have Lk0 := k0.later
  have Fk0 := k0.laterF
  have Qk0 := k0.lt
  have Lk1 := k1.later
  have Fk1 := k1.laterF
  have Qk1 := k1.lt
  go_wp2
  refine wp_loop_rounds 4 ?_
  rw [rounds_succ]
  go_wp2
  refine wp_any (w0 := wa) ⟨[12], [], [some 12, some 13, some 14, some 15, some 16, some 17, some 18, some 19, some 20, some 21, some 22, some 23, none], [[], [], [1], [1, 2], [1, 2, 3], [], [5], [5, 6], [5, 6, 7], [1, 2, 3, 4, 5, 6, 7, 8], [1, 2, 3, 4, 5, 6, 7, 8, 9], [0, 1, 2, 3, 4, 5, 6, 7, 8, 9, 10], [0, 1, 2, 3, 4, 5, 6, 7, 8, 9, 10, 11]], [[], [], [1], [2], [3], [], [5], [6], [7], [4, 8], [9], [0, 10], []]⟩ (fun _ => []) (by kernel_rfl) (by kernel_rfl) (by (with_reducible (repeat' (first | assumption | apply jA | apply jB | apply jC | apply jD | apply jE | apply jF | apply hb3 | omega | (simp; done) | (simp; omega) | (dsimp only; omega))))) (fun u => by simp only [putD, Act.put, List.setIfInBounds_toArray, List.set_cons_zero, List.set_cons_succ, Nat.zero_add, Nat.reduceAdd]; rfl) ?_
  apply RGW.on (i := 0) rfl
  · (simp only [gA, gB, gC] <;> rfl)
  · intro γ u W hcur hd
    clear hd
    (try dsimp only)
    refine ⟨rfl, ?_⟩
    go_simp <;> (try go_bits) <;> with_reducible rfl
  · exact fun _ _ _ => rfl
  · rfl
  dsimp only [nA, cA]
  apply RGW.on (i := 1) rfl
  · (simp only [gA, gB, gC] <;> rfl)
  · intro γ u W hcur hd
    clear hd
    (try dsimp only)
    refine ⟨rfl, ?_⟩
    go_simp <;> (try go_bits) <;> with_reducible rfl
  · exact fun _ _ _ => rfl
  · rfl
  dsimp only [nA, cA]
  apply RGW.on (i := 2) rfl
  · (simp only [gA, gB, gC] <;> rfl)
  · intro γ u W hcur hd
    obtain ⟨⟨h1, -, -⟩, -⟩ := hd
    dsimp only at h1
    (try simp only [h1])
    refine ⟨rfl, ?_⟩
    go_simp <;> (try go_bits) <;> with_reducible rfl
  · exact fun _ _ _ => rfl
  · rfl
  dsimp only [nA, cA]
  apply RGW.on (i := 3) rfl
  · (simp only [gA, gB, gC] <;> rfl)
  · intro γ u W hcur hd
    obtain ⟨⟨h2, -, -⟩, -⟩ := hd
    dsimp only at h2
    (try simp only [h2])
    refine ⟨rfl, ?_⟩
    go_simp <;> (try go_bits) <;> with_reducible rfl
  · exact fun _ _ _ => rfl
  · rfl
  dsimp only [nA, cA]
  apply RGW.on (i := 4) rfl
  · (simp only [gA, gB, gC] <;> rfl)
  · intro γ u W hcur hd
    obtain ⟨⟨h3, -, -⟩, -⟩ := hd
    dsimp only at h3
    (try simp only [h3])
    refine ⟨rfl, ?_⟩
    go_simp <;> (try go_bits) <;> with_reducible rfl
  · exact fun _ _ _ => rfl
  · rfl
  dsimp only [nA, cA]
  apply RGW.on (i := 5) rfl
  · (simp only [gA, gB, gC] <;> rfl)
  · intro γ u W hcur hd
    clear hd
    (try dsimp only)
    refine ⟨rfl, ?_⟩
    go_simp <;> (try go_bits) <;> with_reducible rfl
  · exact fun _ _ _ => rfl
  · rfl
  dsimp only [nA, cA]
  apply RGW.on (i := 6) rfl
  · (simp only [gA, gB, gC] <;> rfl)
  · intro γ u W hcur hd
    obtain ⟨⟨h5, -, -⟩, -⟩ := hd
    dsimp only at h5
    (try simp only [h5])
    refine ⟨rfl, ?_⟩
    go_simp <;> (try go_bits) <;> with_reducible rfl
  · exact fun _ _ _ => rfl
  · rfl
  dsimp only [nA, cA]
  apply RGW.on (i := 7) rfl
  · (simp only [gA, gB, gC] <;> rfl)
  · intro γ u W hcur hd
    obtain ⟨⟨h6, -, -⟩, -⟩ := hd
    dsimp only at h6
    (try simp only [h6])
    refine ⟨rfl, ?_⟩
    go_simp <;> (try go_bits) <;> with_reducible rfl
  · exact fun _ _ _ => rfl
  · rfl
  dsimp only [nA, cA]
  apply RGW.on (i := 8) rfl
  · (simp only [gA, gB, gC] <;> rfl)
  · intro γ u W hcur hd
    obtain ⟨⟨h7, -, -⟩, -⟩ := hd
    dsimp only at h7
    (try simp only [h7])
    refine ⟨rfl, ?_⟩
    go_simp <;> (try go_bits) <;> with_reducible rfl
  · exact fun _ _ _ => rfl
  · rfl
  dsimp only [nA, cA]
  apply RGW.on (i := 9) rfl
  · (simp only [gA, gB, gC] <;> rfl)
  · intro γ u W hcur hd
    obtain ⟨⟨h4, -, -⟩, ⟨h8, -, -⟩, -⟩ := hd
    dsimp only at h4 h8
    (try simp only [h4, h8])
    refine ⟨rfl, ?_⟩
    go_simp <;> (try go_bits) <;> with_reducible rfl
  · exact fun _ _ _ => rfl
  · rfl
  dsimp only [nA, cA]
  apply RGW.on (i := 10) rfl
  · (simp only [gA, gB, gC] <;> rfl)
  · intro γ u W hcur hd
    obtain ⟨⟨h9, -, -⟩, -⟩ := hd
    dsimp only at h9
    (try simp only [h9])
    refine ⟨rfl, ?_⟩
    go_simp <;> (try go_bits) <;> with_reducible rfl
  · exact fun _ _ _ => rfl
  · rfl
  dsimp only [nA, cA]
  apply RGW.on (i := 11) rfl
  · (simp only [gA, gB, gC] <;> rfl)
  · intro γ u W hcur hd
    obtain ⟨⟨h0, -, -⟩, ⟨h10, -, -⟩, -⟩ := hd
    dsimp only at h0 h10
    (try simp only [h0, h10])
    refine ⟨rfl, ?_⟩
    go_simp <;> (try go_bits) <;> with_reducible rfl
  · exact fun _ _ _ => rfl
  · rfl
  dsimp only [nA, cA]
  refine RGW.skip (i := 12) rfl rfl ?_
  dsimp only [nA, cA]
  refine RGW.fin (fun γ u wb hwb hd hdis => ?_)
  obtain ⟨⟨h0, -, -⟩, ⟨h1, -, -⟩, ⟨h2, -, -⟩, ⟨h3, -, -⟩, ⟨h4, -, -⟩, ⟨h5, -, -⟩, ⟨h6, -, -⟩, ⟨h7, -, -⟩, ⟨h8, -, -⟩, ⟨h9, -, -⟩, ⟨h10, -, -⟩, ⟨h11, -, -⟩, -⟩ := hd
  dsimp only at h0 h1 h2 h3 h4 h5 h6 h7 h8 h9 h10 h11
  clear hdis
  simp only [h0, h1, h2, h3, h4, h5, h6, h7, h8, h9, h10, h11]
  clear h11 h10 h9 h8 h7 h6 h5 h4 h3 h2 h1 h0
  clear u
  simp only [List.map_cons, List.map_nil]
  apply PlanW.step
  · (simp only [gA, gB, gC] <;> rfl)
  · rfl
  intro K hK
  go_simp
  refine hK.out _ _ (by (with_reducible (repeat' (first | assumption | apply jG | apply jH | apply jI | apply jJ | apply jK | apply hb3x | omega | (simp; done) | (simp; omega) | (dsimp only; omega))))) (fun hcur => ?_)
  clear hK K
  try simp only [Act.put, List.setIfInBounds_toArray, List.set_cons_zero, List.set_cons_succ]
  refine PlanW.done ?_
  have hb3 := bl_tt hwb
  apply absTB2 (w0 := w) (g0 := w.heap.size) (g1 := w3.heap.size)
  iterate 3 (focus ((with_reducible (repeat' (first | assumption | apply jA | apply jB | apply jC | apply jD | apply jE | apply jF | apply hb3 | apply jG | apply jH | apply jI | apply jJ | apply jK | apply hb3x | (apply jL; first | (simp; done) | rfl) | apply jM | apply jN | apply jO | apply jP | apply jQ | apply jR | apply jS | apply jT (hb := hb3 _ (jA _)) | omega | (simp; done) | (simp; omega) | (dsimp only; omega)))); done))
  intro wc hb0' k0' k1'
  (try simp only [List.setIfInBounds_toArray, List.set_cons_zero, List.set_cons_succ] at k0' k1')
  try clear hb3
  try clear Lk0
  try clear Fk0
  try clear Qk0
  try clear Lk1
  try clear Fk1
  try clear Qk1
  try clear hb0
  try clear k0
  try clear k1
  have hb0 := hb0'; clear hb0'
  have k0 := k0'; clear k0'
  have k1 := k1'; clear k1'
  have Lk0 := k0.later
  have Fk0 := k0.laterF
  have Qk0 := k0.lt
  have Lk1 := k1.later
  have Fk1 := k1.laterF
  have Qk1 := k1.lt
  cases c1 : decide (20000 < a.x.hi - a.x.lo + 1)
  case true =>
    have h1 := Lib.hid (m1.out (of_decide_eq_true c1))
    go_wp2
    go_ret
    exact ⟨by simp [Bx.size, h1.out], hb0⟩
  go_wp2
  apply absRB2 (w0 := w) (g0 := w.heap.size) (g1 := w3.heap.size)
  iterate 3 (focus ((with_reducible (repeat' (first | assumption | apply jA | apply jB | apply jC | apply jD | apply jE | apply jF | apply hb3 | apply jG | apply jH | apply jI | apply jJ | apply jK | apply hb3x | (apply jL; first | (simp; done) | rfl) | apply jM | apply jN | apply jO | apply jP | apply jQ | apply jR | apply jS | apply jT (hb := hb3 _ (jA _)) | omega | (simp; done) | (simp; omega) | (dsimp only; omega)))); done))
  intro wa hb0' k0' k1'
  (try simp only [List.setIfInBounds_toArray, List.set_cons_zero, List.set_cons_succ] at k0' k1')
  try clear hb3
  try clear Lk0
  try clear Fk0
  try clear Qk0
  try clear Lk1
  try clear Fk1
  try clear Qk1
  try clear hb0
  try clear k0
  try clear k1
  have hb0 := hb0'; clear hb0'
  have k0 := k0'; clear k0'
  have k1 := k1'; clear k1'
  have Lk0 := k0.later
  have Fk0 := k0.laterF
  have Qk0 := k0.lt
  have Lk1 := k1.later
  have Fk1 := k1.laterF
  have Qk1 := k1.lt
  rw [rounds_succ]
  go_wp2
  refine wp_any (w0 := wa) ⟨[12], [], [some 12, some 13, some 14, some 15, some 16, some 17, some 18, some 19, some 20, some 21, some 22, some 23, none], [[], [], [1], [1, 2], [1, 2, 3], [], [5], [5, 6], [5, 6, 7], [1, 2, 3, 4, 5, 6, 7, 8], [1, 2, 3, 4, 5, 6, 7, 8, 9], [0, 1, 2, 3, 4, 5, 6, 7, 8, 9, 10], [0, 1, 2, 3, 4, 5, 6, 7, 8, 9, 10, 11]], [[], [], [1], [2], [3], [], [5], [6], [7], [4, 8], [9], [0, 10], []]⟩ (fun _ => []) (by kernel_rfl) (by kernel_rfl) (by (with_reducible (repeat' (first | assumption | apply jA | apply jB | apply jC | apply jD | apply jE | apply jF | apply hb3 | omega | (simp; done) | (simp; omega) | (dsimp only; omega))))) (fun u => by simp only [putD, Act.put, List.setIfInBounds_toArray, List.set_cons_zero, List.set_cons_succ, Nat.zero_add, Nat.reduceAdd]; rfl) ?_
  apply RGW.on (i := 0) rfl
  · (simp only [gA, gB, gC] <;> rfl)
  · intro γ u W hcur hd
    clear hd
    (try dsimp only)
    refine ⟨rfl, ?_⟩
    go_simp <;> (try go_bits) <;> with_reducible rfl
  · exact fun _ _ _ => rfl
  · rfl
  dsimp only [nA, cA]
  apply RGW.on (i := 1) rfl
  · (simp only [gA, gB, gC] <;> rfl)
  · intro γ u W hcur hd
    clear hd
    (try dsimp only)
    refine ⟨rfl, ?_⟩
    go_simp <;> (try go_bits) <;> with_reducible rfl
  · exact fun _ _ _ => rfl
  · rfl
  dsimp only [nA, cA]
  apply RGW.on (i := 2) rfl
  · (simp only [gA, gB, gC] <;> rfl)
  · intro γ u W hcur hd
    obtain ⟨⟨h1, -, -⟩, -⟩ := hd
    dsimp only at h1
    (try simp only [h1])
    refine ⟨rfl, ?_⟩
    go_simp <;> (try go_bits) <;> with_reducible rfl
  · exact fun _ _ _ => rfl
  · rfl
  dsimp only [nA, cA]
  apply RGW.on (i := 3) rfl
  · (simp only [gA, gB, gC] <;> rfl)
  · intro γ u W hcur hd
    obtain ⟨⟨h2, -, -⟩, -⟩ := hd
    dsimp only at h2
    (try simp only [h2])
    refine ⟨rfl, ?_⟩
    go_simp <;> (try go_bits) <;> with_reducible rfl
  · exact fun _ _ _ => rfl
  · rfl
  dsimp only [nA, cA]
  apply RGW.on (i := 4) rfl
  · (simp only [gA, gB, gC] <;> rfl)
  · intro γ u W hcur hd
    obtain ⟨⟨h3, -, -⟩, -⟩ := hd
    dsimp only at h3
    (try simp only [h3])
    refine ⟨rfl, ?_⟩
    go_simp <;> (try go_bits) <;> with_reducible rfl
  · exact fun _ _ _ => rfl
  · rfl
  dsimp only [nA, cA]
  apply RGW.on (i := 5) rfl
  · (simp only [gA, gB, gC] <;> rfl)
  · intro γ u W hcur hd
    clear hd
    (try dsimp only)
    refine ⟨rfl, ?_⟩
    go_simp <;> (try go_bits) <;> with_reducible rfl
  · exact fun _ _ _ => rfl
  · rfl
  dsimp only [nA, cA]
  apply RGW.on (i := 6) rfl
  · (simp only [gA, gB, gC] <;> rfl)
  · intro γ u W hcur hd
    obtain ⟨⟨h5, -, -⟩, -⟩ := hd
    dsimp only at h5
    (try simp only [h5])
    refine ⟨rfl, ?_⟩
    go_simp <;> (try go_bits) <;> with_reducible rfl
  · exact fun _ _ _ => rfl
  · rfl
  dsimp only [nA, cA]
  apply RGW.on (i := 7) rfl
  · (simp only [gA, gB, gC] <;> rfl)
  · intro γ u W hcur hd
    obtain ⟨⟨h6, -, -⟩, -⟩ := hd
    dsimp only at h6
    (try simp only [h6])
    refine ⟨rfl, ?_⟩
    go_simp <;> (try go_bits) <;> with_reducible rfl
  · exact fun _ _ _ => rfl
  · rfl
  dsimp only [nA, cA]
  apply RGW.on (i := 8) rfl
  · (simp only [gA, gB, gC] <;> rfl)
  · intro γ u W hcur hd
    obtain ⟨⟨h7, -, -⟩, -⟩ := hd
    dsimp only at h7
    (try simp only [h7])
    refine ⟨rfl, ?_⟩
    go_simp <;> (try go_bits) <;> with_reducible rfl
  · exact fun _ _ _ => rfl
  · rfl
  dsimp only [nA, cA]
  apply RGW.on (i := 9) rfl
  · (simp only [gA, gB, gC] <;> rfl)
  · intro γ u W hcur hd
    obtain ⟨⟨h4, -, -⟩, ⟨h8, -, -⟩, -⟩ := hd
    dsimp only at h4 h8
    (try simp only [h4, h8])
    refine ⟨rfl, ?_⟩
    go_simp <;> (try go_bits) <;> with_reducible rfl
  · exact fun _ _ _ => rfl
  · rfl
  dsimp only [nA, cA]
  apply RGW.on (i := 10) rfl
  · (simp only [gA, gB, gC] <;> rfl)
  · intro γ u W hcur hd
    obtain ⟨⟨h9, -, -⟩, -⟩ := hd
    dsimp only at h9
    (try simp only [h9])
    refine ⟨rfl, ?_⟩
    go_simp <;> (try go_bits) <;> with_reducible rfl
  · exact fun _ _ _ => rfl
  · rfl
  dsimp only [nA, cA]
  apply RGW.on (i := 11) rfl
  · (simp only [gA, gB, gC] <;> rfl)
  · intro γ u W hcur hd
    obtain ⟨⟨h0, -, -⟩, ⟨h10, -, -⟩, -⟩ := hd
    dsimp only at h0 h10
    (try simp only [h0, h10])
    refine ⟨rfl, ?_⟩
    go_simp <;> (try go_bits) <;> with_reducible rfl
  · exact fun _ _ _ => rfl
  · rfl
  dsimp only [nA, cA]
  refine RGW.skip (i := 12) rfl rfl ?_
  dsimp only [nA, cA]
  refine RGW.fin (fun γ u wb hwb hd hdis => ?_)
  obtain ⟨⟨h0, -, -⟩, ⟨h1, -, -⟩, ⟨h2, -, -⟩, ⟨h3, -, -⟩, ⟨h4, -, -⟩, ⟨h5, -, -⟩, ⟨h6, -, -⟩, ⟨h7, -, -⟩, ⟨h8, -, -⟩, ⟨h9, -, -⟩, ⟨h10, -, -⟩, ⟨h11, -, -⟩, -⟩ := hd
  dsimp only at h0 h1 h2 h3 h4 h5 h6 h7 h8 h9 h10 h11
  clear hdis
  simp only [h0, h1, h2, h3, h4, h5, h6, h7, h8, h9, h10, h11]
  clear h11 h10 h9 h8 h7 h6 h5 h4 h3 h2 h1 h0
  clear u
  simp only [List.map_cons, List.map_nil]
  apply PlanW.step
  · (simp only [gA, gB, gC] <;> rfl)
  · rfl
  intro K hK
  go_simp
  refine hK.out _ _ (by (with_reducible (repeat' (first | assumption | apply jG | apply jH | apply jI | apply jJ | apply jK | apply hb3x | omega | (simp; done) | (simp; omega) | (dsimp only; omega))))) (fun hcur => ?_)
  clear hK K
  try simp only [Act.put, List.setIfInBounds_toArray, List.set_cons_zero, List.set_cons_succ]
  refine PlanW.done ?_
  have hb3 := bl_tt hwb
  apply absTB2 (w0 := w) (g0 := w.heap.size) (g1 := w3.heap.size)
  iterate 3 (focus ((with_reducible (repeat' (first | assumption | apply jA | apply jB | apply jC | apply jD | apply jE | apply jF | apply hb3 | apply jG | apply jH | apply jI | apply jJ | apply jK | apply hb3x | (apply jL; first | (simp; done) | rfl) | apply jM | apply jN | apply jO | apply jP | apply jQ | apply jR | apply jS | apply jT (hb := hb3 _ (jA _)) | omega | (simp; done) | (simp; omega) | (dsimp only; omega)))); done))
  intro wc hb0' k0' k1'
  (try simp only [List.setIfInBounds_toArray, List.set_cons_zero, List.set_cons_succ] at k0' k1')
  try clear hb3
  try clear Lk0
  try clear Fk0
  try clear Qk0
  try clear Lk1
  try clear Fk1
  try clear Qk1
  try clear hb0
  try clear k0
  try clear k1
  have hb0 := hb0'; clear hb0'
  have k0 := k0'; clear k0'
  have k1 := k1'; clear k1'
  have Lk0 := k0.later
  have Fk0 := k0.laterF
  have Qk0 := k0.lt
  have Lk1 := k1.later
  have Fk1 := k1.laterF
  have Qk1 := k1.lt
  cases c2 : decide (20000 < (a.x.hi - a.x.lo + 1) * (a.y.hi - a.y.lo + 1))
  case true =>
    have h1 := Lib.hid (m2.out (of_decide_eq_true c2))
    go_wp2
    go_ret
    exact ⟨by simp [Bx.size, h1.out], hb0⟩
  go_wp2
  apply absRB2 (w0 := w) (g0 := w.heap.size) (g1 := w3.heap.size)
  iterate 3 (focus ((with_reducible (repeat' (first | assumption | apply jA | apply jB | apply jC | apply jD | apply jE | apply jF | apply hb3 | apply jG | apply jH | apply jI | apply jJ | apply jK | apply hb3x | (apply jL; first | (simp; done) | rfl) | apply jM | apply jN | apply jO | apply jP | apply jQ | apply jR | apply jS | apply jT (hb := hb3 _ (jA _)) | omega | (simp; done) | (simp; omega) | (dsimp only; omega)))); done))
  intro wa hb0' k0' k1'
  (try simp only [List.setIfInBounds_toArray, List.set_cons_zero, List.set_cons_succ] at k0' k1')
  try clear hb3
  try clear Lk0
  try clear Fk0
  try clear Qk0
  try clear Lk1
  try clear Fk1
  try clear Qk1
  try clear hb0
  try clear k0
  try clear k1
  have hb0 := hb0'; clear hb0'
  have k0 := k0'; clear k0'
  have k1 := k1'; clear k1'
  have Lk0 := k0.later
  have Fk0 := k0.laterF
  have Qk0 := k0.lt
  have Lk1 := k1.later
  have Fk1 := k1.laterF
  have Qk1 := k1.lt
  rw [rounds_succ]
  go_wp2
  refine wp_any (w0 := wa) ⟨[12], [], [some 12, some 13, some 14, some 15, some 16, some 17, some 18, some 19, some 20, some 21, some 22, some 23, none], [[], [], [1], [1, 2], [1, 2, 3], [], [5], [5, 6], [5, 6, 7], [1, 2, 3, 4, 5, 6, 7, 8], [1, 2, 3, 4, 5, 6, 7, 8, 9], [0, 1, 2, 3, 4, 5, 6, 7, 8, 9, 10], [0, 1, 2, 3, 4, 5, 6, 7, 8, 9, 10, 11]], [[], [], [1], [2], [3], [], [5], [6], [7], [4, 8], [9], [0, 10], []]⟩ (fun _ => []) (by kernel_rfl) (by kernel_rfl) (by (with_reducible (repeat' (first | assumption | apply jA | apply jB | apply jC | apply jD | apply jE | apply jF | apply hb3 | omega | (simp; done) | (simp; omega) | (dsimp only; omega))))) (fun u => by simp only [putD, Act.put, List.setIfInBounds_toArray, List.set_cons_zero, List.set_cons_succ, Nat.zero_add, Nat.reduceAdd]; rfl) ?_
  apply RGW.on (i := 0) rfl
  · (simp only [gA, gB, gC] <;> rfl)
  · intro γ u W hcur hd
    clear hd
    (try dsimp only)
    refine ⟨rfl, ?_⟩
    go_simp <;> (try go_bits) <;> with_reducible rfl
  · exact fun _ _ _ => rfl
  · rfl
  dsimp only [nA, cA]
  apply RGW.on (i := 1) rfl
  · (simp only [gA, gB, gC] <;> rfl)
  · intro γ u W hcur hd
    clear hd
    (try dsimp only)
    refine ⟨rfl, ?_⟩
    go_simp <;> (try go_bits) <;> with_reducible rfl
  · exact fun _ _ _ => rfl
  · rfl
  dsimp only [nA, cA]
  apply RGW.on (i := 2) rfl
  · (simp only [gA, gB, gC] <;> rfl)
  · intro γ u W hcur hd
    obtain ⟨⟨h1, -, -⟩, -⟩ := hd
    dsimp only at h1
    (try simp only [h1])
    refine ⟨rfl, ?_⟩
    go_simp <;> (try go_bits) <;> with_reducible rfl
  · exact fun _ _ _ => rfl
  · rfl
  dsimp only [nA, cA]
  apply RGW.on (i := 3) rfl
  · (simp only [gA, gB, gC] <;> rfl)
  · intro γ u W hcur hd
    obtain ⟨⟨h2, -, -⟩, -⟩ := hd
    dsimp only at h2
    (try simp only [h2])
    refine ⟨rfl, ?_⟩
    go_simp <;> (try go_bits) <;> with_reducible rfl
  · exact fun _ _ _ => rfl
  · rfl
  dsimp only [nA, cA]
  apply RGW.on (i := 4) rfl
  · (simp only [gA, gB, gC] <;> rfl)
  · intro γ u W hcur hd
    obtain ⟨⟨h3, -, -⟩, -⟩ := hd
    dsimp only at h3
    (try simp only [h3])
    refine ⟨rfl, ?_⟩
    go_simp <;> (try go_bits) <;> with_reducible rfl
  · exact fun _ _ _ => rfl
  · rfl
  dsimp only [nA, cA]
  apply RGW.on (i := 5) rfl
  · (simp only [gA, gB, gC] <;> rfl)
  · intro γ u W hcur hd
    clear hd
    (try dsimp only)
    refine ⟨rfl, ?_⟩
    go_simp <;> (try go_bits) <;> with_reducible rfl
  · exact fun _ _ _ => rfl
  · rfl
  dsimp only [nA, cA]
  apply RGW.on (i := 6) rfl
  · (simp only [gA, gB, gC] <;> rfl)
  · intro γ u W hcur hd
    obtain ⟨⟨h5, -, -⟩, -⟩ := hd
    dsimp only at h5
    (try simp only [h5])
    refine ⟨rfl, ?_⟩
    go_simp <;> (try go_bits) <;> with_reducible rfl
  · exact fun _ _ _ => rfl
  · rfl
  dsimp only [nA, cA]
  apply RGW.on (i := 7) rfl
  · (simp only [gA, gB, gC] <;> rfl)
  · intro γ u W hcur hd
    obtain ⟨⟨h6, -, -⟩, -⟩ := hd
    dsimp only at h6
    (try simp only [h6])
    refine ⟨rfl, ?_⟩
    go_simp <;> (try go_bits) <;> with_reducible rfl
  · exact fun _ _ _ => rfl
  · rfl
  dsimp only [nA, cA]
  apply RGW.on (i := 8) rfl
  · (simp only [gA, gB, gC] <;> rfl)
  · intro γ u W hcur hd
    obtain ⟨⟨h7, -, -⟩, -⟩ := hd
    dsimp only at h7
    (try simp only [h7])
    refine ⟨rfl, ?_⟩
    go_simp <;> (try go_bits) <;> with_reducible rfl
  · exact fun _ _ _ => rfl
  · rfl
  dsimp only [nA, cA]
  apply RGW.on (i := 9) rfl
  · (simp only [gA, gB, gC] <;> rfl)
  · intro γ u W hcur hd
    obtain ⟨⟨h4, -, -⟩, ⟨h8, -, -⟩, -⟩ := hd
    dsimp only at h4 h8
    (try simp only [h4, h8])
    refine ⟨rfl, ?_⟩
    go_simp <;> (try go_bits) <;> with_reducible rfl
  · exact fun _ _ _ => rfl
  · rfl
  dsimp only [nA, cA]
  apply RGW.on (i := 10) rfl
  · (simp only [gA, gB, gC] <;> rfl)
  · intro γ u W hcur hd
    obtain ⟨⟨h9, -, -⟩, -⟩ := hd
    dsimp only at h9
    (try simp only [h9])
    refine ⟨rfl, ?_⟩
    go_simp <;> (try go_bits) <;> with_reducible rfl
  · exact fun _ _ _ => rfl
  · rfl
  dsimp only [nA, cA]
  apply RGW.on (i := 11) rfl
  · (simp only [gA, gB, gC] <;> rfl)
  · intro γ u W hcur hd
    obtain ⟨⟨h0, -, -⟩, ⟨h10, -, -⟩, -⟩ := hd
    dsimp only at h0 h10
    (try simp only [h0, h10])
    refine ⟨rfl, ?_⟩
    go_simp <;> (try go_bits) <;> with_reducible rfl
  · exact fun _ _ _ => rfl
  · rfl
  dsimp only [nA, cA]
  refine RGW.skip (i := 12) rfl rfl ?_
  dsimp only [nA, cA]
  refine RGW.fin (fun γ u wb hwb hd hdis => ?_)
  obtain ⟨⟨h0, -, -⟩, ⟨h1, -, -⟩, ⟨h2, -, -⟩, ⟨h3, -, -⟩, ⟨h4, -, -⟩, ⟨h5, -, -⟩, ⟨h6, -, -⟩, ⟨h7, -, -⟩, ⟨h8, -, -⟩, ⟨h9, -, -⟩, ⟨h10, -, -⟩, ⟨h11, -, -⟩, -⟩ := hd
  dsimp only at h0 h1 h2 h3 h4 h5 h6 h7 h8 h9 h10 h11
  clear hdis
  simp only [h0, h1, h2, h3, h4, h5, h6, h7, h8, h9, h10, h11]
  clear h11 h10 h9 h8 h7 h6 h5 h4 h3 h2 h1 h0
  clear u
  simp only [List.map_cons, List.map_nil]
  apply PlanW.step
  · (simp only [gA, gB, gC] <;> rfl)
  · rfl
  intro K hK
  go_simp
  refine hK.out _ _ (by (with_reducible (repeat' (first | assumption | apply jG | apply jH | apply jI | apply jJ | apply jK | apply hb3x | omega | (simp; done) | (simp; omega) | (dsimp only; omega))))) (fun hcur => ?_)
  clear hK K
  try simp only [Act.put, List.setIfInBounds_toArray, List.set_cons_zero, List.set_cons_succ]
  refine PlanW.done ?_
  have hb3 := bl_tt hwb
  apply absTB2 (w0 := w) (g0 := w.heap.size) (g1 := w3.heap.size)
  iterate 3 (focus ((with_reducible (repeat' (first | assumption | apply jA | apply jB | apply jC | apply jD | apply jE | apply jF | apply hb3 | apply jG | apply jH | apply jI | apply jJ | apply jK | apply hb3x | (apply jL; first | (simp; done) | rfl) | apply jM | apply jN | apply jO | apply jP | apply jQ | apply jR | apply jS | apply jT (hb := hb3 _ (jA _)) | omega | (simp; done) | (simp; omega) | (dsimp only; omega)))); done))
  intro wc hb0' k0' k1'
  (try simp only [List.setIfInBounds_toArray, List.set_cons_zero, List.set_cons_succ] at k0' k1')
  try clear hb3
  try clear Lk0
  try clear Fk0
  try clear Qk0
  try clear Lk1
  try clear Fk1
  try clear Qk1
  try clear hb0
  try clear k0
  try clear k1
  have hb0 := hb0'; clear hb0'
  have k0 := k0'; clear k0'
  have k1 := k1'; clear k1'
  have Lk0 := k0.later
  have Fk0 := k0.laterF
  have Qk0 := k0.lt
  have Lk1 := k1.later
  have Fk1 := k1.laterF
  have Qk1 := k1.lt
  cases c3 : decide (20000 < (a.x.hi - a.x.lo + 1) * (a.y.hi - a.y.lo + 1) * (a.z.hi - a.z.lo + 1))
  case true =>
    go_wp2
    go_ret
    exact ⟨by rw [Bx.size, c3] <;> rfl, hb0⟩
  go_wp2
  apply absRB2 (w0 := w) (g0 := w.heap.size) (g1 := w3.heap.size)
  iterate 3 (focus ((with_reducible (repeat' (first | assumption | apply jA | apply jB | apply jC | apply jD | apply jE | apply jF | apply hb3 | apply jG | apply jH | apply jI | apply jJ | apply jK | apply hb3x | (apply jL; first | (simp; done) | rfl) | apply jM | apply jN | apply jO | apply jP | apply jQ | apply jR | apply jS | apply jT (hb := hb3 _ (jA _)) | omega | (simp; done) | (simp; omega) | (dsimp only; omega)))); done))
  intro wa hb0' k0' k1'
  (try simp only [List.setIfInBounds_toArray, List.set_cons_zero, List.set_cons_succ] at k0' k1')
  try clear hb3
  try clear Lk0
  try clear Fk0
  try clear Qk0
  try clear Lk1
  try clear Fk1
  try clear Qk1
  try clear hb0
  try clear k0
  try clear k1
  have hb0 := hb0'; clear hb0'
  have k0 := k0'; clear k0'
  have k1 := k1'; clear k1'
  have Lk0 := k0.later
  have Fk0 := k0.laterF
  have Qk0 := k0.lt
  have Lk1 := k1.later
  have Fk1 := k1.laterF
  have Qk1 := k1.lt
  rw [rounds_succ]
  go_wp2
  go_ret
  exact ⟨by rw [Bx.size, c3] <;> rfl, hb0⟩
end Go.Proofs.YtephimmamkafoaaGreat
namespace Go.Proofs.YtephimmamkafoaaGreat
open Go.RowKit Go.Shelf
attribute [local go_sem] bl_al bl_drew bl_drewN bl_refl
set_option maxRecDepth 20000
set_option maxHeartbeats 2000000 in
theorem r_IsName (s : ByteArray) (w : World) (hs : s.size ≤ maxLen) :
    Calls Tryz.prog 95 #[.string s] w (Ret (.bool (nameB s)) w) := by
  unfold maxLen at hs
  obtain ⟨l, Hl⟩ : ∃ l, Hid (s.data.toList = l) := ⟨_, rfl⟩
  obtain ⟨n, Hn⟩ : ∃ n, Hid (s.size = n) := ⟨_, rfl⟩
  have Hln : Hid (l.length = n) := by rw [← Hl.out, ← Hn.out]; exact (by simp : s.data.toList.length = s.size)
  have hR : Hid (nameB s = (nameFrom 0 l && inR n 1 12)) := by unfold nameB; rw [Hl.out, Hn.out]; rfl
  rw [Hn.out] at hs
  have hsz : s.size = n := Hn.out
  by_cases hlow : n < 1
  · have e : Hid (nameB s = false) := by rw [hR.out]; refine Lib.hid ?_; have : inR n 1 12 = false := by simp [inR]; intro; omega
                                         rw [this, Bool.and_false]
    have hb1 : decide ((n : Int) < 1) = true := by simp; omega
    go_enter Tryz.func95, Tryz.ntmps95
    go_wp2
    go_ret
    exact ⟨by rw [e.out] <;> rfl, bl_refl _⟩
  have hb1 : decide ((n : Int) < 1) = false := by simp; omega
  by_cases hhi : 12 < n
  · have e : Hid (nameB s = false) := by rw [hR.out]; refine Lib.hid ?_; have : inR n 1 12 = false := by simp [inR]; intro; omega
                                         rw [this, Bool.and_false]
    have hb2 : decide ((12 : Int) < n) = true := by simp; omega
    go_enter Tryz.func95, Tryz.ntmps95
    go_wp2
    go_ret
    exact ⟨by rw [e.out] <;> rfl, bl_refl _⟩
  have hb2 : decide ((12 : Int) < n) = false := by simp; omega
  replace hR : Hid (nameB s = nameFrom 0 l) := by rw [hR.out]; refine Lib.hid ?_; have : inR n 1 12 = true := by simp [inR]; omega
                                                  rw [this, Bool.and_true]
  go_enter Tryz.func95, Tryz.ntmps95
  go_wp2
  go_loopw [3] (fun i wr => ∃ k : Nat, k ≤ n ∧ i = .int .i64 k ∧ wr = w ∧ nameFrom 0 l = nameFrom k (l.drop k)) (fun i _ => n - (intOf i).toNat)
  case atStart => exact ⟨0, Nat.zero_le _, rfl, rfl, rfl⟩
  case round =>
    obtain ⟨k, hk, rfl, rfl, hi⟩ := hrel
    replace hi := Lib.hid hi
    by_cases hlt : k < n
    · have hx : l[k]? = some (l[k]'(by rw [Hln.out]; exact hlt)) := List.getElem?_eq_getElem _
      generalize l[k]'(by rw [Hln.out]; exact hlt) = c at hx
      have hd := Lib.hid (nameFrom_drop l k c hx)
      have hks : k < s.size := by rw [hsz]; exact hlt
      have hget : s.data[k]'(by simpa using hks) = c := by
        have := hx
        rw [← Hl.out] at this
        simpa using (List.getElem?_eq_some_iff.1 this).2
      have hget' : (s[k]'hks) = c := hget
      have hm0 := c.toNat_lt
      have hlet := Lib.hid (letter_iff c)
      have hoth := Lib.hid (other_iff c)
      have hyes : Hid ((97 ≤ c.toNat ∧ c.toNat ≤ 122 ∨ 65 ≤ c.toNat ∧ c.toNat ≤ 90) ∨ k ≠ 0 ∧ (48 ≤ c.toNat ∧ c.toNat ≤ 57 ∨ c.toNat = 45) → nameFrom 0 l = nameFrom (k + 1) (l.drop (k + 1))) := by
        intro h
        rw [hi.out, hd.out]
        rcases h with h | ⟨h0, h⟩
        · simp [hlet.out.2 h]
        · simp [hoth.out.2 h, h0]
      have hno : Hid (¬ ((97 ≤ c.toNat ∧ c.toNat ≤ 122 ∨ 65 ≤ c.toNat ∧ c.toNat ≤ 90) ∨ k ≠ 0 ∧ (48 ≤ c.toNat ∧ c.toNat ≤ 57 ∨ c.toNat = 45)) → nameFrom 0 l = false) := by
        intro h
        rw [hi.out, hd.out]
        have h1 : letter c = false := by rw [Bool.eq_false_iff]; intro hh; exact h (.inl (hlet.out.1 hh))
        by_cases h0 : k = 0
        · simp [h1, h0]
        · have h2 : other c = false := by rw [Bool.eq_false_iff]; intro hh; exact h (.inr ⟨h0, hoth.out.1 hh⟩)
          simp [h1, h2]
      clear hx hlet hoth hd hi
      go_upto_region 7 with fail
      clear hget hget'
      generalize c.toNat = m at *
      have hcase : m < 45 ∨ m = 45 ∨ (45 < m ∧ m < 48) ∨ (48 ≤ m ∧ m ≤ 57) ∨ (57 < m ∧ m < 65) ∨ (65 ≤ m ∧ m ≤ 90) ∨ (90 < m ∧ m < 97) ∨ (97 ≤ m ∧ m ≤ 122) ∨ 122 < m := by omega
      by_cases h0 : k = 0
      · subst h0
        rcases hcase with h | rfl | ⟨h, h'⟩ | ⟨h, h'⟩ | ⟨h, h'⟩ | ⟨h, h'⟩ | ⟨h, h'⟩ | ⟨h, h'⟩ | h
        all_goals
          go_wp2
        all_goals first
          | (go_roundw
             case rel => exact ⟨1, by omega, by go_num, trivial, hyes.out (by omega)⟩
             case measure => simp [intOf]; omega)
          | (go_ret
             exact ⟨by rw [hR.out, hno.out (by omega)] <;> rfl, bl_refl _⟩)
          | (exfalso; simp at *; omega)
      · have h0' : ((k : Int) == 0) = false := by simp; omega
        rcases hcase with h | rfl | ⟨h, h'⟩ | ⟨h, h'⟩ | ⟨h, h'⟩ | ⟨h, h'⟩ | ⟨h, h'⟩ | ⟨h, h'⟩ | h
        all_goals
          go_wp2
        all_goals first
          | (go_roundw
             case rel => exact ⟨k + 1, by omega, by go_num, trivial, hyes.out (by omega)⟩
             case measure => simp [intOf]; omega)
          | (go_ret
             exact ⟨by rw [hR.out, hno.out (by omega)] <;> rfl, bl_refl _⟩)
          | (exfalso; simp at *; omega)
    · go_wp2
      go_ret
      have : k = l.length := by have := Hln.out; omega
      exact ⟨by rw [hR.out, hi.out, this]; simp [nameFrom], bl_refl _⟩
end Go.Proofs.YtephimmamkafoaaGreat
