/-
  Walk: chapter 7 through its layers: no frame is late by any start.
-/
import Derived.Test.YtbdgblnccjpahaaGreatDoorVBusInTime5
import Derived.Test.YtbdgblnccjpahaaGreatDoorVBusInTime3
import Derived.Deep.CutRange
set_option linter.unusedSimpArgs false
set_option linter.unusedVariables false
namespace Go.Proofs.YtbdgblnccjpahaaGreatDoor
open Go.RowKit Go.Shelf
attribute [local go_sem] bl_al bl_drew bl_drewN bl_refl bx_al bx_drew bx_drewN bx_refl
set_option maxRecDepth 20000
theorem nm_size {s : ByteArray} (h : nameB s = true) : s.size ≤ 12 := by
  unfold nameB at h
  rw [Bool.and_eq_true, inR_iff] at h
  omega
theorem wo_nonneg {ch : (Nat → List (Int × Int)) → Int} (l : List Sm) (st : List Int) (i T : Nat) : 0 ≤ (runS ch l st T).1.wo i := wo_mono_le (ch := ch) l st i (Nat.zero_le T)
theorem sl_at1 {W : World} {B : Option Addr} {L : List Int} {k : Nat} {x : Int} (h : Sl cI 1 W B L) (hx : L[k]? = some x) : ∃ b o, B = some ⟨b, o, none⟩ ∧ ∀ W', Below W.heap.size W W' → W'.cell? ⟨b, o + k, none⟩ = some (.int .i64 x) := by
  obtain ⟨b, o, e, hc⟩ := h k x hx
  exact ⟨b, o, e, later (by simpa using hc 0 _ rfl)⟩
theorem bI_take (r : List Nat) (k : Nat) : (bI r).take k = bI (r.take k) := by simp [bI]
theorem bI_not {r : List Nat} (h : r.Nodup) {k x : Nat} (hx : r[k]? = some x) : ((bI r).take k).contains (x : Int) = false := by
  rw [Bool.eq_false_iff]
  intro hc
  rw [bI_take] at hc
  simp only [List.contains_eq_mem, bI, List.mem_map, decide_eq_true_eq] at hc
  obtain ⟨y, hy, e⟩ := hc
  have e' : y = x := by omega
  subst e'
  obtain ⟨j, hj, ej⟩ := List.getElem_of_mem hy
  have hk := (List.getElem?_eq_some_iff.1 hx).1
  rw [List.length_take] at hj
  rw [List.getElem_take] at ej
  have e3 := (List.getElem?_eq_some_iff.1 hx).2
  have := (List.getElem_inj h).1 (ej.trans e3.symm)
  omega
/-- Streams that are written are read again. -/
theorem c_prs {l : List Sm} (h : smsErr l = 0) (W : World) (hE : Env W) : Calls Tryz.prog 15 #[.string ⟨(fmtSms l).toArray⟩] W (fun e w' => Below W.heap.size W w' ∧ ∃ A2 c2, e = .returned (.tuple #[.slice A2 l.length c2, .int .i64 0]) ∧ Sl cSm 4 w' A2 l) := by
  obtain ⟨h1, h2, h3⟩ := sms_round h
  have h0 : psE (fmtSms l) = 0 := by
    unfold psE
    rw [if_neg (by omega), if_pos h1, h2, h]
  have hl : (splitC 59 (fmtSms l)).length = l.length := by
    have := psV_len (splitC 59 (fmtSms l))
    rw [h2] at this
    omega
  refine (c_ParseStreams (fmtSms l) W h3 hE).mono fun e w' ⟨hb, _, hh⟩ => ?_
  obtain ⟨A2, c2, e2, ho⟩ := hh h0
  rw [hl, h2] at ho
  rw [hl] at e2
  exact ⟨hb, A2, c2, e2, own_slC (cs := cSm) (fun _ => rfl) (by decide) ho⟩
/-- What the law knows of the streams in their order, and of their starts. -/
structure InTime (own : List Sm) (st : List Int) (T : Nat) : Prop where
  so : SOk own st
  ok : smsErr own = 0
  late : ∀ k, k < own.length → lateAt own k = false
theorem InTime.tm {own : List Sm} {st : List Int} {T : Nat} (h : InTime own st T) {k : Nat} {s : Sm} (hs : own[k]? = some s) : ∃ r, Timely own k s r :=
  notlate h.so.sm hs (h.late k (List.getElem?_eq_some_iff.1 hs).1)
set_option maxHeartbeats 0 in
theorem r_TopBusInTime (l : List Sm) (st : List Int) (x0 : Int) (A As : Option Addr) (c cs : Nat) (w : World) (hs : Sl cSm 4 w A l) (hc : l.length ≤ c) (hnm : ∀ s ∈ l, s.name.size ≤ maxLen) (hst : Sl cI 1 w As st) (hE : Env w) :
    Calls Tryz.prog 3 #[.slice A l.length c, .slice As st.length cs, .int .i64 x0] w (Ret (.bool true) w) := by
  have HE := Lib.hid fun W (hb : Below w.heap.size w W) => hE.below hb
  have hn0 := Lib.hid fun (h : l.length ≤ 6) W (hb : Below w.heap.size w W) => (show SmIn l A c W from ⟨by omega, hc, hnm, hs.below hb⟩)
  have hse := Lib.hid fun (h : l.length ≤ 6) W (hb : Below w.heap.size w W) => r_StreamsErr l A c W (hn0.out h W hb)
  have hsr := Lib.hid fun (h : l.length ≤ 6) W (hb : Below w.heap.size w W) => r_StartsErr l st x0 A As c cs W (hst.below hb) (by omega)
  have Hst := Lib.hid fun W (hb : Below w.heap.size w W) => hst.below hb
  clear hs hc hnm hst hE
  go_enter Tryz.func3, Tryz.ntmps3
  go_wp2_with fail
  refine (r_busShown w).mono ?_
  rintro e w1 ⟨rfl, hb0⟩
  by_cases h6 : (l.length : Int) ≤ 6
  rotate_left
  · have h6' : (6 : Int) < l.length := by omega
    clear hse hsr hn0 Hst HE h6
    generalize l.length = n at *
    go_wp2
    go_ret
    exact ⟨rfl, hb0⟩
  have h6' : ¬ (6 : Int) < l.length := by omega
  have hl6 : l.length ≤ 6 := by omega
  have hn1 := Lib.hid (hn0.out hl6)
  have hse1 := Lib.hid (hse.out hl6)
  have hsr1 := Lib.hid (hsr.out hl6)
  clear hn0 hse hsr h6
  by_cases hE : smsErr l = 0
  rotate_left
  · have hE' : (smsErr l != 0) = true := by simp [hE]
    generalize smsErr l = E at *
    replace hE := Lib.hid hE
    go_wp2_with (go_at_call 8; (with_reducible refine (hse1.out _ hb0).mono ?_); rintro e w4 ⟨rfl, hb4⟩; replace hb0 := bl_tr hb0 hb4)
    go_ret
    exact ⟨rfl, hb0⟩
  have hse2 : Hid (∀ W, Below w.heap.size w W → Calls Tryz.prog 8 #[.slice A l.length c] W (Ret (.int .i64 0) W)) := fun W hb => by
    have := hse1.out W hb
    rw [hE] at this
    exact this
  clear hse1
  by_cases hS : stE0 l st x0 = 0
  rotate_left
  · have hS' : (stE0 l st x0 != 0) = true := by simp [hS]
    generalize stE0 l st x0 = S at *
    replace hS := Lib.hid hS
    replace hE := Lib.hid hE
    go_wp2_with (first | (go_at_call 8; (with_reducible refine (hse2.out _ hb0).mono ?_); rintro e w4 ⟨rfl, hb4⟩; replace hb0 := bl_tr hb0 hb4) | (go_at_call 9; (with_reducible refine (hsr1.out _ hb0).mono ?_); rintro e w5 ⟨rfl, hb5⟩; replace hb0 := bl_tr hb0 hb5))
    go_ret
    exact ⟨rfl, hb0⟩
  obtain ⟨hlst, hx0, hx4⟩ := stE0_ok hS
  have hsr2 : Hid (∀ W, Below w.heap.size w W → Calls Tryz.prog 9 #[.slice A l.length c, .slice As l.length cs, .int .i64 x0] W (Ret (.int .i64 0) W)) := fun W hb => by
    have := hsr1.out W hb
    rw [hS, hlst] at this
    exact this
  clear hsr1
  rw [hlst]
  replace hlst := Lib.hid hlst
  by_cases h60 : x0 ≤ 60
  rotate_left
  · have h60' : 60 < x0 := by omega
    replace hS := Lib.hid hS
    replace hE := Lib.hid hE
    go_wp2_with (first | (go_at_call 8; (with_reducible refine (hse2.out _ hb0).mono ?_); rintro e w4 ⟨rfl, hb4⟩; replace hb0 := bl_tr hb0 hb4) | (go_at_call 9; (with_reducible refine (hsr2.out _ hb0).mono ?_); rintro e w5 ⟨rfl, hb5⟩; replace hb0 := bl_tr hb0 hb5))
    go_ret
    exact ⟨rfl, hb0⟩
  have h60' : ¬ 60 < x0 := by omega
  obtain ⟨T, rfl⟩ : ∃ T : Nat, x0 = T := ⟨x0.toNat, by omega⟩
  have hT60 : T ≤ 60 := by omega
  have hsE : stE l st T = 0 := by rw [stE_eq0 hE]; exact hS
  have hop := (stE_ok hsE).1
  have hof : Hid (∀ (A2 : Option Addr) (c2 : Nat) (W : World), SmIn l A2 c2 W → Calls Tryz.prog 10 #[.slice A2 l.length c2] W (fun e w' => Below W.heap.size W w' ∧
      (e = .returned (.tuple #[.slice none 0 0, .int .i64 12]) ∨ ∃ r A3 c3, Frst l r ∧ e = .returned (.tuple #[.slice A3 l.length c3, .int .i64 0]) ∧ Sl cI 1 w' A3 (bI r) ∧ l.length ≤ c3))) := fun A2 c2 W h =>
    (c_OrderFor l A2 c2 W h).mono fun e w' ⟨hb, hh⟩ => by
      refine ⟨hb, ?_⟩
      rcases hh with ⟨h0, _⟩ | ⟨_, ⟨_, h2⟩ | ⟨r, A3, c3, h2, h3, h4, h5⟩⟩
      · exact absurd hE h0
      · exact .inl h2
      · have F := frst hE h2
        rw [F.len] at h3 h5
        exact .inr ⟨r, A3, c3, F, h3, h4, h5⟩
  have hcp := Lib.hid fun W (hb : Below w.heap.size w W) => r_CopyStreams l A c W (hn1.out W hb)
  replace hE := Lib.hid hE
  replace hS := Lib.hid hS
  replace hsE := Lib.hid hsE
  replace hop := Lib.hid hop
  have h60h := Lib.hid h60
  clear h60
  go_upto_region 5 with (first | (go_at_call 8; (with_reducible refine (hse2.out _ hb0).mono ?_); rintro e w4 ⟨rfl, hb4⟩; replace hb0 := bl_tr hb0 hb4) | (go_at_call 9; (with_reducible refine (hsr2.out _ hb0).mono ?_); rintro e w5 ⟨rfl, hb5⟩; replace hb0 := bl_tr hb0 hb5))
  clear hse2 hsr2 h60' h6'
  go_wp2_with fail
  refine (hcp.out _ hb0).mono ?_
  rintro e v1 ⟨A2, c2, rfl, hb1, hm⟩
  replace hb0 := bl_tr hb0 hb1
  clear hb1
  go_wp2_with fail
  refine (hof.out _ _ _ hm).mono ?_
  rintro e v2 ⟨hb1, rfl | ⟨r, A3, c3, F, rfl, hs3, hc3⟩⟩
  · replace hb0 := bl_tr hb0 hb1
    clear hof hcp hm hb1
    go_wp2
    go_ret
    exact ⟨rfl, hb0⟩
  replace hb0 := bl_tr hb0 hb1
  clear hb1 hm hof hcp
  have hol : (ordL l r).length = l.length := by rw [ordL_len, F.len]
  have HT : Hid (InTime (ordL l r) st T) := ⟨⟨fun s hs => ((sms_ok F.err).2.2 s hs).1, by rw [hol]; exact hl6, by rw [hol]; exact hlst.out, fun a ha => (hop.out.st a ha).1⟩, F.err, F.late⟩
  have hst400 := Lib.hid hop.out.st
  have hor := Lib.hid fun W (hb : Below v2.heap.size v2 W) => (show Calls Tryz.prog 14 #[.slice A l.length c, .slice A3 l.length c3] W (fun e w' => ∃ A2 c2, e = .returned (.slice A2 l.length c2) ∧ Below W.heap.size W w' ∧ SmIn (ordL l r) A2 c2 w') from by
    have := r_Ordered l r A A3 c c3 W ((hn1.out W (bl_tr hb0 hb)).sl) (hs3.below hb) F.lt (by have := F.len; omega)
    rw [F.len] at this
    exact this.mono fun e w' ⟨A2, c2, h1, h2, h3, h4⟩ => ⟨A2, c2, h1, h2, by rw [hol]; omega, by rw [hol]; exact h3, fun s hs => by
      have := nm_size ((sms_ok F.err).2.2 s hs).2
      unfold maxLen
      omega, h4⟩)
  have hnt := Lib.hid fun (k x : Nat) (hx : r[k]? = some x) => bI_not F.nod hx
  have hrl := Lib.hid F.len
  have hrlt := Lib.hid F.lt
  have hfit : ∀ s ∈ ordL l r, s.name.size ≤ 1000 ∧ Fits s.per ∧ Fits s.dl ∧ Fits s.len := fun s hs => by
    obtain ⟨⟨a1, a2, a3, a4, a5, a6⟩, a7⟩ := (sms_ok F.err).2.2 s hs
    have := nm_size a7
    unfold Fits
    omega
  have hov2 := ovR_in F.err F.late
  have hlk : lateK (ordL l r) (ordL l r).length = [] := lateK_nil _ F.late
  have hst0 : stE (ordL l r) st T = 0 := by
    rw [stE_eq0 F.err, ← hS.out]
    unfold stE0
    rw [hol]
  have herr := F.err
  clear F hop hsE hE hS
  generalize ordL l r = own at *
  have hcp := Lib.hid fun A2 c2 W (h : SmIn own A2 c2 W) => (show Calls Tryz.prog 11 #[.slice A2 l.length c2] W (fun e w' => ∃ A3 c3, e = .returned (.slice A3 l.length c3) ∧ Below W.heap.size W w' ∧ SmIn own A3 c3 w') from by
    have := r_CopyStreams own A2 c2 W h
    rw [hol] at this
    exact this)
  have hfS := Lib.hid fun A2 c2 W (h : SmIn own A2 c2 W) (hb : Below w.heap.size w W) => (show Calls Tryz.prog 16 #[.slice A2 l.length c2] W (Ret (.string ⟨(fmtSms own).toArray⟩) W) from by
    have := c_FormatStreams own A2 c2 W h.sl (by omega) hfit (HE.out W hb)
    rw [hol] at this
    exact this)
  have hpS := Lib.hid fun W (hb : Below w.heap.size w W) => (show Calls Tryz.prog 15 #[.string ⟨(fmtSms own).toArray⟩] W (fun e w' => Below W.heap.size W w' ∧ ∃ A2 c2, e = .returned (.tuple #[.slice A2 l.length c2, .int .i64 0]) ∧ Sl cSm 4 w' A2 own) from by
    have := c_prs herr W (HE.out W hb)
    rw [hol] at this
    exact this)
  have hsm := Lib.hid fun A2 c2 A3 c3 W (h1 : Sl cSm 4 W A2 own) (h2 : Sl cSm 4 W A3 own) => (show Calls Tryz.prog 18 #[.slice A2 l.length c2, .slice A3 l.length c3] W (Ret (.bool true) W) from by
    have := r_SameStreamsE own A2 A3 c2 c3 W h1 h2 (by omega)
    rw [hol] at this
    exact this)
  have hli := Lib.hid fun A2 c2 W (h : SmIn own A2 c2 W) => (show Calls Tryz.prog 17 #[.slice A2 l.length c2] W (fun e w' => Below W.heap.size W w' ∧ ∃ A3 c3, e = .returned (.tuple #[.slice A3 0 c3, .int .i64 0])) from by
    have := c_LateIn own A2 c2 W h
    rw [hlk, hol] at this
    exact this.mono fun e w' ⟨hb, hh⟩ => by
      rcases hh with ⟨h0, _⟩ | ⟨_, A3, c3, e3, h3⟩
      · exact absurd herr h0
      · exact ⟨hb, A3, c3, e3⟩)
  have hov := Lib.hid fun A2 c2 W (h : SmIn own A2 c2 W) => (show Calls Tryz.prog 19 #[.slice A2 l.length c2] W (Ret (.tuple #[.int .i64 (ovR own).1, .int .i64 (ovR own).2]) W) from by
    have := c_OverloadIn own A2 c2 W h
    rw [hol] at this
    exact this)
  have hci : Hid (∀ W, Below w.heap.size w W → Calls Tryz.prog 21 #[.slice As l.length cs] W (RetI st W)) := fun W hb => by
    have := r_CopyInts st As cs W (Hst.out W hb) (by rw [hlst.out]; omega)
    rw [hlst.out] at this
    exact this
  have hwf : Hid (∀ (A2 : Option Addr) (c2 : Nat) (A1 : Option Addr) (c1 : Nat) (W : World), SmIn own A2 c2 W → Sl cI 1 W A1 st → Calls Tryz.prog 20 #[.slice A2 l.length c2, .slice A1 st.length c1, .int .i64 (T : Nat)] W
      (fun e w' => Below W.heap.size W w' ∧ ∃ A3, e = .returned (.tuple #[.slice A3 l.length l.length, .int .i64 0]) ∧ Sl cI 1 w' A3 ((List.range l.length).map (runS prioS own st T).1.wo))) := fun A2 c2 A1 c1 W h1 h2 => by
    have := c_WorstFrom own st T A2 A1 c2 c1 W h1 h2 (by rw [hlst.out]; omega)
    rw [hol] at this
    exact this.mono fun e w' ⟨hb, hh⟩ => by
      rcases hh with ⟨h0, _⟩ | ⟨_, A3, e3, h3⟩
      · exact absurd hst0 h0
      · exact ⟨hb, A3, e3, h3⟩
  have hcb : Hid (∀ (A2 : Option Addr) (c2 : Nat) (A1 : Option Addr) (c1 : Nat) (W : World), SmIn own A2 c2 W → Sl cI 1 W A1 st → Calls Tryz.prog 22 #[.slice A2 l.length c2, .slice A1 st.length c1, .int .i64 (T : Nat)] W
      (fun e w' => Below W.heap.size W w' ∧ ∃ A3 c3, e = .returned (.tuple #[.slice A3 T c3, .int .i64 0]) ∧ Sl cI 1 w' A3 (runS prioS own st T).2)) := fun A2 c2 A1 c1 W h1 h2 => by
    have := c_CarriedBy own st T A2 A1 c2 c1 W h1 h2 (by rw [hlst.out]; omega)
    rw [hol] at this
    exact this.mono fun e w' ⟨hb, hh⟩ => by
      rcases hh with ⟨h0, _⟩ | ⟨_, A3, c3, e3, h3⟩
      · exact absurd hst0 h0
      · rw [Int.toNat_natCast] at e3 h3
        exact ⟨hb, A3, c3, e3, own_sl (L := (runS prioS own st T).2) (by rw [run_len]; exact h3)⟩
  have hWO := Lib.hid fun (i : Nat) (s : Sm) (hs : own[i]? = some s) => (show ∃ v, ((List.range l.length).map (runS prioS own st T).1.wo)[i]? = some v ∧ 0 ≤ v ∧ v ≤ s.dl from by
    obtain ⟨r, hr⟩ := HT.out.tm hs
    refine ⟨_, by rw [List.getElem?_map, List.getElem?_range (by rw [← hol]; exact (List.getElem?_eq_some_iff.1 hs).1)]; rfl, wo_nonneg _ _ _ _, Int.le_trans (worst_le HT.out.so hs hr T) hr.dl⟩)
  have hSI := Lib.hid fun (k : Nat) (s : Sm) (hs : own[k]? = some s) (a : Int) (ha : st[k]? = some a) (hf : a + s.dl < T) => (show silE (hrdK (runS prioS own st T).2 k T) ⟨a + s.dl, (T : Int) - 1⟩ (s.per + s.dl) = 0 ∧ silR (hrdK (runS prioS own st T).2 k T) ⟨a + s.dl, (T : Int) - 1⟩ (s.per + s.dl) = [] from by
    obtain ⟨r, hr⟩ := HT.out.tm hs
    exact not_silent HT.out.so hs hr ha hT60 hf)
  have hCA := Lib.hid fun (t : Nat) (h : t < T) => out_at own st h
  have hbd := Lib.hid fun (s : Sm) (hs : s ∈ own) => ((sms_ok herr).2.2 s hs).1
  generalize (List.range l.length).map (runS prioS own st T).1.wo = WO at *
  generalize (runS prioS own st T).2 = CA at *
  generalize fmtSms own = XS at *
  generalize ovR own = ov at *
  obtain ⟨o1, o2⟩ := ov
  dsimp only at hov hov2
  replace hov2 := Lib.hid hov2
  replace hol := Lib.hid hol
  clear HT hfit hlk hst0 herr hx4
  go_wp2
  go_loopw [9] (fun i wr => ∃ k : Nat, k ≤ l.length ∧ i = .int .i64 k ∧ Below v2.heap.size v2 wr) (fun i _ => l.length - (intOf i).toNat)
  case atStart => exact ⟨0, Nat.zero_le _, rfl, bl_refl v2⟩
  case round =>
    obtain ⟨k, hk, rfl, hb1⟩ := hrel
    by_cases hkn : k < l.length
    · as_aux_lemma =>
        have hx : r[k]? = some (r[k]'(by rw [hrl.out]; exact hkn)) := List.getElem?_eq_getElem _
        generalize r[k]'(by rw [hrl.out]; exact hkn) = x at hx
        have hxl := hrlt.out x (List.mem_of_getElem? hx)
        have hxb : (bI r)[k]? = some (x : Int) := by simp [bI, hx]
        have hHs := Lib.hid fun W (hW : Below wr.heap.size wr W) => (show Calls Tryz.prog 13 #[.slice A3 k c3, .int .i64 x] W (Ret (.bool false) W) from by
          have h := r_Has ((bI r).take k) x A3 c3 W ((hs3.below (bl_tr hb1 hW)).take k) (by rw [List.length_take, bI_len, hrl.out]; omega)
          rw [hnt.out k x hx, List.length_take, bI_len, hrl.out, Nat.min_eq_left hk] at h
          exact h)
        have hwi := Lib.hid fun W : World => (show Calls Tryz.prog 12 #[.int .i64 x, .int .i64 0, .int .i64 ((l.length : Int) - 1)] W (Same (.bool true) W) from by
          have h := r_Within (x : Int) 0 ((l.length : Int) - 1) W
          rw [show inR (x : Int) 0 ((l.length : Int) - 1) = true from inR_iff.2 (by omega)] at h
          exact h)
        obtain ⟨b1, o1', rfl, LB⟩ := sl_at1 (hs3.below hb1) hxb
        have hkn2 : (k : Int) < l.length := by omega
        have hkc : k ≤ c3 := by omega
        have hkc2 : (k : Int) ≤ c3 := by omega
        clear hx hxb hnt hrl hrlt hs3 hor hcp hfS hpS hsm hli hov hci hwf hcb hWO hSI hCA hbd
        go_upto_region 13 with fail
        refine wp_any (w0 := wr) ⟨[], [], [some 74, some 75, some 76, some 77, some 78, some 79, some 80, some 81, some 82, some 83, some 84, some 85, some 86, some 87, some 88, some 89, some 90, some 91, some 92], [[], [], [0, 1], [0, 1, 2], [], [4], [4, 5], [0, 1, 2, 3, 4, 5, 6], [0, 1, 2, 3, 4, 5, 6, 7], [0, 1, 2, 3, 4, 5, 6, 7, 8], [0, 1, 2, 3, 4, 5, 6, 7, 8, 9], [0, 1, 2, 3, 4, 5, 6, 7, 8, 9], [0, 1, 2, 3, 4, 5, 6, 7, 8, 9, 10, 11], [0, 1, 2, 3, 4, 5, 6, 7, 8, 9], [0, 1, 2, 3, 4, 5, 6, 7, 8, 9], [0, 1, 2, 3, 4, 5, 6, 7, 8, 9, 13, 14], [0, 1, 2, 3, 4, 5, 6, 7, 8, 9, 13, 14, 15], [0, 1, 2, 3, 4, 5, 6, 7, 8, 9, 10, 11, 12, 13, 14, 15, 16], [0, 1, 2, 3, 4, 5, 6, 7, 8, 9, 10, 11, 12, 13, 14, 15, 16, 17]], [[], [], [0, 1], [2], [], [4], [5], [3, 6], [7], [8], [9], [9], [9, 10, 11], [9], [9], [9, 13, 14], [9, 15], [9, 12, 16], [9, 17]]⟩ (fun _ => []) (by kernel_rfl) (by kernel_rfl) (by (exact zE)) (fun u => by simp only [putD, Act.put, List.setIfInBounds_toArray, List.set_cons_zero, List.set_cons_succ, Nat.zero_add, Nat.reduceAdd]; rfl) ?_
        apply RGW.on (i := 0) rfl
        · exact zG
        · intro γ u W hcur hd
          clear hd
          (try dsimp only)
          exact ⟨rfl, zS⟩
        · exact zC
        · rfl
        dsimp only [nA, cA]
        apply RGW.on (i := 1) rfl
        · exact zG
        · intro γ u W hcur hd
          clear hd
          (try dsimp only)
          exact ⟨rfl, zS⟩
        · exact zC
        · rfl
        dsimp only [nA, cA]
        apply RGW.on (i := 2) rfl
        · exact zG
        · intro γ u W hcur hd
          obtain ⟨⟨h0, -, -⟩, ⟨h1, -, -⟩, -⟩ := hd
          dsimp only at h0 h1
          (try simp only [h0, h1])
          exact ⟨rfl, zS⟩
        · exact zC
        · rfl
        dsimp only [nA, cA]
        apply RGW.on (i := 3) rfl
        · exact zG
        · intro γ u W hcur hd
          obtain ⟨⟨h2, -, -⟩, -⟩ := hd
          dsimp only at h2
          (try simp only [h2])
          exact ⟨rfl, zS⟩
        · exact zC
        · rfl
        dsimp only [nA, cA]
        apply RGW.on (i := 4) rfl
        · exact zG
        · intro γ u W hcur hd
          clear hd
          (try dsimp only)
          exact ⟨rfl, zS⟩
        · exact zC
        · rfl
        dsimp only [nA, cA]
        apply RGW.on (i := 5) rfl
        · exact zG
        · intro γ u W hcur hd
          obtain ⟨⟨h4, -, -⟩, -⟩ := hd
          dsimp only at h4
          (try simp only [h4])
          exact ⟨rfl, zS⟩
        · exact zC
        · rfl
        dsimp only [nA, cA]
        apply RGW.on (i := 6) rfl
        · exact zG
        · intro γ u W hcur hd
          obtain ⟨⟨h5, -, -⟩, -⟩ := hd
          dsimp only at h5
          (try simp only [h5])
          exact ⟨rfl, zS⟩
        · exact zC
        · rfl
        dsimp only [nA, cA]
        apply RGW.call (i := 7) rfl
        · exact zG
        · intro γ u W hcur hd
          obtain ⟨⟨h3, -, -⟩, ⟨h6, -, -⟩, -⟩ := hd
          dsimp only at h3 h6
          (try simp only [h3, h6])
          refine ⟨rfl, fun K hK => ?_⟩
          go_simp
          first
          | (go_at_call 12; (with_reducible refine (hwi.out _).mono ?_); rintro e w3 ⟨rfl, rfl⟩)
          | (go_at_call 13; (with_reducible refine (hHs.out _ hcur).mono ?_); rintro e w3 ⟨rfl, hb3⟩)
          (try dsimp only)
          exact hK.out _ _ rfl (by (exact zE))
        · exact zC
        · rfl
        dsimp only [nA, cA]
        apply RGW.on (i := 8) rfl
        · exact zG
        · intro γ u W hcur hd
          obtain ⟨⟨h7, -, -⟩, -⟩ := hd
          dsimp only at h7
          (try simp only [h7])
          exact ⟨rfl, zS⟩
        · exact zC
        · rfl
        dsimp only [nA, cA]
        apply RGW.on (i := 9) rfl
        · exact zG
        · intro γ u W hcur hd
          obtain ⟨⟨h8, -, -⟩, -⟩ := hd
          dsimp only at h8
          (try simp only [h8])
          exact ⟨rfl, zS⟩
        · exact zC
        · rfl
        dsimp only [nA, cA]
        first
        | apply RGW.on (i := 10) rfl
          · exact zG
          · intro γ u W hcur hd
            obtain ⟨⟨h9, -, -⟩, -⟩ := hd
            dsimp only at h9
            (try simp only [h9])
            refine ⟨?_, ?_⟩
            · (simp [Region.wanted, yielded, undef, *]; done)
            exact zS
          · exact zC
          · rfl
        | apply RGW.off (i := 10) rfl
          · exact zG
          · intro γ u W hcur hd
            obtain ⟨⟨h9, -, -⟩, -⟩ := hd
            dsimp only at h9
            (try simp only [h9])
            simp [Region.wanted, yielded, undef, *]
          · rfl
        dsimp only [nA, cA]
        first
        | apply RGW.on (i := 11) rfl
          · exact zG
          · intro γ u W hcur hd
            obtain ⟨⟨h9, -, -⟩, -⟩ := hd
            dsimp only at h9
            (try simp only [h9])
            refine ⟨?_, ?_⟩
            · (simp [Region.wanted, yielded, undef, *]; done)
            exact zS
          · exact zC
          · rfl
        | apply RGW.off (i := 11) rfl
          · exact zG
          · intro γ u W hcur hd
            obtain ⟨⟨h9, -, -⟩, -⟩ := hd
            dsimp only at h9
            (try simp only [h9])
            simp [Region.wanted, yielded, undef, *]
          · rfl
        dsimp only [nA, cA]
        first
        | apply RGW.on (i := 12) rfl
          · exact zG
          · intro γ u W hcur hd
            obtain ⟨⟨h9, -, -⟩, ⟨h10, -, -⟩, ⟨h11, -, -⟩, -⟩ := hd
            dsimp only at h9 h10 h11
            (try simp only [h9, h10, h11])
            refine ⟨?_, ?_⟩
            · (simp [Region.wanted, yielded, undef, *]; done)
            exact zS
          · exact zC
          · rfl
        | apply RGW.off (i := 12) rfl
          · exact zG
          · intro γ u W hcur hd
            obtain ⟨⟨h9, -, -⟩, ⟨h10, -, -⟩, ⟨h11, -, -⟩, -⟩ := hd
            dsimp only at h9 h10 h11
            (try simp only [h9, h10, h11])
            simp [Region.wanted, yielded, undef, *]
          · rfl
        dsimp only [nA, cA]
        first
        | apply RGW.on (i := 13) rfl
          · exact zG
          · intro γ u W hcur hd
            obtain ⟨⟨h9, -, -⟩, -⟩ := hd
            dsimp only at h9
            (try simp only [h9])
            refine ⟨?_, ?_⟩
            · (simp [Region.wanted, yielded, undef, *]; done)
            exact zS
          · exact zC
          · rfl
        | apply RGW.off (i := 13) rfl
          · exact zG
          · intro γ u W hcur hd
            obtain ⟨⟨h9, -, -⟩, -⟩ := hd
            dsimp only at h9
            (try simp only [h9])
            simp [Region.wanted, yielded, undef, *]
          · rfl
        dsimp only [nA, cA]
        first
        | apply RGW.on (i := 14) rfl
          · exact zG
          · intro γ u W hcur hd
            obtain ⟨⟨h9, -, -⟩, -⟩ := hd
            dsimp only at h9
            (try simp only [h9])
            refine ⟨?_, ?_⟩
            · (simp [Region.wanted, yielded, undef, *]; done)
            exact zS
          · exact zC
          · rfl
        | apply RGW.off (i := 14) rfl
          · exact zG
          · intro γ u W hcur hd
            obtain ⟨⟨h9, -, -⟩, -⟩ := hd
            dsimp only at h9
            (try simp only [h9])
            simp [Region.wanted, yielded, undef, *]
          · rfl
        dsimp only [nA, cA]
        first
        | apply RGW.on (i := 15) rfl
          · exact zG
          · intro γ u W hcur hd
            obtain ⟨⟨h9, -, -⟩, ⟨h13, -, -⟩, ⟨h14, -, -⟩, -⟩ := hd
            dsimp only at h9 h13 h14
            (try simp only [h9, h13, h14])
            refine ⟨?_, ?_⟩
            · (simp [Region.wanted, yielded, undef, *]; done)
            exact zS
          · exact zC
          · rfl
        | apply RGW.off (i := 15) rfl
          · exact zG
          · intro γ u W hcur hd
            obtain ⟨⟨h9, -, -⟩, ⟨h13, -, -⟩, ⟨h14, -, -⟩, -⟩ := hd
            dsimp only at h9 h13 h14
            (try simp only [h9, h13, h14])
            simp [Region.wanted, yielded, undef, *]
          · rfl
        dsimp only [nA, cA]
        first
        | apply RGW.on (i := 16) rfl
          · exact zG
          · intro γ u W hcur hd
            obtain ⟨⟨h9, -, -⟩, ⟨h15, -, -⟩, -⟩ := hd
            dsimp only at h9 h15
            (try simp only [h9, h15])
            refine ⟨?_, ?_⟩
            · (simp [Region.wanted, yielded, undef, *]; done)
            exact zS
          · exact zC
          · rfl
        | apply RGW.off (i := 16) rfl
          · exact zG
          · intro γ u W hcur hd
            obtain ⟨⟨h9, -, -⟩, ⟨h15, -, -⟩, -⟩ := hd
            dsimp only at h9 h15
            (try simp only [h9, h15])
            simp [Region.wanted, yielded, undef, *]
          · rfl
        dsimp only [nA, cA]
        first
        | apply RGW.call (i := 17) rfl
          · exact zG
          · intro γ u W hcur hd
            obtain ⟨⟨h9, -, -⟩, ⟨h12, -, -⟩, ⟨h16, -, -⟩, -⟩ := hd
            dsimp only at h9 h12 h16
            (try simp only [h9, h12, h16])
            refine ⟨?_, fun K hK => ?_⟩
            · (simp [Region.wanted, yielded, undef, *]; done)
            go_simp
            first
            | (go_at_call 12; (with_reducible refine (hwi.out _).mono ?_); rintro e w3 ⟨rfl, rfl⟩)
            | (go_at_call 13; (with_reducible refine (hHs.out _ hcur).mono ?_); rintro e w3 ⟨rfl, hb3⟩)
            (try dsimp only)
            exact hK.out _ _ rfl (by (exact zE))
          · exact zC
          · rfl
        | apply RGW.off (i := 17) rfl
          · exact zG
          · intro γ u W hcur hd
            obtain ⟨⟨h9, -, -⟩, ⟨h12, -, -⟩, ⟨h16, -, -⟩, -⟩ := hd
            dsimp only at h9 h12 h16
            (try simp only [h9, h12, h16])
            simp [Region.wanted, yielded, undef, *]
          · rfl
        dsimp only [nA, cA]
        apply RGW.on (i := 18) rfl
        · exact zG
        · intro γ u W hcur hd
          obtain ⟨⟨h9, -, -⟩, ⟨h17, -, -⟩, -⟩ := hd
          dsimp only at h9 h17
          (try simp only [h9, h17])
          exact ⟨rfl, zS⟩
        · exact zC
        · rfl
        dsimp only [nA, cA]
        refine RGW.fin (fun γ u w4 hw4 hd hdis => ?_)
        obtain ⟨⟨h0, -, -⟩, ⟨h1, -, -⟩, ⟨h2, -, -⟩, ⟨h3, -, -⟩, ⟨h4, -, -⟩, ⟨h5, -, -⟩, ⟨h6, -, -⟩, ⟨h7, -, -⟩, ⟨h8, -, -⟩, ⟨h9, -, -⟩, ⟨h10, -, -⟩, ⟨h11, -, -⟩, ⟨h12, -, -⟩, ⟨h13, -, -⟩, ⟨h14, -, -⟩, ⟨h15, -, -⟩, ⟨h16, -, -⟩, ⟨h17, -, -⟩, ⟨h18, -, -⟩, -⟩ := hd
        dsimp only at h0 h1 h2 h3 h4 h5 h6 h7 h8 h9 h10 h11 h12 h13 h14 h15 h16 h17 h18
        clear hdis
        simp only [h0, h1, h2, h3, h4, h5, h6, h7, h8, h9, h10, h11, h12, h13, h14, h15, h16, h17, h18]
        clear h18 h17 h16 h15 h14 h13 h12 h11 h10 h9 h8 h7 h6 h5 h4 h3 h2 h1 h0
        clear u
        simp only [List.map_nil]
        refine PlanW.done ?_
        have hb3 := bl_tt hw4
        replace hb1 := bl_tr hb1 hw4
        clear hwi hHs LB hw4
        go_wp2
        go_roundw
        case rel => exact ⟨k + 1, by omega, by go_num, hb1⟩
        case measure => simp [intOf]; omega
    · have e : k = l.length := by omega
      subst e
      as_aux_lemma =>
        clear hnt hrl hrlt
        have hb3 := bl_tr hb0 hb1
        clear hb0
        go_wp2_with fail
        refine (hor.out _ hb1).mono ?_
        rintro e v3 ⟨A4, c4, rfl, hb4, hm4⟩
        have hb0 := bl_tr hb3 hb4
        clear hor hb1 hb3 hb4 hs3
        go_wp2_with fail
        refine (hcp.out _ _ _ hm4).mono ?_
        rintro e v4 ⟨B1, d1, rfl, hb1, hm1⟩
        replace hb0 := bl_tr hb0 hb1
        replace hm4 := hm4.below hb1
        clear hb1
        go_wp2_with fail
        refine (hfS.out _ _ _ hm1 hb0).mono ?_
        rintro e v5 ⟨rfl, hb1⟩
        replace hb0 := bl_tr hb0 hb1
        replace hm4 := hm4.below hb1
        clear hb1 hm1 hfS
        go_wp2_with fail
        refine (hpS.out _ hb0).mono ?_
        rintro e v6 ⟨hb1, A6, c6, rfl, hs6⟩
        replace hb0 := bl_tr hb0 hb1
        replace hm4 := hm4.below hb1
        clear hb1 hpS
        go_wp2_with fail
        refine (hcp.out _ _ _ hm4).mono ?_
        rintro e v7 ⟨B1, d1, rfl, hb1, hm1⟩
        replace hb0 := bl_tr hb0 hb1
        replace hm4 := hm4.below hb1
        replace hs6 := hs6.below hb1
        clear hb1
        go_wp2_with fail
        refine (hli.out _ _ _ hm1).mono ?_
        rintro e v8 ⟨hb1, A8, c8, rfl⟩
        replace hb0 := bl_tr hb0 hb1
        replace hm4 := hm4.below hb1
        replace hs6 := hs6.below hb1
        clear hb1 hm1 hli
        go_wp2_with fail
        refine (hsm.out _ _ _ _ _ hs6 hm4.sl).mono ?_
        rintro e v9 ⟨rfl, hb1⟩
        replace hb0 := bl_tr hb0 hb1
        replace hm4 := hm4.below hb1
        clear hb1 hs6 hsm
        go_wp2_with fail
        refine (hcp.out _ _ _ hm4).mono ?_
        rintro e v10 ⟨B1, d1, rfl, hb1, hm1⟩
        replace hb0 := bl_tr hb0 hb1
        replace hm4 := hm4.below hb1
        clear hb1
        go_wp2_with fail
        refine (hov.out _ _ _ hm1).mono ?_
        rintro e v11 ⟨rfl, hb1⟩
        replace hb0 := bl_tr hb0 hb1
        replace hm4 := hm4.below hb1
        clear hb1 hm1 hov
        go_upto_region 21 with fail
        go_cut [137] from 132 (fun b wc => b = .bool false ∧ wc = v11)
        case first =>
          clear hcp hci hwf hcb hWO hSI hCA hbd hm4
          rcases hov2.out with rfl | rfl
          · go_wp2
            go_meet
            exact ⟨rfl, rfl⟩
          · go_wp2
            go_meet
            exact ⟨rfl, rfl⟩
        case rest =>
        obtain ⟨rfl, rfl⟩ := hcut
        clear hov2
        go_wp2_with fail
        refine (hcp.out _ _ _ hm4).mono ?_
        rintro e v12 ⟨B1, d1, rfl, hb1, hm1⟩
        replace hb0 := bl_tr hb0 hb1
        replace hm4 := hm4.below hb1
        clear hb1
        go_wp2_with fail
        refine (hci.out _ hb0).mono ?_
        rintro e v13 ⟨A1, c1, rfl, hb1, ho1⟩
        replace hb0 := bl_tr hb0 hb1
        replace hm4 := hm4.below hb1
        replace hm1 := hm1.below hb1
        clear hb1
        go_wp2_with fail
        refine (hwf.out _ _ _ _ _ hm1 (own_sl ho1)).mono ?_
        rintro e v14 ⟨hb1, B7, rfl, hs7⟩
        replace hb0 := bl_tr hb0 hb1
        replace hm4 := hm4.below hb1
        clear hb1 hm1 ho1 hwf
        go_wp2_with fail
        refine (hcp.out _ _ _ hm4).mono ?_
        rintro e v15 ⟨B1, d1, rfl, hb1, hm1⟩
        replace hb0 := bl_tr hb0 hb1
        replace hm4 := hm4.below hb1
        replace hs7 := hs7.below hb1
        clear hb1 hcp
        go_wp2_with fail
        refine (hci.out _ hb0).mono ?_
        rintro e v16 ⟨A1, c1, rfl, hb1, ho1⟩
        replace hb0 := bl_tr hb0 hb1
        replace hm4 := hm4.below hb1
        replace hm1 := hm1.below hb1
        replace hs7 := hs7.below hb1
        clear hb1 hci
        go_wp2_with fail
        refine (hcb.out _ _ _ _ _ hm1 (own_sl ho1)).mono ?_
        rintro e v17 ⟨hb1, B8, k8, rfl, hs8⟩
        replace hb0 := bl_tr hb0 hb1
        replace hm4 := hm4.below hb1
        replace hs7 := hs7.below hb1
        clear hb1 hm1 ho1 hcb
        obtain ⟨i0, hi, hy0, hy1, hy2⟩ := info_parts infoI
        have hrz : ∀ k : Int, Hid (hrdK CA k 0 = []) := fun _ => rfl
        have hrn : ∀ (k : Int) (t : Nat), Hid (hrdK CA k (t + 1) = hrdK CA k t ++ if CA[t]? = some k then [(t : Int)] else []) := fun _ _ => rfl
        have hrlen := Lib.hid fun k t => hrdK_len CA k t
        have hsc : Hid (∀ (k : Nat) (s : Sm) (a : Int) (B : Option Addr) (d : Nat) (W : World), own[k]? = some s → st[k]? = some a → a + s.dl < T → Sl cI 1 W B (hrdK CA k T) → Calls Tryz.prog 23 #[.slice B (hrdK CA k T).length d, .agg #[.int .i64 (a + s.dl), .int .i64 ((T : Int) - 1)], .int .i64 (s.per + s.dl)] W (fun e w' => ∃ A9 c9, e = .returned (.tuple #[.slice A9 0 c9, .int .i64 0]) ∧ Below W.heap.size W w')) := fun k s a B d W h1 h2 h3 h4 => by
          have h := c_SilentIn (hrdK CA k T) ⟨a + s.dl, (T : Int) - 1⟩ (s.per + s.dl) B d W h4 (by have := hrdK_len CA k T; omega)
          obtain ⟨e1, e2⟩ := hSI.out k s h1 a h2 h3
          rw [e1, e2] at h
          exact h.mono fun e w' ⟨A9, c9, h5, h6, _⟩ => ⟨A9, c9, h5, h6⟩
        obtain ⟨HR, hhk⟩ : ∃ HR : Int → Nat → List Int, ∀ k t, hrdK CA k t = HR k t := ⟨_, fun _ _ => rfl⟩
        simp only [hhk] at hrz hrn hrlen hsc
        clear hhk hSI
        go_wp2
        go_loopw [21] (fun i wr => ∃ k : Nat, k ≤ l.length ∧ i = .int .i64 k ∧ Below v17.heap.size v17 wr) (fun i _ => l.length - (intOf i).toNat)
        case atStart => exact ⟨0, Nat.zero_le _, rfl, bl_refl v17⟩
        case round =>
          obtain ⟨k, hk, rfl, hb1⟩ := hrel
          obtain ⟨wq, hwq⟩ : ∃ wq, wq = wr := ⟨_, rfl⟩
          subst hwq
          by_cases hkn : k < l.length
          rotate_left
          · have e : k = l.length := by omega
            subst e
            clear hrz hrn hrlen hsc hWO hCA hbd
            have hb9 := bl_tr hb0 hb1
            go_wp2
            go_ret
            exact ⟨rfl, hb9⟩
          · as_aux_lemma =>
              have hx : own[k]? = some (own[k]'(by rw [hol.out]; exact hkn)) := List.getElem?_eq_getElem _
              generalize own[k]'(by rw [hol.out]; exact hkn) = s at hx
              have hxa : st[k]? = some (st[k]'(by rw [hlst.out]; exact hkn)) := List.getElem?_eq_getElem _
              generalize st[k]'(by rw [hlst.out]; exact hkn) = a at hxa
              have ha4 := hst400.out a (List.mem_of_getElem? hxa)
              obtain ⟨v, hv, hv0, hv1⟩ := hWO.out k s hx
              obtain ⟨p1, p2, p3, p4, p5, p6⟩ := hbd.out s (List.mem_of_getElem? hx)
              have hsck := Lib.hid fun B d W (h3 : a + s.dl < T) (h4 : Sl cI 1 W B (HR k T)) => hsc.out k s a B d W hx hxa h3 h4
              obtain ⟨b7, o7, rfl, L7⟩ := sl_at1 (hs7.below hb1) hv
              obtain ⟨b1', o1', rfl, L1⟩ := sl_at1 (Hst.out wq (bl_tr hb0 hb1)) hxa
              obtain ⟨b4, o4, rfl, hc4⟩ := (hm4.below hb1).sl k s hx
              have M1 : ∀ W, Below wq.heap.size wq W → W.cell? ⟨b4, o4 + k * 4 + 1, none⟩ = some (.int .i64 s.per) := later (hc4 1 _ rfl)
              have M2 : ∀ W, Below wq.heap.size wq W → W.cell? ⟨b4, o4 + k * 4 + 2, none⟩ = some (.int .i64 s.dl) := later (hc4 2 _ rfl)
              have hwi := Lib.hid fun W : World => (show Calls Tryz.prog 12 #[.int .i64 v, .int .i64 0, .int .i64 s.dl] W (Same (.bool true) W) from by
                have h := r_Within v 0 s.dl W
                rw [show inR v 0 s.dl = true from inR_iff.2 ⟨hv0, hv1⟩] at h
                exact h)
              obtain ⟨sn, sp, sd, sl⟩ := s
              dsimp only at *
              have hkn2 : (k : Int) < l.length := by omega
              clear hc4 hx hxa hv hsc hWO hbd hs7 hm4 Hst hst400 hol hlst hn1 HE h60h
              go_upto_region 30 with fail
              refine wp_any (w0 := wq) ⟨[], [], [some 181, some 182, some 183, some 184, some 185, some 186, some 187, some 188, some 189, some 190, some 191], [[], [], [0, 1], [0, 1, 2], [], [], [4, 5], [4, 5, 6], [4, 5, 6, 7], [0, 1, 2, 3, 4, 5, 6, 7, 8], [0, 1, 2, 3, 4, 5, 6, 7, 8, 9]], [[], [], [0, 1], [2], [], [], [4, 5], [6], [7], [3, 8], [9]]⟩ (fun _ => []) (by kernel_rfl) (by kernel_rfl) (by (exact zE)) (fun u => by simp only [putD, Act.put, List.setIfInBounds_toArray, List.set_cons_zero, List.set_cons_succ, Nat.zero_add, Nat.reduceAdd]; rfl) ?_
              apply RGW.on (i := 0) rfl
              · exact zG
              · intro γ u W hcur hd
                clear hd
                (try dsimp only)
                exact ⟨rfl, zS⟩
              · exact zC
              · rfl
              dsimp only [nA, cA]
              apply RGW.on (i := 1) rfl
              · exact zG
              · intro γ u W hcur hd
                clear hd
                (try dsimp only)
                exact ⟨rfl, zS⟩
              · exact zC
              · rfl
              dsimp only [nA, cA]
              apply RGW.on (i := 2) rfl
              · exact zG
              · intro γ u W hcur hd
                obtain ⟨⟨h0, -, -⟩, ⟨h1, -, -⟩, -⟩ := hd
                dsimp only at h0 h1
                (try simp only [h0, h1])
                exact ⟨rfl, zS⟩
              · exact zC
              · rfl
              dsimp only [nA, cA]
              apply RGW.on (i := 3) rfl
              · exact zG
              · intro γ u W hcur hd
                obtain ⟨⟨h2, -, -⟩, -⟩ := hd
                dsimp only at h2
                (try simp only [h2])
                exact ⟨rfl, zS⟩
              · exact zC
              · rfl
              dsimp only [nA, cA]
              apply RGW.on (i := 4) rfl
              · exact zG
              · intro γ u W hcur hd
                clear hd
                (try dsimp only)
                exact ⟨rfl, zS⟩
              · exact zC
              · rfl
              dsimp only [nA, cA]
              apply RGW.on (i := 5) rfl
              · exact zG
              · intro γ u W hcur hd
                clear hd
                (try dsimp only)
                exact ⟨rfl, zS⟩
              · exact zC
              · rfl
              dsimp only [nA, cA]
              apply RGW.on (i := 6) rfl
              · exact zG
              · intro γ u W hcur hd
                obtain ⟨⟨h4, -, -⟩, ⟨h5, -, -⟩, -⟩ := hd
                dsimp only at h4 h5
                (try simp only [h4, h5])
                exact ⟨rfl, zS⟩
              · exact zC
              · rfl
              dsimp only [nA, cA]
              apply RGW.on (i := 7) rfl
              · exact zG
              · intro γ u W hcur hd
                obtain ⟨⟨h6, -, -⟩, -⟩ := hd
                dsimp only at h6
                (try simp only [h6])
                exact ⟨rfl, zS⟩
              · exact zC
              · rfl
              dsimp only [nA, cA]
              apply RGW.on (i := 8) rfl
              · exact zG
              · intro γ u W hcur hd
                obtain ⟨⟨h7, -, -⟩, -⟩ := hd
                dsimp only at h7
                (try simp only [h7])
                exact ⟨rfl, zS⟩
              · exact zC
              · rfl
              dsimp only [nA, cA]
              apply RGW.call (i := 9) rfl
              · exact zG
              · intro γ u W hcur hd
                obtain ⟨⟨h3, -, -⟩, ⟨h8, -, -⟩, -⟩ := hd
                dsimp only at h3 h8
                (try simp only [h3, h8])
                refine ⟨rfl, fun K hK => ?_⟩
                go_simp
                (go_at_call 12; (with_reducible refine (hwi.out _).mono ?_); rintro e w3 ⟨rfl, rfl⟩)
                (try dsimp only)
                exact hK.out _ _ rfl (by (exact zE))
              · exact zC
              · rfl
              dsimp only [nA, cA]
              apply RGW.on (i := 10) rfl
              · exact zG
              · intro γ u W hcur hd
                obtain ⟨⟨h9, -, -⟩, -⟩ := hd
                dsimp only at h9
                (try simp only [h9])
                exact ⟨rfl, zS⟩
              · exact zC
              · rfl
              dsimp only [nA, cA]
              refine RGW.fin (fun γ u z1 hz1 hd hdis => ?_)
              obtain ⟨⟨h0, -, -⟩, ⟨h1, -, -⟩, ⟨h2, -, -⟩, ⟨h3, -, -⟩, ⟨h4, -, -⟩, ⟨h5, -, -⟩, ⟨h6, -, -⟩, ⟨h7, -, -⟩, ⟨h8, -, -⟩, ⟨h9, -, -⟩, ⟨h10, -, -⟩, -⟩ := hd
              dsimp only at h0 h1 h2 h3 h4 h5 h6 h7 h8 h9 h10
              clear hdis
              simp only [h0, h1, h2, h3, h4, h5, h6, h7, h8, h9, h10]
              clear h10 h9 h8 h7 h6 h5 h4 h3 h2 h1 h0
              clear u
              simp only [List.map_nil]
              refine PlanW.done ?_
              have hb3 := bl_tt hz1
              clear L7 hwi
              go_wp2
              go_loopw [22, 23] (fun o i wr => ∃ j : Nat, j ≤ T ∧ i = .int .i64 j ∧ Below z1.heap.size z1 wr ∧ wr.ownsRow z1.heap.size 3 1 o (HR k j).length ((HR k j).map (.int .i64))) (fun _ i _ => T - (intOf i).toNat)
              case atStart => exact ⟨0, Nat.zero_le _, rfl, bl_refl z1, by rw [(hrz k).out]; exact World.ownsRow_nil _ _ _ _⟩
              case round =>
                obtain ⟨j, hj, rfl, hb2, ho⟩ := hrel
                replace ho := Lib.hid ho
                have hbq := bl_tr hz1 hb2
                by_cases hjT : j < T
                · have hy := hCA.out j hjT
                  have hn := (hrn k j).out
                  rw [hy] at hn
                  obtain ⟨b8, o8, rfl, L8⟩ := sl_at1 (hs8.below (bl_tr hb1 hbq)) hy
                  clear hy
                  generalize ouT own st j = o at *
                  have L8' := L8 wr (bl_refl _)
                  have hjT2 : (j : Int) < T := by omega
                  have hgl := hrlen.out k j
                  have hsz := hb2.size
                  clear L8 L1 M1 M2
                  by_cases hok : o = (k : Int)
                  · have e2 := Lib.hid (show HR k (j + 1) = HR k j ++ [(j : Int)] by rw [hn, if_pos (by rw [hok])])
                    subst hok
                    clear hn
                    have hoA := Lib.hid (own_below ho.out (bl_al (.cells #[.int .i64 j] 3) (bl_refl _)))
                    go_wp2_with (at_builtin; refine wpList_append_own2 rfl _ _ 23 rfl z1.heap.size 3 i0 (.int .i64 0) 1 8 Tryz.underlying23 hi hy0 hy1 hy2 rfl (by decide) _ _ _ rfl hoA.out ⟨_, 0, none⟩ 1 1 [.int .i64 j] rfl rfl ?c1 ?c2 ?c3 ?c4 ?c5 ?_)
                    try case c1 =>
                      intro j' u hj'
                      match j', hj' with
                      | 0, hj' => simp at hj'; subst hj'; simp [Addr.add]
                      | j' + 1, hj' => simp at hj'
                    case c2 => first | (intro u hu; simp at hu; subst hu; rfl) | rfl
                    case c3 => unfold maxLen; omega
                    case c4 => omega
                    case c5 => first | omega | (simp; omega)
                    intro v' w1 hown' hgrow _
                    have hb3 : Below z1.heap.size z1 w1 := (bl_al (.cells #[.int .i64 j] 3) hb2).grown hgrow (by simp; omega) (own_ge hoA.out)
                    clear hoA
                    clear hgrow
                    replace hown' := Lib.hid hown'
                    go_wp2
                    go_roundw
                    case rel => exact ⟨j + 1, by omega, by go_num, hb3, by rw [e2.out]; simpa using hown'.out⟩
                    case measure => simp [intOf] <;> omega
                  · have e2 := Lib.hid (show HR k (j + 1) = HR k j by rw [hn, if_neg (fun h => hok (Option.some.inj h)), List.append_nil])
                    have hob : (o == (k : Int)) = false := by simp [hok]
                    replace hok := Lib.hid hok
                    clear hn
                    go_wp2
                    go_roundw
                    case rel => exact ⟨j + 1, by omega, by go_num, hb2, by rw [e2.out]; exact ho.out⟩
                    case measure => simp [intOf] <;> omega
                · have e : j = T := by omega
                  rw [e] at ho
                  obtain ⟨oA, oc, e2⟩ := own_slice ho.out
                  subst e2
                  clear e
                  have hsl := Lib.hid (own_sl ho.out)
                  have L1' : ∀ W, Below wr.heap.size wr W → W.cell? ⟨b1', o1' + k, none⟩ = some (.int .i64 a) := fun W h => L1 W (bl_tr hbq h)
                  have M1' : ∀ W, Below wr.heap.size wr W → W.cell? ⟨b4, o4 + k * 4 + 1, none⟩ = some (.int .i64 sp) := fun W h => M1 W (bl_tr hbq h)
                  have M2' : ∀ W, Below wr.heap.size wr W → W.cell? ⟨b4, o4 + k * 4 + 2, none⟩ = some (.int .i64 sd) := fun W h => M2 W (bl_tr hbq h)
                  have hb9 := bl_tr hb1 hbq
                  clear L1 M1 M2 ho hs8 hCA hrn hrz hrlen
                  go_upto_region 38 with fail
                  refine wp_any (w0 := wr) ⟨[], [], [some 207, some 208, some 209, some 210, some 211, some 212, some 213, some 214, some 215, some 216, some 24], [[], [], [0, 1], [0, 1, 2], [], [], [4, 5], [4, 5, 6], [4, 5, 6, 7], [0, 1, 2, 3, 4, 5, 6, 7, 8], [0, 1, 2, 3, 4, 5, 6, 7, 8, 9]], [[], [], [0, 1], [2], [], [], [4, 5], [6], [7], [3, 8], [9]]⟩ (fun _ => []) (by kernel_rfl) (by kernel_rfl) (by (exact zE)) (fun u => by simp only [putD, Act.put, List.setIfInBounds_toArray, List.set_cons_zero, List.set_cons_succ, Nat.zero_add, Nat.reduceAdd]; rfl) ?_
                  apply RGW.on (i := 0) rfl
                  · exact zG
                  · intro γ u W hcur hd
                    clear hd
                    (try dsimp only)
                    exact ⟨rfl, zS⟩
                  · exact zC
                  · rfl
                  dsimp only [nA, cA]
                  apply RGW.on (i := 1) rfl
                  · exact zG
                  · intro γ u W hcur hd
                    clear hd
                    (try dsimp only)
                    exact ⟨rfl, zS⟩
                  · exact zC
                  · rfl
                  dsimp only [nA, cA]
                  apply RGW.on (i := 2) rfl
                  · exact zG
                  · intro γ u W hcur hd
                    obtain ⟨⟨h0, -, -⟩, ⟨h1, -, -⟩, -⟩ := hd
                    dsimp only at h0 h1
                    (try simp only [h0, h1])
                    exact ⟨rfl, zS⟩
                  · exact zC
                  · rfl
                  dsimp only [nA, cA]
                  apply RGW.on (i := 3) rfl
                  · exact zG
                  · intro γ u W hcur hd
                    obtain ⟨⟨h2, -, -⟩, -⟩ := hd
                    dsimp only at h2
                    (try simp only [h2])
                    exact ⟨rfl, zS⟩
                  · exact zC
                  · rfl
                  dsimp only [nA, cA]
                  apply RGW.on (i := 4) rfl
                  · exact zG
                  · intro γ u W hcur hd
                    clear hd
                    (try dsimp only)
                    exact ⟨rfl, zS⟩
                  · exact zC
                  · rfl
                  dsimp only [nA, cA]
                  apply RGW.on (i := 5) rfl
                  · exact zG
                  · intro γ u W hcur hd
                    clear hd
                    (try dsimp only)
                    exact ⟨rfl, zS⟩
                  · exact zC
                  · rfl
                  dsimp only [nA, cA]
                  apply RGW.on (i := 6) rfl
                  · exact zG
                  · intro γ u W hcur hd
                    obtain ⟨⟨h4, -, -⟩, ⟨h5, -, -⟩, -⟩ := hd
                    dsimp only at h4 h5
                    (try simp only [h4, h5])
                    exact ⟨rfl, zS⟩
                  · exact zC
                  · rfl
                  dsimp only [nA, cA]
                  apply RGW.on (i := 7) rfl
                  · exact zG
                  · intro γ u W hcur hd
                    obtain ⟨⟨h6, -, -⟩, -⟩ := hd
                    dsimp only at h6
                    (try simp only [h6])
                    exact ⟨rfl, zS⟩
                  · exact zC
                  · rfl
                  dsimp only [nA, cA]
                  apply RGW.on (i := 8) rfl
                  · exact zG
                  · intro γ u W hcur hd
                    obtain ⟨⟨h7, -, -⟩, -⟩ := hd
                    dsimp only at h7
                    (try simp only [h7])
                    exact ⟨rfl, zS⟩
                  · exact zC
                  · rfl
                  dsimp only [nA, cA]
                  apply RGW.on (i := 9) rfl
                  · exact zG
                  · intro γ u W hcur hd
                    obtain ⟨⟨h3, -, -⟩, ⟨h8, -, -⟩, -⟩ := hd
                    dsimp only at h3 h8
                    (try simp only [h3, h8])
                    exact ⟨rfl, zS⟩
                  · exact zC
                  · rfl
                  dsimp only [nA, cA]
                  apply RGW.on (i := 10) rfl
                  · exact zG
                  · intro γ u W hcur hd
                    obtain ⟨⟨h9, -, -⟩, -⟩ := hd
                    dsimp only at h9
                    (try simp only [h9])
                    exact ⟨rfl, zS⟩
                  · exact zC
                  · rfl
                  dsimp only [nA, cA]
                  refine RGW.fin (fun γ u z2 hz2 hd hdis => ?_)
                  obtain ⟨⟨h0, -, -⟩, ⟨h1, -, -⟩, ⟨h2, -, -⟩, ⟨h3, -, -⟩, ⟨h4, -, -⟩, ⟨h5, -, -⟩, ⟨h6, -, -⟩, ⟨h7, -, -⟩, ⟨h8, -, -⟩, ⟨h9, -, -⟩, ⟨h10, -, -⟩, -⟩ := hd
                  dsimp only at h0 h1 h2 h3 h4 h5 h6 h7 h8 h9 h10
                  clear hdis
                  simp only [h0, h1, h2, h3, h4, h5, h6, h7, h8, h9, h10]
                  clear h10 h9 h8 h7 h6 h5 h4 h3 h2 h1 h0
                  clear u
                  simp only [List.map_nil]
                  refine PlanW.done ?_
                  have hb3 := bl_tt hz2
                  replace hb9 := bl_tr hb9 hz2
                  by_cases hf : a + sd < T
                  · have hf' : ¬ (T : Int) ≤ a + sd := by omega
                    have hsi := Lib.hid fun W (hW : Below z2.heap.size z2 W) => hsck.out oA oc W hf (hsl.out.below (bl_tr hz2 hW))
                    have M1'' : ∀ W, Below z2.heap.size z2 W → W.cell? ⟨b4, o4 + k * 4 + 1, none⟩ = some (.int .i64 sp) := fun W h => M1' W (bl_tr hz2 h)
                    have M2'' : ∀ W, Below z2.heap.size z2 W → W.cell? ⟨b4, o4 + k * 4 + 2, none⟩ = some (.int .i64 sd) := fun W h => M2' W (bl_tr hz2 h)
                    clear L1' M1' M2' hsl hsck hf
                    go_upto_region 40 with fail
                    refine wp_any (w0 := z2) ⟨[], [], [some 221, some 222, some 223, some 224, some 225, some 226, some 227, some 228, some 229, some 230, some 231, some 232, some 233, some 234, some 235, some 236, some 237, some 220, some 238, some 239, some 25, some 26], [[], [], [], [2], [1, 2, 3], [], [], [5, 6], [5, 6, 7], [5, 6, 7, 8], [], [], [10, 11], [10, 11, 12], [10, 11, 12, 13], [5, 6, 7, 8, 9, 10, 11, 12, 13, 14], [0, 1, 2, 3, 4, 5, 6, 7, 8, 9, 10, 11, 12, 13, 14, 15], [0, 1, 2, 3, 4, 5, 6, 7, 8, 9, 10, 11, 12, 13, 14, 15, 16], [0, 1, 2, 3, 4, 5, 6, 7, 8, 9, 10, 11, 12, 13, 14, 15, 16, 17], [0, 1, 2, 3, 4, 5, 6, 7, 8, 9, 10, 11, 12, 13, 14, 15, 16, 17], [0, 1, 2, 3, 4, 5, 6, 7, 8, 9, 10, 11, 12, 13, 14, 15, 16, 17, 18], [0, 1, 2, 3, 4, 5, 6, 7, 8, 9, 10, 11, 12, 13, 14, 15, 16, 17, 18, 19, 20]], [[], [], [], [2], [1, 3], [], [], [5, 6], [7], [8], [], [], [10, 11], [12], [13], [9, 14], [0, 4, 15], [16], [16, 17], [16, 17], [16, 18], [16, 19]]⟩ (fun _ => []) (by kernel_rfl) (by kernel_rfl) (by (exact zE)) (fun u => by simp only [putD, Act.put, List.setIfInBounds_toArray, List.set_cons_zero, List.set_cons_succ, Nat.zero_add, Nat.reduceAdd]; rfl) ?_
                    apply RGW.on (i := 0) rfl
                    · exact zG
                    · intro γ u W hcur hd
                      clear hd
                      (try dsimp only)
                      exact ⟨rfl, zS⟩
                    · exact zC
                    · rfl
                    dsimp only [nA, cA]
                    apply RGW.on (i := 1) rfl
                    · exact zG
                    · intro γ u W hcur hd
                      clear hd
                      (try dsimp only)
                      exact ⟨rfl, zS⟩
                    · exact zC
                    · rfl
                    dsimp only [nA, cA]
                    apply RGW.on (i := 2) rfl
                    · exact zG
                    · intro γ u W hcur hd
                      clear hd
                      (try dsimp only)
                      exact ⟨rfl, zS⟩
                    · exact zC
                    · rfl
                    dsimp only [nA, cA]
                    apply RGW.on (i := 3) rfl
                    · exact zG
                    · intro γ u W hcur hd
                      obtain ⟨⟨h2, -, -⟩, -⟩ := hd
                      dsimp only at h2
                      (try simp only [h2])
                      exact ⟨rfl, zS⟩
                    · exact zC
                    · rfl
                    dsimp only [nA, cA]
                    apply RGW.on (i := 4) rfl
                    · exact zG
                    · intro γ u W hcur hd
                      obtain ⟨⟨h1, -, -⟩, ⟨h3, -, -⟩, -⟩ := hd
                      dsimp only at h1 h3
                      (try simp only [h1, h3])
                      exact ⟨rfl, zS⟩
                    · exact zC
                    · rfl
                    dsimp only [nA, cA]
                    apply RGW.on (i := 5) rfl
                    · exact zG
                    · intro γ u W hcur hd
                      clear hd
                      (try dsimp only)
                      exact ⟨rfl, zS⟩
                    · exact zC
                    · rfl
                    dsimp only [nA, cA]
                    apply RGW.on (i := 6) rfl
                    · exact zG
                    · intro γ u W hcur hd
                      clear hd
                      (try dsimp only)
                      exact ⟨rfl, zS⟩
                    · exact zC
                    · rfl
                    dsimp only [nA, cA]
                    apply RGW.on (i := 7) rfl
                    · exact zG
                    · intro γ u W hcur hd
                      obtain ⟨⟨h5, -, -⟩, ⟨h6, -, -⟩, -⟩ := hd
                      dsimp only at h5 h6
                      (try simp only [h5, h6])
                      exact ⟨rfl, zS⟩
                    · exact zC
                    · rfl
                    dsimp only [nA, cA]
                    apply RGW.on (i := 8) rfl
                    · exact zG
                    · intro γ u W hcur hd
                      obtain ⟨⟨h7, -, -⟩, -⟩ := hd
                      dsimp only at h7
                      (try simp only [h7])
                      exact ⟨rfl, zS⟩
                    · exact zC
                    · rfl
                    dsimp only [nA, cA]
                    apply RGW.on (i := 9) rfl
                    · exact zG
                    · intro γ u W hcur hd
                      obtain ⟨⟨h8, -, -⟩, -⟩ := hd
                      dsimp only at h8
                      (try simp only [h8])
                      exact ⟨rfl, zS⟩
                    · exact zC
                    · rfl
                    dsimp only [nA, cA]
                    apply RGW.on (i := 10) rfl
                    · exact zG
                    · intro γ u W hcur hd
                      clear hd
                      (try dsimp only)
                      exact ⟨rfl, zS⟩
                    · exact zC
                    · rfl
                    dsimp only [nA, cA]
                    apply RGW.on (i := 11) rfl
                    · exact zG
                    · intro γ u W hcur hd
                      clear hd
                      (try dsimp only)
                      exact ⟨rfl, zS⟩
                    · exact zC
                    · rfl
                    dsimp only [nA, cA]
                    apply RGW.on (i := 12) rfl
                    · exact zG
                    · intro γ u W hcur hd
                      obtain ⟨⟨h10, -, -⟩, ⟨h11, -, -⟩, -⟩ := hd
                      dsimp only at h10 h11
                      (try simp only [h10, h11])
                      exact ⟨rfl, zS⟩
                    · exact zC
                    · rfl
                    dsimp only [nA, cA]
                    apply RGW.on (i := 13) rfl
                    · exact zG
                    · intro γ u W hcur hd
                      obtain ⟨⟨h12, -, -⟩, -⟩ := hd
                      dsimp only at h12
                      (try simp only [h12])
                      exact ⟨rfl, zS⟩
                    · exact zC
                    · rfl
                    dsimp only [nA, cA]
                    apply RGW.on (i := 14) rfl
                    · exact zG
                    · intro γ u W hcur hd
                      obtain ⟨⟨h13, -, -⟩, -⟩ := hd
                      dsimp only at h13
                      (try simp only [h13])
                      exact ⟨rfl, zS⟩
                    · exact zC
                    · rfl
                    dsimp only [nA, cA]
                    apply RGW.on (i := 15) rfl
                    · exact zG
                    · intro γ u W hcur hd
                      obtain ⟨⟨h9, -, -⟩, ⟨h14, -, -⟩, -⟩ := hd
                      dsimp only at h9 h14
                      (try simp only [h9, h14])
                      exact ⟨rfl, zS⟩
                    · exact zC
                    · rfl
                    dsimp only [nA, cA]
                    apply RGW.gh (⟨fun γ => .tuple #[.slice (γ 16).A 0 (γ 16).c, .int .i64 0], fun _ _ => True, fun _ => []⟩) (i := 16) rfl
                    · exact zG
                    · intro γ u W hcur hd
                      obtain ⟨⟨h0, -, -⟩, ⟨h4, -, -⟩, ⟨h15, -, -⟩, -⟩ := hd
                      dsimp only at h0 h4 h15
                      (try simp only [h0, h4, h15])
                      refine ⟨rfl, fun K hK => ?_⟩
                      go_simp
                      (go_at_call 23; (with_reducible refine (hsi.out _ hcur).mono ?_); rintro e w3 ⟨Ax, cx, rfl, hb3⟩; dsimp only; exact hK.out ⟨0, undef, Ax, cx⟩ _ _ (by simp [up]) hb3 trivial (by simp))
                    · first
                      | exact zC
                      | intro γ γ' hg
                        try dsimp only
                        have e16 := hg 16 (by decide)
                        simp only [e16]
                        try exact ⟨trivial, fun _ h => h⟩
                    · intro γ W W' hbl hR
                      first | exact hR.below hbl | exact own_below hR hbl | exact trivial | exact ⟨hR.1.below hbl, hR.2⟩
                    · rfl
                    dsimp only [nA, cA]
                    apply RGW.on (i := 17) rfl
                    · exact zG
                    · intro γ u W hcur hd
                      obtain ⟨⟨h16, r16, -⟩, -⟩ := hd
                      dsimp only at h16 r16
                      (try simp only [h16])
                      exact ⟨rfl, zS⟩
                    · first
                      | exact zC
                      | intro γ γ' hg
                        try dsimp only
                        have e16 := hg 16 (by decide)
                        simp only [e16]
                    · rfl
                    dsimp only [nA, cA]
                    apply RGW.on (i := 18) rfl
                    · exact zG
                    · intro γ u W hcur hd
                      obtain ⟨⟨h16, r16, -⟩, ⟨h17, -, -⟩, -⟩ := hd
                      dsimp only at h16 h17 r16
                      (try simp only [h16, h17])
                      exact ⟨rfl, zS⟩
                    · first
                      | exact zC
                      | intro γ γ' hg
                        try dsimp only
                        have e16 := hg 16 (by decide)
                        simp only [e16]
                    · rfl
                    dsimp only [nA, cA]
                    apply RGW.on (i := 19) rfl
                    · exact zG
                    · intro γ u W hcur hd
                      obtain ⟨⟨h16, r16, -⟩, ⟨h17, -, -⟩, -⟩ := hd
                      dsimp only at h16 h17 r16
                      (try simp only [h16, h17])
                      exact ⟨rfl, zS⟩
                    · first
                      | exact zC
                      | intro γ γ' hg
                        try dsimp only
                        have e16 := hg 16 (by decide)
                        simp only [e16]
                    · rfl
                    dsimp only [nA, cA]
                    apply RGW.on (i := 20) rfl
                    · exact zG
                    · intro γ u W hcur hd
                      obtain ⟨⟨h16, r16, -⟩, ⟨h18, -, -⟩, -⟩ := hd
                      dsimp only at h16 h18 r16
                      (try simp only [h16, h18])
                      exact ⟨rfl, zS⟩
                    · first
                      | exact zC
                      | intro γ γ' hg
                        try dsimp only
                        have e16 := hg 16 (by decide)
                        simp only [e16]
                    · rfl
                    dsimp only [nA, cA]
                    apply RGW.on (i := 21) rfl
                    · exact zG
                    · intro γ u W hcur hd
                      obtain ⟨⟨h16, r16, -⟩, ⟨h19, -, -⟩, -⟩ := hd
                      dsimp only at h16 h19 r16
                      (try simp only [h16, h19])
                      exact ⟨rfl, zS⟩
                    · first
                      | exact zC
                      | intro γ γ' hg
                        try dsimp only
                        have e16 := hg 16 (by decide)
                        simp only [e16]
                    · rfl
                    dsimp only [nA, cA]
                    refine RGW.fin (fun γ u z3 hz3 hd hdis => ?_)
                    obtain ⟨⟨h0, -, -⟩, ⟨h1, -, -⟩, ⟨h2, -, -⟩, ⟨h3, -, -⟩, ⟨h4, -, -⟩, ⟨h5, -, -⟩, ⟨h6, -, -⟩, ⟨h7, -, -⟩, ⟨h8, -, -⟩, ⟨h9, -, -⟩, ⟨h10, -, -⟩, ⟨h11, -, -⟩, ⟨h12, -, -⟩, ⟨h13, -, -⟩, ⟨h14, -, -⟩, ⟨h15, -, -⟩, ⟨h16, r16, b16⟩, ⟨h17, -, -⟩, ⟨h18, -, -⟩, ⟨h19, -, -⟩, ⟨h20, -, -⟩, ⟨h21, -, -⟩, -⟩ := hd
                    dsimp only at h0 h1 h2 h3 h4 h5 h6 h7 h8 h9 h10 h11 h12 h13 h14 h15 h16 h17 h18 h19 h20 h21 r16 b16
                    clear hdis
                    simp only [h0, h1, h2, h3, h4, h5, h6, h7, h8, h9, h10, h11, h12, h13, h14, h15, h16, h17, h18, h19, h20, h21]
                    clear h21 h20 h19 h18 h17 h16 h15 h14 h13 h12 h11 h10 h9 h8 h7 h6 h5 h4 h3 h2 h1 h0
                    clear u
                    simp only [List.map_nil]
                    refine PlanW.done ?_
                    have hb3 := bl_tt hz3
                    replace hb9 := bl_tr hb9 hz3
                    clear hsi M1'' M2''
                    go_wp2
                    go_roundw
                    case rel => exact ⟨k + 1, by omega, by go_num, hb9⟩
                    case measure => simp [intOf]; omega
                  · have hf' : (T : Int) ≤ a + sd := by omega
                    clear L1' M1' M2' hsl hsck hf
                    go_wp2
                    go_roundw
                    case rel => exact ⟨k + 1, by omega, by go_num, hb9⟩
                    case measure => simp [intOf]; omega
end Go.Proofs.YtbdgblnccjpahaaGreatDoor
