/-
  Walk: the reference's net of a string.
  Walk: streams that are equal are found equal.
-/
import Derived.Test.YtbdgblnccjpahaaGreatDoorVStrings6
import Derived.Test.YtbdgblnccjpahaaGreatDoorU14
import Derived.Test.YtbdgblnccjpahaaGreatDoorVStrings7
import Derived.Test.YtbdgblnccjpahaaGreatDoorVStrings4
import Derived.Test.YtbdgblnccjpahaaGreatDoorU7
set_option linter.unusedSimpArgs false
set_option linter.unusedVariables false
namespace Go.Proofs.YtbdgblnccjpahaaGreatDoor
open Go.RowKit Go.Shelf
attribute [local go_sem] bl_al bl_drew bl_drewN bl_refl bx_al bx_drew bx_drewN bx_refl
set_option maxRecDepth 20000
theorem bx_grownP {X : List Nat} {w A B : World} {o : Option Nat} (h : BX X w A) (hg : A.grownBy B o) (ho : ∀ k, o = some k → w.heap.size ≤ k) : BX X w B :=
  ⟨hg.os.trans h.os, hg.tape.trans h.tape, hg.output.trans h.output, Nat.le_trans h.size hg.size,
   fun i hi hX => (hg.block i (Nat.lt_of_lt_of_le hi h.size) (fun e => by have := ho i e.symm; omega)).trans (h.block i hi hX),
   fun g hgX t cs hk => by
    obtain ⟨c1, h1, h2⟩ := h.shape g hgX t cs hk
    exact ⟨c1, (hg.block g (Nat.lt_of_lt_of_le hk.lt h.size) (fun e => by have := ho g e.symm; have := hk.lt; omega)).trans h1, h2⟩⟩
set_option maxHeartbeats 8000000 in
theorem own_grownT {A B : World} {b b2 n m size size2 : Nat} {e t : TypeId} {v u : Value} {xs ys : List Value} (h : A.ownsRow b e size v n xs) (hu : A.ownsRow b2 t size2 u m ys) (het : t ≠ e) (hg : A.grownBy B u.ownBlock) : B.ownsRow b e size v n xs := by
  have hn := noT_own hu het
  refine own_keepB h fun g o h1 h2 => ?_
  refine (hg.block g (Array.getElem?_eq_some_iff.1 h2).1 (fun e1 => ?_)).trans h2
  rcases h.2 with ⟨rfl, _⟩ | ⟨k, _, cur, rfl, _, e3, _⟩
  · simp [Value.ownBlock] at h1
  · obtain rfl : k = g := by simpa [Value.ownBlock] using h1
    exact hn k (by simp [ownL, ← e1]) _ e3
theorem RwO.grown {A B : World} {b2 m size2 : Nat} {t : TypeId} {u : Value} {ys : List Value} {r : Rw} (h : RwO r A) (hu : A.ownsRow b2 t size2 u m ys) (h1 : t ≠ 3) (hg : A.grownBy B u.ownBlock) : RwO r B := ⟨h.len, own_grownT h.own hu h1 hg⟩
theorem FuO.grown {A B : World} {b2 m size2 : Nat} {t : TypeId} {u : Value} {ys : List Value} {f : Fu} (h : FuO f A) (hu : A.ownsRow b2 t size2 u m ys) (h1 : t ≠ 3) (h2 : t ≠ 23) (hg : A.grownBy B u.ownBlock) : FuO f B := ⟨h.nm, h.len, own_grownT h.own hu h2 hg, fun r hr => (h.rows r hr).grown hu h1 hg⟩
theorem MdO.grown {A B : World} {b2 m size2 : Nat} {t : TypeId} {u : Value} {ys : List Value} {f : Md} (h : MdO f A) (hu : A.ownsRow b2 t size2 u m ys) (h1 : t ≠ 3) (hg : A.grownBy B u.ownBlock) : MdO f B := ⟨h.nm, h.row.grown hu h1 hg⟩
theorem bx_trP {X Y : List Nat} {w w1 w2 : World} (h1 : BX X w w1) (h2 : BX Y w1 w2) (hY : ∀ y ∈ Y, y ∈ X ∨ w.heap.size ≤ y) : BX X w w2 :=
  ⟨h2.os.trans h1.os, h2.tape.trans h1.tape, h2.output.trans h1.output, Nat.le_trans h1.size h2.size, fun i hi hX =>
    (h2.block i (Nat.lt_of_lt_of_le hi h1.size) (fun hm => by rcases hY i hm with h | h; exact hX h; omega)).trans (h1.block i hi hX), fun g hg t cs hk => by
    obtain ⟨c1, k1, e1⟩ := h1.shape g hg t cs hk
    by_cases hgY : g ∈ Y
    · obtain ⟨c2, k2, e2⟩ := h2.shape g hgY t c1 k1
      exact ⟨c2, k2, e2.trans e1⟩
    · exact ⟨c1, k1.keep hgY h2, e1⟩⟩
abbrev nil3 : Array Value := #[.slice none 0 0, .slice none 0 0, .slice none 0 0]
/-- What the string is, part by part. -/
theorem pn_bad (x y z : List UInt8) : (((partsL x).all fun p => decide (p ≠ [])) = false → ntOkS x y z = false) ∧ ((itemsL y).all fuOk = false → ntOkS x y z = false) ∧ ((itemsL z).all mdOk = false → ntOkS x y z = false) ∧
    (itOk (itemsL y) = false → ntOkS x y z = false) ∧ (itOk (itemsL z) = false → ntOkS x y z = false) := by
  have h1 : ∀ l : List (List UInt8 × List UInt8), itOk l = false → l.all fuOk = false ∧ l.all mdOk = false := fun l h => by
    unfold itOk at h
    rw [List.all_eq_false] at h
    obtain ⟨x, hx, h⟩ := h
    constructor
    · rw [List.all_eq_false]
      exact ⟨x, hx, by unfold fuOk; simp at h; simp [h]⟩
    · rw [List.all_eq_false]
      exact ⟨x, hx, by unfold mdOk; simp at h; simp [h]⟩
  refine ⟨fun h => ?_, fun h => ?_, fun h => ?_, fun h => ?_, fun h => ?_⟩
  · unfold ntOkS; rw [h]; rfl
  · unfold ntOkS; rw [h]; simp
  · unfold ntOkS; rw [h]; simp
  · unfold ntOkS; rw [(h1 _ h).1]; simp
  · unfold ntOkS; rw [(h1 _ h).2]; simp
/-- A failing exit: the tactic sees the names at the place of use. -/
theorem pnFail {p : Prop} (h : p := by (
  refine absPN (fun W' => Below w.heap.size w W' ∧ Blk W' w.heap.size 58 nil3) ⟨bx_below hb0 (bx_set (.inl (List.mem_singleton.2 rfl)) _ (bx_set (.inl (List.mem_singleton.2 rfl)) _ (bx_set (.inl (List.mem_singleton.2 rfl)) _ (bx_refl [w.heap.size] _)))) (by simp), by simpa using ((kR.set 0 (.slice none 0 0)).set 1 (.slice none 0 0)).set 2 (.slice none 0 0)⟩ fun W' hW' => ?_
  obtain ⟨hb', kr⟩ := hW'
  have hr := kr.cell
  refine bodyPost_ret (v := .tuple #[.agg nil3, .int .i64 7]) (by simp [results, Tryz.results52, go_sem, hr]) rfl ⟨hb', fun _ => (by rw [hE.out]), fun h => absurd (h.symm.trans hE.out) (by decide)⟩)) : p := h
set_option maxHeartbeats 16000000 in
theorem r_ParseNet (l : List UInt8) (w : World) (hl : l.length ≤ 50000) (hf : FewS l) :
    Calls Tryz.prog 52 #[.string ⟨l.toArray⟩] w (fun e w' => Below w.heap.size w w' ∧
      (pnE l ≠ 0 → e = .returned (.tuple #[.agg #[.slice none 0 0, .slice none 0 0, .slice none 0 0], .int .i64 (pnE l)])) ∧
      (pnE l = 0 → ∃ (n : Nt) (Ap Af Am : Option Addr) (cp cf cm : Nat), n.cn = pnC l ∧ NtOw n Ap Af Am cp cf cm w' ∧ e = .returned (.tuple #[.agg #[.slice Ap n.ps.length cp, .slice Af n.fs.length cf, .slice Am n.ms.length cm], .int .i64 0]))) := by
  obtain ⟨i1, hi1', hy0, hy1, hy2⟩ := info_parts infoFu
  obtain ⟨i2, hi2', hm0, hm1, hm2⟩ := info_parts infoMd
  obtain ⟨i3, hi3', hl0, hl1', hl2'⟩ := info_parts infoLs
  have hcut := Lib.hid fun W => r_CutB l 47 W (by omega)
  have hlen := splitC_len 47 l
  have hmem := Lib.hid (splitC_mem 47 l)
  have hE1 : Hid ((splitC 47 l).length ≠ 3 → pnE l = 7) := Lib.hid fun h3 => by
    unfold pnE
    rw [if_neg (by omega)]
    generalize splitC 47 l = S at h3
    match S, h3 with
    | [], _ => rfl
    | [_], _ => rfl
    | [_, _], _ => rfl
    | [_, _, _], h => exact absurd rfl h
    | _ :: _ :: _ :: _ :: _, _ => rfl
  have hE2 := Lib.hid fun x y z (h : splitC 47 l = [x, y, z]) => (show pnE l = (if ntOkS x y z then netErr (mkNt (ntC x y z)) else 7) ∧ pnC l = ntC x y z by
    constructor
    · unfold pnE
      rw [if_neg (by omega), h]
      rfl
    · unfold pnC
      rw [h]
      rfl)
  generalize pnE l = E at *
  generalize pnC l = C at *
  have hl6 : ¬ (60000 : Int) < l.length := by omega
  replace hf := Lib.hid hf
  go_enter Tryz.func52, Tryz.ntmps52
  go_upto_region 4 with fail
  first
  | apply absB2 (w0 := w) (g0 := w.heap.size) (g1 := w.heap.size + 1)
  | apply absTB2 (w0 := w) (g0 := w.heap.size) (g1 := w.heap.size + 1)
  | apply absIB2 (w0 := w) (g0 := w.heap.size) (g1 := w.heap.size + 1)
  iterate 3 (focus exact zL)
  try clear hb3
  try clear hb0
  try clear kR
  try clear k4
  intro wa hb0 kR k4
  (try simp only [List.setIfInBounds_toArray, List.set_cons_zero, List.set_cons_succ] at kR k4)
  clear hl6
  go_wp2_with fail
  refine (hcut.out _).mono ?_
  rintro e w1 ⟨A1, c1, rfl, hb1, ho1⟩
  replace hb0 := bl_tr hb0 hb1
  replace kR := kR.below hb1
  replace k4 := k4.below hb1
  have hs1 := Lib.hid (own_slC (cs := cB) (fun _ => rfl) (by decide) ho1)
  have hsz1 := hb0.size
  clear hb1 ho1 hcut
  by_cases h3 : (splitC 47 l).length = 3
  rotate_left
  · have hE := Lib.hid (hE1.out h3)
    have h3' : (((splitC 47 l).length : Int) != 3) = true := by simp; omega
    generalize (splitC 47 l).length = sl at *
    replace h3 := Lib.hid h3
    have L4 := k4.cell
    have LR := kR.cell
    have FR := kR.frozen
    clear hE1 hE2
    go_wp2
    exact pnFail
  obtain ⟨x, y, z, e3⟩ := len3x h3
  obtain ⟨hE, hC⟩ := hE2.out x y z e3
  have hFew := Lib.hid (hf.out x y z e3)
  have hxl := hmem.out x (by rw [e3]; simp)
  have hyl := hmem.out y (by rw [e3]; simp)
  have hzl := hmem.out z (by rw [e3]; simp)
  rw [e3] at hs1 ⊢
  clear hE1 hE2 hf hmem hlen h3 e3
  obtain ⟨hq1, hq2, hq3, hq4, hq5⟩ := pn_bad x y z
  have hok : Hid (((partsL x).all fun p => decide (p ≠ [])) = true → (itemsL y).all fuOk = true → (itemsL z).all mdOk = true → ntOkS x y z = true) := Lib.hid fun a b c => by unfold ntOkS; rw [a, b, c]; rfl
  generalize ntOkS x y z = OK at *
  have hE7 := Lib.hid fun (h : OK = false) => (show E = 7 by rw [hE, h]; rfl)
  have hEg := Lib.hid fun (h : OK = true) => (show E = netErr (mkNt (ntC x y z)) by rw [hE, h]; rfl)
  clear hE
  replace hq1 := Lib.hid hq1
  replace hq2 := Lib.hid hq2
  replace hq3 := Lib.hid hq3
  replace hq4 := Lib.hid hq4
  replace hq5 := Lib.hid hq5
  subst hC
  obtain ⟨b, off, rfl, hc0⟩ := hs1.out 0 x rfl
  have hd0 : Hid (∀ W, Below w1.heap.size w1 W → W.cell? ⟨b, off, none⟩ = some (.string ⟨x.toArray⟩)) := Lib.hid (later (by simpa using hc0 0 _ rfl))
  have hd1 : Hid (∀ W, Below w1.heap.size w1 W → W.cell? ⟨b, off + 1, none⟩ = some (.string ⟨y.toArray⟩)) := Lib.hid (by
    obtain ⟨b3, o3, e3, hc1⟩ := hs1.out 1 y rfl
    injection e3 with e3
    injection e3 with e3 e4 _
    subst e3 e4
    exact later (by simpa using hc1 0 _ rfl))
  have hd2 : Hid (∀ W, Below w1.heap.size w1 W → W.cell? ⟨b, off + 2, none⟩ = some (.string ⟨z.toArray⟩)) := Lib.hid (by
    obtain ⟨b3, o3, e3, hc1⟩ := hs1.out 2 z rfl
    injection e3 with e3
    injection e3 with e3 e4 _
    subst e3 e4
    exact later (by simpa using hc1 0 _ rfl))
  clear hs1 hc0
  simp only [List.length_cons, List.length_nil, Nat.zero_add, Nat.reduceAdd]
  obtain ⟨PL, hPL⟩ : ∃ z, Hid (partsL x = z) := ⟨_, rfl⟩
  have hPx1 : Hid (x = [] → PL = []) := Lib.hid fun h => by rw [← hPL.out, h]; rfl
  have hPx2 : Hid (x ≠ [] → PL = splitC 44 x) := Lib.hid fun h => by rw [← hPL.out, partsL, if_neg h]
  have hPm := Lib.hid fun p (hp : p ∈ partsL x) => (show p.length ≤ x.length by
    unfold partsL at hp
    split at hp
    · simp at hp
    · exact splitC_mem 44 x p hp)
  rw [hPL.out] at hq1 hok hPm
  obtain ⟨np, hnp⟩ : ∃ z, Hid (PL.length = z) := ⟨_, rfl⟩
  have hnpl : np ≤ 1000 := by rw [← hnp.out, ← hPL.out]; exact hFew.out.ps
  have hNw : w.heap.size + 1 < w1.heap.size := k4.lt
  have hcx := Lib.hid fun W => r_CutB x 44 W (by omega)
  go_upto_region 8 with fail
  have kN := Blk.new w1 58 nil3
  have hbN := bl_al (.cells nil3 58) (bl_refl w1)
  replace hb0 := bl_tr hb0 hbN
  replace kR := kR.below hbN
  replace k4 := k4.below hbN
  obtain ⟨N, hN⟩ : ∃ N, Hid (w1.heap.size = N) := ⟨_, rfl⟩
  have hNle : w1.heap.size ≤ N := by rw [hN.out]; exact Nat.le_refl _
  rw [hN.out] at kN hNw ⊢
  generalize w1.alloc (.cells #[.slice none 0 0, .slice none 0 0, .slice none 0 0] 58) = wN at *
  have hsN : N + 1 ≤ wN.heap.size := kN.lt
  have D0 := hd0.out wN hbN
  go_upto_if 38 with fail
  go_cut [] from 38 (fun wc => ∃ (Ap : Option Addr) (cp : Nat), Below w.heap.size w wc ∧ Below w1.heap.size w1 wc ∧ Blk wc w.heap.size 58 nil3 ∧ Blk wc (w.heap.size + 1) 58 nil3 ∧ Blk wc N 58 #[.slice Ap np cp, .slice none 0 0, .slice none 0 0] ∧ wc.ownsRow (N + 1) 9 1 (.slice Ap np cp) np (PL.flatMap cB))
  case first =>
    by_cases hx : x = []
    · have hP := hPx1.out hx
      have hn0 : np = 0 := by rw [← hnp.out, hP]; rfl
      subst hP
      subst hn0
      subst hx
      go_wp2
      go_meet
      exact ⟨none, 0, hb0, hbN, kR, k4, kN, World.ownsRow_nil _ _ _ _⟩
    · have hP := hPx2.out hx
      have hxe : x.isEmpty = false := by cases x; exact absurd rfl hx; rfl
      have hxe2 : (!x.isEmpty) = true := by rw [hxe]; rfl
      have hnn : (splitC 44 x).length = np := by rw [← hnp.out, hP]
      have hcx2 : Hid (∀ W, Calls Tryz.prog 110 #[.string ⟨x.toArray⟩, .int .u8 (44 : Nat)] W (fun e w' => ∃ A2 c2, e = .returned (.slice A2 np c2) ∧ Below W.heap.size W w' ∧ w'.ownsRow W.heap.size 9 1 (.slice A2 np c2) np (PL.flatMap cB))) := Lib.hid (by
        intro W
        have := hcx.out W
        rw [hnn, ← hP] at this
        exact this)
      replace hx := Lib.hid hx
      replace hP := Lib.hid hP
      replace hnn := Lib.hid hnn
      go_wp2_with fail
      refine (hcx2.out _).mono ?_
      rintro e w3 ⟨A2, c2, rfl, hb3, ho3⟩
      replace hb0 := bl_tr hb0 hb3
      replace hbN := bl_tr hbN hb3
      replace kR := kR.below hb3
      replace k4 := k4.below hb3
      replace kN := kN.below hb3
      clear hb3
      have LN := kN.cell
      have FN := kN.frozen
      go_wp2
      go_meet
      have hst : BX [N] w3 (w3.setCell ⟨N, 0, none⟩ (.slice A2 np c2)) := bx_set (.inl (List.mem_singleton.2 rfl)) _ (bx_refl _ _)
      exact ⟨A2, c2, bx_below hb0 hst (by simp; omega), bx_below hbN hst (by simp; omega), kR.keep (by simp; omega) hst, k4.keep (by simp; omega) hst, by simpa using kN.set 0 (.slice A2 np c2), own_bx (own_mono hsN ho3) hst (by simp)⟩
      rename_i hq
      rw [hxe2] at hq
      cases hq
  case rest =>
    clear hb0 hbN kR k4 kN D0 hcx hPx1 hPx2
    obtain ⟨Ap, cp, hb0, hbN, kR, k4, kN, hop⟩ := hcut
    have hsP := Lib.hid (own_slC (cs := cB) (l := PL) (fun _ => rfl) (by decide) (by rw [hnp.out]; exact hop))
    replace hop := Lib.hid hop
    have hq1' := Lib.hid fun k (h : ((PL.take k).all fun p => decide (p ≠ [])) = false) => (show E = 7 from hE7.out (hq1.out (by
      have := List.take_append_drop k PL
      rw [← this, List.all_append, h]
      rfl)))
    have hstP := Lib.hid fun k p (h : PL[k]? = some p) => (show ((PL.take (k + 1)).all fun p => decide (p ≠ [])) = (((PL.take k).all fun p => decide (p ≠ [])) && decide (p ≠ [])) by
      rw [List.take_add_one, h]
      simp [List.all_append])
    have LN := kN.cell
    have hNlt := kN.lt
    go_wp2
    go_loopw [7] (fun i wr => ∃ k : Nat, k ≤ np ∧ i = .int .i64 k ∧ wr = wc ∧ Hid (((PL.take k).all fun p => decide (p ≠ [])) = true)) (fun i _ => np - (intOf i).toNat)
    case atStart => exact ⟨0, Nat.zero_le _, rfl, rfl, rfl⟩
    case round =>
      obtain ⟨k, hk, rfl, hwr, hka⟩ := hrel
      subst hwr
      by_cases hkn : k < np
      · have hx : PL[k]? = some (PL[k]'(by rw [hnp.out]; exact hkn)) := List.getElem?_eq_getElem _
        generalize PL[k]'(by rw [hnp.out]; exact hkn) = p at hx
        obtain ⟨b2, o2, rfl, hc⟩ := hsP.out k p hx
        have c0 : wr.cell? ⟨b2, o2 + k, none⟩ = some (.string ⟨p.toArray⟩) := by simpa using hc 0 _ rfl
        have hst := Lib.hid (hstP.out k p hx)
        have hkn2 : (k : Int) < np := by omega
        clear hc hx
        cases p with
        | nil =>
          have hE := Lib.hid (hq1'.out (k + 1) (by rw [hst.out]; simp))
          have L4 := k4.cell
          have LR := kR.cell
          have FR := kR.frozen
          go_wp2
          exact pnFail
        | cons p0 pr =>
          have hka2 := Lib.hid (show ((PL.take (k + 1)).all fun p => decide (p ≠ [])) = true by rw [hst.out, hka.out]; simp)
          go_wp2
          go_roundw
          case rel => exact ⟨k + 1, by omega, by go_num, by trivial, hka2⟩
          case measure => simp [intOf]; omega
      obtain rfl : np = k := by omega
      have hpa : Hid ((PL.all fun p => decide (p ≠ [])) = true) := Lib.hid (by have := hka.out; rwa [← hnp.out, List.take_length] at this)
      clear hka hkn hstP hq1' hsP
      have D1 := hd1.out wr hbN
      have hi1 := Lib.hid fun W => r_items y W (by omega)
      have hi2 := Lib.hid fun W => r_items z W (by omega)
      have hYf := Lib.hid hFew.out.fs
      have hZf := Lib.hid hFew.out.ms
      obtain ⟨YL, hYL⟩ : ∃ z, Hid (itemsL y = z) := ⟨_, rfl⟩
      obtain ⟨ZL, hZL⟩ : ∃ s, Hid (itemsL z = s) := ⟨_, rfl⟩
      rw [hYL.out] at hi1 hYf hq2 hq4 hok
      rw [hZL.out] at hi2 hZf hq3 hq5 hok
      obtain ⟨nf, hnf⟩ : ∃ z, Hid (YL.length = z) := ⟨_, rfl⟩
      obtain ⟨nm, hnm⟩ : ∃ z, Hid (ZL.length = z) := ⟨_, rfl⟩
      rw [hnf.out] at hi1 hYf
      rw [hnm.out] at hi2 hZf
      have hfl := hYf.out
      have hml := hZf.out
      obtain ⟨o1, ho1⟩ : ∃ o, Hid (itOk YL = o) := ⟨_, rfl⟩
      obtain ⟨o2, ho2⟩ : ∃ o, Hid (itOk ZL = o) := ⟨_, rfl⟩
      rw [ho1.out] at hi1 hq4
      rw [ho2.out] at hi2 hq5
      go_wp2_with fail
      refine (hi1.out _).mono ?_
      rintro e w3 ⟨hb3, hf3, ht3⟩
      have D2 := hd2.out w3 (bl_tr hbN hb3)
      replace hb0 := bl_tr hb0 hb3
      replace kR := kR.below hb3
      replace k4 := k4.below hb3
      replace kN := kN.below hb3
      replace hop := Lib.hid (own_below hop.out hb3)
      clear D1 LN hi1
      cases o1 with
      | false =>
        obtain rfl := hf3 (by trivial)
        clear hf3 ht3
        have hE := Lib.hid (hE7.out (hq4.out rfl))
        go_wp2_with fail
        refine (hi2.out _).mono ?_
        rintro e w4 ⟨hb4, hf4, ht4⟩
        replace hb0 := bl_tr hb0 hb4
        replace kR := kR.below hb4
        replace k4 := k4.below hb4
        have L4 := k4.cell
        have LR := kR.cell
        have FR := kR.frozen
        cases o2 with
        | false =>
          obtain rfl := hf4 (by trivial)
          go_wp2
          exact pnFail
        | true =>
          obtain ⟨A4, c4, rfl, ho4⟩ := ht4 (by trivial)
          go_wp2
          exact pnFail
      | true =>
        obtain ⟨A3, c3', rfl, ho3⟩ := ht3 (by trivial)
        clear hf3 ht3
        cases o2 with
        | false =>
          have hE := Lib.hid (hE7.out (hq5.out rfl))
          go_wp2_with fail
          refine (hi2.out _).mono ?_
          rintro e w4 ⟨hb4, hf4, ht4⟩
          obtain rfl := hf4 (by trivial)
          replace hb0 := bl_tr hb0 hb4
          replace kR := kR.below hb4
          replace k4 := k4.below hb4
          have L4 := k4.cell
          have LR := kR.cell
          have FR := kR.frozen
          go_wp2
          exact pnFail
        | true =>
          go_wp2_with fail
          refine (hi2.out _).mono ?_
          rintro e w4 ⟨hb4, hf4, ht4⟩
          obtain ⟨A4, c4, rfl, ho4⟩ := ht4 (by trivial)
          clear hf4 ht4 D2 hi2 hd0 hd1 hd2
          replace hb0 := bl_tr hb0 hb4
          replace kR := kR.below hb4
          replace k4 := k4.below hb4
          replace kN := kN.below hb4
          replace hop := Lib.hid (own_below hop.out hb4)
          have hNr : N + 1 ≤ wr.heap.size := hNlt
          replace ho3 := Lib.hid (own_below (own_mono hNr ho3) hb4)
          replace ho4 := Lib.hid (own_mono (Nat.le_trans hNr hb3.size) ho4)
          clear hb3 hb4 hbN
          have hN4 : N < w4.heap.size := kN.lt
          have hYs := Lib.hid fun W (hb : BX [N] w4 W) => own_slC (cs := cPs) (sz := 2) (l := YL) (fun _ => rfl) (by decide) (by rw [hnf.out]; exact own_bx ho3.out hb (by simp))
          have hZs := Lib.hid fun W (hb : BX [N] w4 W) => own_slC (cs := cPs) (sz := 2) (l := ZL) (fun _ => rfl) (by decide) (by rw [hnm.out]; exact own_bx ho4.out hb (by simp))
          have hYl := Lib.hid fun u (h : u ∈ YL) => (show u.1.length ≤ y.length ∧ u.2.length ≤ y.length from itm_len (by rw [hYL.out]; exact h))
          have hZl := Lib.hid fun u (h : u ∈ ZL) => (show u.1.length ≤ z.length ∧ u.2.length ≤ z.length from itm_len (by rw [hZL.out]; exact h))
          have hYw := Lib.hid fun u (h : u ∈ YL) => hFew.out.ws u (by rw [hYL.out]; exact h)
          have hZw := Lib.hid fun u (h : u ∈ ZL) => hFew.out.ns u (by rw [hZL.out]; exact h)
          have hYn := Lib.hid fun u (h : u ∈ YL) => (show u.1 ≠ [] by have := List.all_eq_true.1 ho1.out u h; simpa using this)
          have hZn := Lib.hid fun u (h : u ∈ ZL) => (show u.1 ≠ [] by have := List.all_eq_true.1 ho2.out u h; simpa using this)
          have hYb := Lib.hid fun u (h : u ∈ YL) (hf : fuOk u = false) => (show E = 7 from hE7.out (hq2.out (by rw [List.all_eq_false]; exact ⟨u, h, by simp [hf]⟩)))
          have hZb := Lib.hid fun u (h : u ∈ ZL) (hf : mdOk u = false) => (show E = 7 from hE7.out (hq3.out (by rw [List.all_eq_false]; exact ⟨u, h, by simp [hf]⟩)))
          have hstY := Lib.hid fun k u (h : YL[k]? = some u) => (show (YL.take (k + 1)).map fuC = (YL.take k).map fuC ++ [fuC u] ∧ (YL.take (k + 1)).all fuOk = ((YL.take k).all fuOk && fuOk u) by
            rw [List.take_add_one, h]
            simp [List.all_append])
          have hstZ := Lib.hid fun k u (h : ZL[k]? = some u) => (show (ZL.take (k + 1)).map mdC = (ZL.take k).map mdC ++ [mdC u] ∧ (ZL.take (k + 1)).all mdOk = ((ZL.take k).all mdOk && mdOk u) by
            rw [List.take_add_one, h]
            simp [List.all_append])
          clear hq1 hq2 hq3 hq4 hq5 hFew
          go_wp2
          go_loopw [12] (fun i wr => ∃ (k : Nat) (fs : List Fu) (v : Value), k ≤ nf ∧ i = .int .i64 k ∧ fs.map Fu.con = (YL.take k).map fuC ∧ Hid ((YL.take k).all fuOk = true) ∧ BX [N] w4 wr ∧ Blk wr N 58 #[.slice Ap np cp, v, .slice none 0 0] ∧ wr.ownsRow w4.heap.size 144 2 v k (fs.flatMap cFu) ∧ ∀ f ∈ fs, FuO f wr) (fun i _ => nf - (intOf i).toNat)
          case atStart => exact ⟨0, [], .slice none 0 0, Nat.zero_le _, rfl, rfl, rfl, bx_refl _ _, kN, World.ownsRow_nil _ _ _ _, fun f hf => by simp at hf⟩
          case round =>
            clear kN
            obtain ⟨k, fs, v, hk, rfl, hfs, hka, hbx, kN, how, hfo⟩ := hrel
            obtain ⟨vA, vc, rfl⟩ := own_slice how
            generalize wr = wo at *
            replace hfs := Lib.hid hfs
            replace how := Lib.hid how
            replace hfo := Lib.hid hfo
            by_cases hkn : k < nf
            · have hx : YL[k]? = some (YL[k]'(by rw [hnf.out]; exact hkn)) := List.getElem?_eq_getElem _
              generalize YL[k]'(by rw [hnf.out]; exact hkn) = u at hx
              have hm := List.mem_of_getElem? hx
              obtain ⟨g1, g2⟩ := hstY.out k u hx
              obtain ⟨b3, o3, rfl, hc⟩ := (hYs.out wo hbx) k u hx
              have c0 : ∀ W, Below wo.heap.size wo W → W.cell? ⟨b3, o3 + k * 2, none⟩ = some (.string ⟨u.1.toArray⟩) := later (by simpa using hc 0 _ rfl)
              have c1 : ∀ W, Below wo.heap.size wo W → W.cell? ⟨b3, o3 + k * 2 + 1, none⟩ = some (.string ⟨u.2.toArray⟩) := later (hc 1 _ rfl)
              have hkn2 : (k : Int) < nf := by omega
              have hyb := Lib.hid (hYb.out u hm)
              have hyn := Lib.hid (hYn.out u hm)
              obtain ⟨hl1, hl2⟩ := hYl.out u hm
              have hyw := Lib.hid (hYw.out u hm)
              rw [hka.out, Bool.true_and] at g2
              replace g1 := Lib.hid g1
              replace g2 := Lib.hid g2
              clear hc hx hm
              obtain ⟨nm1, rs⟩ := u
              dsimp only at *
              have hcr := Lib.hid fun W => r_CutB rs 44 W (by omega)
              have hmr := Lib.hid (splitC_mem 44 rs)
              have hfok : Hid (fuOk (nm1, rs) = ((splitC 44 rs).all wayOk && decide (nm1 ≠ []))) := rfl
              have hfuC : Hid (fuC (nm1, rs) = (baOf nm1, (splitC 44 rs).map wayV)) := rfl
              obtain ⟨Y5, hY5⟩ : ∃ z, Hid (splitC 44 rs = z) := ⟨_, rfl⟩
              rw [hY5.out] at hcr hyw hmr hfok hfuC
              obtain ⟨m, hm5⟩ : ∃ z, Hid (Y5.length = z) := ⟨_, rfl⟩
              rw [hm5.out] at hcr hyw
              have hml5 := hyw.out.1
              have C0 := c0 wo (bl_refl _)
              go_upto_region 23 with fail
              have kF := Blk.new wo 144 #[.string ⟨nm1.toArray⟩, .slice none 0 0]
              have hbF := bl_al (.cells #[.string ⟨nm1.toArray⟩, .slice none 0 0] 144) (bl_refl wo)
              have C1 := c1 _ hbF
              have hFs := kF.lt
              obtain ⟨F, hF⟩ : ∃ F, Hid (wo.heap.size = F) := ⟨_, rfl⟩
              have hFle : wo.heap.size ≤ F := by rw [hF.out]; exact Nat.le_refl _
              have hN4o := hbx.size
              rw [hF.out] at kF hFs ⊢
              generalize wo.alloc (.cells #[.string ⟨nm1.toArray⟩, .slice none 0 0] 144) = wF at *
              clear c0 c1 C0
              go_wp2_with fail
              refine (hcr.out _).mono ?_
              rintro e w5 ⟨A5, c5, rfl, hb5, ho5⟩
              have hbo5 := bl_tr hbF hb5
              replace kF := kF.below hb5
              have hF5 : F < w5.heap.size := kF.lt
              have hs5 := Lib.hid fun W (hb : BX [F] w5 W) => own_slC (cs := cB) (sz := 1) (l := Y5) (fun _ => rfl) (by decide) (by rw [hm5.out]; exact own_bx ho5 hb (by simp; exact hFs))
              have hb05 := Lib.hid (bl_tr (bx_below hb0 hbx (by simp; omega)) hbo5)
              have kR5 := Lib.hid ((kR.keep (by simp; omega) hbx).below hbo5)
              have k45 := Lib.hid ((k4.keep (by simp; omega) hbx).below hbo5)
              have hst5 := Lib.hid fun j q (h : Y5[j]? = some q) => (show (Y5.take (j + 1)).map wayV = (Y5.take j).map wayV ++ [wayV q] ∧ (Y5.take (j + 1)).all wayOk = ((Y5.take j).all wayOk && wayOk q) by
                rw [List.take_add_one, h]
                simp [List.all_append])
              have hbad5 := Lib.hid fun q (h : q ∈ Y5) (hw : wayOk q = false) => (show E = 7 from hyb.out (by rw [hfok.out, List.all_eq_false.2 ⟨q, h, by simp [hw]⟩]; rfl))
              clear C1 hb5 ho5 hcr hbF
              go_wp2
              go_loopw [15] (fun i W => ∃ (j : Nat) (ws : List Rw) (vw : Value), j ≤ m ∧ i = .int .i64 j ∧ ws.map (fun r : Rw => r.l) = (Y5.take j).map wayV ∧ Hid ((Y5.take j).all wayOk = true) ∧ BX [F] w5 W ∧ Blk W F 144 #[.string ⟨nm1.toArray⟩, vw] ∧ W.ownsRow w5.heap.size 23 1 vw j (ws.flatMap cRw) ∧ ∀ r ∈ ws, RwO r W) (fun i _ => m - (intOf i).toNat)
              case atStart => exact ⟨0, [], .slice none 0 0, Nat.zero_le _, rfl, rfl, rfl, bx_refl _ _, kF, World.ownsRow_nil _ _ _ _, fun f hf => by simp at hf⟩
              case round =>
                clear kF
                obtain ⟨j, ws, vw, hj, rfl, hws, hja, hbi, kF, hoW, hrw⟩ := hrel
                obtain ⟨vwA, vwc, rfl⟩ := own_slice hoW
                replace hws := Lib.hid hws
                replace hoW := Lib.hid hoW
                replace hrw := Lib.hid hrw
                by_cases hjm : j < m
                · have hx : Y5[j]? = some (Y5[j]'(by rw [hm5.out]; exact hjm)) := List.getElem?_eq_getElem _
                  generalize Y5[j]'(by rw [hm5.out]; exact hjm) = q at hx
                  have hm := List.mem_of_getElem? hx
                  obtain ⟨e1, e2⟩ := hst5.out j q hx
                  obtain ⟨b6, o6, rfl, hc⟩ := (hs5.out wr hbi) j q hx
                  have c0 : wr.cell? ⟨b6, o6 + j, none⟩ = some (.string ⟨q.toArray⟩) := by simpa using hc 0 _ rfl
                  have hql := hmr.out q hm
                  have hjm2 : (j : Int) < m := by omega
                  have hVl := Nat.le_trans (wayV_len q) (hyw.out.2 q hm)
                  have hqb := Lib.hid (hbad5.out q hm)
                  rw [hja.out, Bool.true_and] at e2
                  replace e1 := Lib.hid e1
                  replace e2 := Lib.hid e2
                  have hix := Lib.hid (r_indexes q wr (by omega))
                  clear hc hx hm
                  obtain ⟨V, hV⟩ : ∃ z, Hid (wayV q = z) := ⟨_, rfl⟩
                  obtain ⟨ok, hok'⟩ : ∃ z, Hid (wayOk q = z) := ⟨_, rfl⟩
                  rw [hV.out] at hix hVl e1
                  rw [hok'.out] at hix e2 hqb
                  obtain ⟨vl, hvl⟩ : ∃ z, Hid (V.length = z) := ⟨_, rfl⟩
                  rw [hvl.out] at hix hVl
                  go_wp2_with fail
                  refine hix.out.mono ?_
                  rintro e w6 ⟨hb6, A6, c6, rfl, ho6⟩
                  cases ok with
                  | false =>
                    have hE := Lib.hid (hqb.out rfl)
                    have hb0 := bl_tr (bx_below hb05.out hbi (by simp; omega)) hb6
                    have kR := (kR5.out.keep (by simp; omega) hbi).below hb6
                    have k4 := (k45.out.keep (by simp; omega) hbi).below hb6
                    have L4 := k4.cell
                    have LR := kR.cell
                    have FR := kR.frozen
                    go_wp2
                    exact pnFail
                  | true =>
                    have kF6 := kF.below hb6
                    have hbi6 : BX [F] w5 w6 := hbi.step hb6
                    have hoA := Lib.hid (own_below (own_below hoW.out hb6) (bl_al (.cells #[.slice A6 vl c6] 23) (bl_refl w6)))
                    have hszA := hbi6.size
                    have LF := kF6.cell
                    clear c0 hix
                    go_wp2_with (at_builtin; refine wpList_append_own2 rfl _ _ 53 rfl w5.heap.size 23 i3 (.slice none 0 0) 1 24 Tryz.underlying53 hi3' hl0 hl1' hl2' rfl (by decide) _ _ _ rfl hoA.out ⟨_, 0, none⟩ 1 1 [.slice A6 vl c6] rfl rfl ?c1 ?c2 ?c3 ?c4 ?c5 ?_)
                    try case c1 =>
                      intro q u hq
                      match q, hq with
                      | 0, hq => simp at hq; subst hq; simp [Addr.add]
                      | q + 1, hq => simp at hq
                    case c2 => first | (intro u hu; simp at hu; subst hu; rfl) | rfl
                    case c3 => unfold maxLen; omega
                    case c4 => omega
                    case c5 => first | omega | (simp; omega)
                    intro v9 w9 hown hg2 hd2
                    obtain ⟨A9, c9, rfl⟩ := own_slice hown
                    have hown9 := Lib.hid hown
                    have kF9 := (kF6.below (bl_al (.cells #[.slice A6 vl c6] 23) (bl_refl w6))).grown hg2 (ne_own hoA.out hF5)
                    have hbx9 : BX [F] w5 w9 := bx_grownP (bx_al (.cells #[.slice A6 vl c6] 23) hbi6) hg2 (own_ge hoA.out)
                    have hr9 := Lib.hid fun r (hr : RwO r w6) => (hr.below (bl_al (.cells #[.slice A6 vl c6] 23) (bl_refl w6))).grown hoA.out (show 23 ≠ 3 by decide) hg2
                    have hws9 := Lib.hid (show (ws ++ [(⟨A6, c6, V⟩ : Rw)]).map (fun r : Rw => r.l) = (Y5.take (j + 1)).map wayV by rw [List.map_append, hws.out, e1.out]; rfl)
                    have hro9 : ∀ r ∈ ws ++ [(⟨A6, c6, V⟩ : Rw)], RwO r w9 := fun r hr => by
                      rcases List.mem_append.1 hr with hr | hr
                      · exact hr9.out r ((hrw.out r hr).below hb6)
                      · have := List.mem_singleton.1 hr
                        subst this
                        exact hr9.out _ ⟨by rw [hvl.out]; exact hVl, own_mono (Nat.zero_le _) (by rw [hvl.out]; exact ho6)⟩
                    have hY9 := noT_blk kF9 (show 144 ≠ 3 by decide) (noT_nil w9 _)
                    replace hro9 := Lib.hid hro9
                    have LF9 := kF9.cell
                    have FF9 := kF9.frozen
                    clear hown hg2 hd2 hoA LF hr9 ho6
                    go_wp2
                    have hst9 : BX [F] w9 (w9.setCell ⟨F, 1, none⟩ (.slice A9 (j + 1) c9)) := bx_set (.inl (List.mem_singleton.2 rfl)) _ (bx_refl _ _)
                    go_roundw
                    case rel => exact ⟨j + 1, ws ++ [(⟨A6, c6, V⟩ : Rw)], .slice A9 (j + 1) c9, by omega, by go_num, hws9.out, Lib.hid e2.out, bx_set (.inl (List.mem_singleton.2 rfl)) _ hbx9, by simpa using kF9.set 1 (.slice A9 (j + 1) c9), by
                      have := own_bx hown9.out hst9 (by simp; exact hF5)
                      rw [List.flatMap_append]
                      rw [← hvl.out] at this
                      exact this, fun r hr => (hro9.out r hr).keep hst9 hY9⟩
                    case measure => simp [intOf]; omega
                · obtain rfl : m = j := by omega
                  have hws9 := Lib.hid (show ws.map (fun r : Rw => r.l) = Y5.map wayV by rw [hws.out, ← hm5.out, List.take_length])
                  have hwl9 : Hid (ws.length = m) := Lib.hid (by have := congrArg List.length hws9.out; simpa [hm5.out] using this)
                  have hall : Hid (fuOk (nm1, rs) = true) := Lib.hid (by
                    have h1 := hja.out
                    rw [← hm5.out, List.take_length] at h1
                    rw [hfok.out, h1]
                    simpa using hyn.out)
                  have hka9 := Lib.hid (show (YL.take (k + 1)).all fuOk = true by rw [g2.out, hall.out])
                  have Bo := bx_below hbo5 hbi (by simp; exact hFle)
                  have hfnew : Hid (FuO ⟨baOf nm1, vwA, vwc, ws⟩ wr) := Lib.hid ⟨by show nm1.length ≤ maxLen; unfold maxLen; omega, by show ws.length ≤ 1000; rw [hwl9.out]; exact hml5, by show wr.ownsRow 0 _ 1 (.slice vwA ws.length vwc) ws.length _; rw [hwl9.out]; exact own_mono (Nat.zero_le _) hoW.out, hrw.out⟩
                  have hfon := Lib.hid fun f (hf : f ∈ fs ++ [(⟨baOf nm1, vwA, vwc, ws⟩ : Fu)]) => (show FuO f wr by
                    rcases List.mem_append.1 hf with hf | hf
                    · exact (hfo.out f hf).below Bo
                    · have := List.mem_singleton.1 hf
                      subst this
                      exact hfnew.out)
                  have hfs9 := Lib.hid (show (fs ++ [(⟨baOf nm1, vwA, vwc, ws⟩ : Fu)]).map Fu.con = (YL.take (k + 1)).map fuC by
                    rw [List.map_append, hfs.out, g1.out, hfuC.out, ← hws9.out]; rfl)
                  have kNr := kN.below Bo
                  have hoA := Lib.hid (own_below (own_below how.out Bo) (bl_al (.cells #[.string ⟨nm1.toArray⟩, .slice vwA m vwc] 144) (bl_refl wr)))
                  have hbxr : BX [N] w4 wr := hbx.step Bo
                  have hszA := hbxr.size
                  have LF := kF.cell
                  have LN := kNr.cell
                  clear hjm hk hs5 hbad5 hst5 hmr hyw hyb hyn hfok
                  go_wp2_with (at_builtin; refine wpList_append_own2 rfl _ _ 55 rfl w4.heap.size 144 i1 (.agg #[.string ByteArray.empty, .slice none 0 0]) 2 40 Tryz.underlying55 hi1' hy0 hy1 hy2 rfl (by decide) _ _ _ rfl hoA.out ⟨_, 0, none⟩ 1 1 [.string ⟨nm1.toArray⟩, .slice vwA m vwc] rfl rfl ?d1 ?d2 ?d3 ?d4 ?d5 ?_)
                  try case d1 =>
                    intro q u hq
                    match q, hq with
                    | 0, hq => simp at hq; subst hq; simp [Addr.add]
                    | 1, hq => simp at hq; subst hq; simp [Addr.add]
                    | q + 2, hq => simp at hq
                  case d2 => first | (intro u hu; simp at hu; rcases hu with rfl | rfl <;> rfl) | rfl
                  case d3 => unfold maxLen; omega
                  case d4 => omega
                  case d5 => first | omega | (simp; omega)
                  intro v9 w9 hown hg2 hd2
                  obtain ⟨A9, c9, rfl⟩ := own_slice hown
                  have hown9 := Lib.hid hown
                  have kN9 := (kNr.below (bl_al (.cells #[.string ⟨nm1.toArray⟩, .slice vwA m vwc] 144) (bl_refl wr))).grown hg2 (ne_own hoA.out hN4)
                  have hbx9 : BX [N] w4 w9 := bx_grownP (bx_al (.cells #[.string ⟨nm1.toArray⟩, .slice vwA m vwc] 144) hbxr) hg2 (own_ge hoA.out)
                  have hfo9 := Lib.hid fun f (hf : f ∈ fs ++ [(⟨baOf nm1, vwA, vwc, ws⟩ : Fu)]) => ((hfon.out f hf).below (bl_al (.cells #[.string ⟨nm1.toArray⟩, .slice vwA m vwc] 144) (bl_refl wr))).grown hoA.out (show 144 ≠ 3 by decide) (show 144 ≠ 23 by decide) hg2
                  have hY9 := noT_blk kN9 (show 58 ≠ 3 by decide) (noT_nil w9 _)
                  have hZ9 := noT_blk kN9 (show 58 ≠ 23 by decide) (noT_nil w9 _)
                  have LN9 := kN9.cell
                  have FN9 := kN9.frozen
                  clear hown hg2 hd2 hoA LF LN hfon hfnew
                  go_wp2
                  have hst9 : BX [N] w9 (w9.setCell ⟨N, 1, none⟩ (.slice A9 (k + 1) c9)) := bx_set (.inl (List.mem_singleton.2 rfl)) _ (bx_refl _ _)
                  go_roundw
                  case rel => exact ⟨k + 1, fs ++ [(⟨baOf nm1, vwA, vwc, ws⟩ : Fu)], .slice A9 (k + 1) c9, by omega, by go_num, hfs9.out, hka9, bx_set (.inl (List.mem_singleton.2 rfl)) _ hbx9, by simpa using kN9.set 1 (.slice A9 (k + 1) c9), by
                    have := own_bx hown9.out hst9 (by simp; exact hN4)
                    rw [← hwl9.out] at this
                    rw [List.flatMap_append]
                    exact this, fun f hf => (hfo9.out f hf).keep hst9 hY9 hZ9⟩
                  case measure => simp [intOf]; omega
            · obtain rfl : nf = k := by omega
              have hfs9 := Lib.hid (show fs.map Fu.con = YL.map fuC by rw [hfs.out, ← hnf.out, List.take_length])
              have hfall := Lib.hid (show YL.all fuOk = true by have := hka.out; rwa [← hnf.out, List.take_length] at this)
              have hfl9 : Hid (fs.length = nf) := Lib.hid (by have := congrArg List.length hfs9.out; simpa [hnf.out] using this)
              clear hfs hka hkn hYs hYl hYw hYn hYb hstY
              have hb0o := bx_below hb0 hbx (by simp; omega)
              have kRo := kR.keep (by simp; omega) hbx
              have k4o := k4.keep (by simp; omega) hbx
              have hNo : N < wo.heap.size := kN.lt
              have kNo := Lib.hid kN
              have hszo := hbx.size
              go_wp2
              go_loopw [18] (fun i W => ∃ (k : Nat) (ms : List Md) (v : Value), k ≤ nm ∧ i = .int .i64 k ∧ ms.map Md.con = (ZL.take k).map mdC ∧ Hid ((ZL.take k).all mdOk = true) ∧ BX [N] wo W ∧ Blk W N 58 #[.slice Ap np cp, .slice vA nf vc, v] ∧ W.ownsRow wo.heap.size 146 2 v k (ms.flatMap cMd) ∧ ∀ f ∈ ms, MdO f W) (fun i _ => nm - (intOf i).toNat)
              case atStart => exact ⟨0, [], .slice none 0 0, Nat.zero_le _, rfl, rfl, rfl, bx_refl _ _, kN, World.ownsRow_nil _ _ _ _, fun f hf => by simp at hf⟩
              case round =>
                clear kN
                obtain ⟨k, ms, v, hk, rfl, hms, hka, hbw, kN, hov, hmo⟩ := hrel
                obtain ⟨uA, uc, rfl⟩ := own_slice hov
                replace hms := Lib.hid hms
                replace hov := Lib.hid hov
                replace hmo := Lib.hid hmo
                have hbx4 := bx_trP hbx hbw (fun y hy => .inl hy)
                by_cases hkn : k < nm
                · have hx : ZL[k]? = some (ZL[k]'(by rw [hnm.out]; exact hkn)) := List.getElem?_eq_getElem _
                  generalize ZL[k]'(by rw [hnm.out]; exact hkn) = u at hx
                  have hm := List.mem_of_getElem? hx
                  obtain ⟨g1, g2⟩ := hstZ.out k u hx
                  obtain ⟨b3, o3, rfl, hc⟩ := (hZs.out wr hbx4) k u hx
                  have c0 : ∀ W, Below wr.heap.size wr W → W.cell? ⟨b3, o3 + k * 2, none⟩ = some (.string ⟨u.1.toArray⟩) := later (by simpa using hc 0 _ rfl)
                  have c1 : ∀ W, Below wr.heap.size wr W → W.cell? ⟨b3, o3 + k * 2 + 1, none⟩ = some (.string ⟨u.2.toArray⟩) := later (hc 1 _ rfl)
                  have hkn2 : (k : Int) < nm := by omega
                  have hzb := Lib.hid (hZb.out u hm)
                  have hzn := Lib.hid (hZn.out u hm)
                  obtain ⟨hl1, hl2⟩ := hZl.out u hm
                  have hzw := hZw.out u hm
                  rw [hka.out, Bool.true_and] at g2
                  replace g1 := Lib.hid g1
                  replace g2 := Lib.hid g2
                  clear hc hx hm
                  obtain ⟨nm1, rs⟩ := u
                  dsimp only at *
                  have hix := Lib.hid fun W => r_indexes rs W (by omega)
                  have hmdk : Hid (mdOk (nm1, rs) = (ndOk rs && decide (nm1 ≠ []))) := rfl
                  have hmdC : Hid (mdC (nm1, rs) = (baOf nm1, ndV rs)) := rfl
                  have hVl := Nat.le_trans (wayV_len rs) hzw
                  have C0 := c0 wr (bl_refl _)
                  go_upto_region 36 with fail
                  have kM := Blk.new wr 146 #[.string ⟨nm1.toArray⟩, .slice none 0 0]
                  have hbM := bl_al (.cells #[.string ⟨nm1.toArray⟩, .slice none 0 0] 146) (bl_refl wr)
                  have C1 := c1 _ hbM
                  have hMs := kM.lt
                  obtain ⟨M, hM⟩ : ∃ M, Hid (wr.heap.size = M) := ⟨_, rfl⟩
                  have hMle : wr.heap.size ≤ M := by rw [hM.out]; exact Nat.le_refl _
                  have hNwr := hbw.size
                  rw [hM.out] at kM hMs ⊢
                  generalize wr.alloc (.cells #[.string ⟨nm1.toArray⟩, .slice none 0 0] 146) = wM at *
                  clear c0 C0
                  have C2 := fun W (hb : Below wr.heap.size wr W) => c1 W hb
                  clear c1
                  by_cases hrs : rs = []
                  case' pos =>
                    subst hrs
                    have hix' := hix
                    clear C2 hix hVl hzw
                    go_upto_region 41 with fail
                    obtain ⟨A6, c6, V, vl, kM, hvl, hVe, hVk, hrow⟩ : ∃ (A6 : Option Addr) (c6 : Nat) (V : List Int) (vl : Nat), Blk wM M 146 #[.string ⟨nm1.toArray⟩, .slice A6 vl c6] ∧ Hid (V.length = vl) ∧ Hid (V = ndV []) ∧ Hid (ndOk [] = true) ∧ Hid (RwO ⟨A6, c6, V⟩ wM) := ⟨none, 0, [], 0, kM, rfl, rfl, rfl, Lib.hid ⟨by simp, World.ownsRow_nil _ _ _ _⟩⟩
                    clear C1
                  case' neg =>
                    have hre : rs.isEmpty = false := by cases rs; exact absurd rfl hrs; rfl
                    have hre2 : (!rs.isEmpty) = true := by rw [hre]; rfl
                    have hndk : ndOk rs = wayOk rs := by unfold ndOk; rw [if_neg hrs]
                    have hndv : ndV rs = wayV rs := by unfold ndV; rw [if_neg hrs]
                    rw [← hndk, ← hndv] at hix
                    rw [← hndv] at hVl
                    replace hrs := Lib.hid hrs
                    replace hndk := Lib.hid hndk
                    replace hndv := Lib.hid hndv
                    obtain ⟨V, hVe⟩ : ∃ z, Hid (z = ndV rs) := ⟨_, rfl⟩
                    obtain ⟨ok, hok'⟩ : ∃ z, Hid (z = ndOk rs) := ⟨_, rfl⟩
                    rw [← hVe.out, ← hok'.out] at hix
                    rw [← hVe.out] at hVl
                    obtain ⟨vl, hvl⟩ : ∃ z, Hid (V.length = z) := ⟨_, rfl⟩
                    rw [hvl.out] at hix hVl
                    go_wp2_with fail
                    refine (hix.out _).mono ?_
                    rintro e w6 ⟨hb6, A6, c6, rfl, ho6⟩
                    cases ok
                    · have hE := Lib.hid (hzb.out (by rw [hmdk.out, ← hok'.out]; rfl))
                      have hbq := bl_tr hbM hb6
                      have hb0 := bl_tr (bx_below hb0o hbw (by simp; omega)) hbq
                      have kR := (kRo.keep (by simp; omega) hbw).below hbq
                      have k4 := (k4o.keep (by simp; omega) hbw).below hbq
                      have L4 := k4.cell
                      have LR := kR.cell
                      have FR := kR.frozen
                      go_wp2
                      exact pnFail
                    have hVk := Lib.hid hok'.out.symm
                    have kM6 := kM.below hb6
                    have LM := kM6.cell
                    have FM := kM6.frozen
                    have hM6 : M < w6.heap.size := kM6.lt
                    go_upto_region 41 with fail
                    have hstM : BX [M] w6 (w6.setCell ⟨M, 1, none⟩ (.slice A6 vl c6)) := bx_set (.inl (List.mem_singleton.2 rfl)) _ (bx_refl _ _)
                    have hrow : Hid (RwO ⟨A6, c6, V⟩ (w6.setCell ⟨M, 1, none⟩ (.slice A6 vl c6))) := Lib.hid ⟨by rw [hvl.out]; exact hVl, by show ((w6.setCell ⟨M, 1, none⟩ (.slice A6 vl c6))).ownsRow 0 _ 1 (.slice A6 V.length c6) V.length _; rw [hvl.out]; exact own_mono (Nat.zero_le _) (own_bx ho6 hstM (by simp; exact hMs))⟩
                    have hbM9 := bx_below (bl_tr hbM hb6) hstM (by simp; exact hMle)
                    clear hbM
                    have hbM := hbM9
                    replace kM : Blk (w6.setCell ⟨M, 1, none⟩ (.slice A6 vl c6)) M 146 #[.string ⟨nm1.toArray⟩, .slice A6 vl c6] := by simpa using kM6.set 1 (.slice A6 vl c6)
                    clear kM6 LM FM C1 C2 hb6 hstM ho6 hbM9 hix hVl
                    generalize w6.setCell ⟨M, 1, none⟩ (.slice A6 vl c6) = wM at *
                  all_goals
                    have hka9 := Lib.hid (show (ZL.take (k + 1)).all mdOk = true by rw [g2.out, hmdk.out, hVk.out]; simpa using hzn.out)
                    have hmnew : Hid (MdO ⟨baOf nm1, ⟨A6, c6, V⟩⟩ wM) := Lib.hid ⟨by show nm1.length ≤ maxLen; unfold maxLen; omega, hrow.out⟩
                    have hmon := Lib.hid fun f (hf : f ∈ ms ++ [(⟨baOf nm1, ⟨A6, c6, V⟩⟩ : Md)]) => (show MdO f wM by
                      rcases List.mem_append.1 hf with hf | hf
                      · exact (hmo.out f hf).below hbM
                      · have := List.mem_singleton.1 hf
                        subst this
                        exact hmnew.out)
                    have hms9 := Lib.hid (show (ms ++ [(⟨baOf nm1, ⟨A6, c6, V⟩⟩ : Md)]).map Md.con = (ZL.take (k + 1)).map mdC by
                      rw [List.map_append, hms.out, g1.out, hmdC.out, ← hVe.out]; rfl)
                    have kNr := kN.below hbM
                    have hoA := Lib.hid (own_below (own_below hov.out hbM) (bl_al (.cells #[.string ⟨nm1.toArray⟩, .slice A6 vl c6] 146) (bl_refl wM)))
                    have hbxr : BX [N] wo wM := hbw.step hbM
                    have hszA := hbxr.size
                    have LM := kM.cell
                    have LN := kNr.cell
                    clear hmdk hzb hzn hk
                    go_wp2_with (at_builtin; refine wpList_append_own2 rfl _ _ 56 rfl wo.heap.size 146 i2 (.agg #[.string ByteArray.empty, .slice none 0 0]) 2 40 Tryz.underlying56 hi2' hm0 hm1 hm2 rfl (by decide) _ _ _ rfl hoA.out ⟨_, 0, none⟩ 1 1 [.string ⟨nm1.toArray⟩, .slice A6 vl c6] rfl rfl ?d1 ?d2 ?d3 ?d4 ?d5 ?_)
                    try case d1 =>
                      intro q u hq
                      match q, hq with
                      | 0, hq => simp at hq; subst hq; simp [Addr.add]
                      | 1, hq => simp at hq; subst hq; simp [Addr.add]
                      | q + 2, hq => simp at hq
                    case d2 => first | (intro u hu; simp at hu; rcases hu with rfl | rfl <;> rfl) | rfl
                    case d3 => unfold maxLen; omega
                    case d4 => omega
                    case d5 => first | omega | (simp; omega)
                    intro v9 w9 hown hg2 hd2
                    obtain ⟨A9, c9, rfl⟩ := own_slice hown
                    have hown9 := Lib.hid hown
                    have kN9 := (kNr.below (bl_al (.cells #[.string ⟨nm1.toArray⟩, .slice A6 vl c6] 146) (bl_refl wM))).grown hg2 (ne_own hoA.out hNo)
                    have hbx9 : BX [N] wo w9 := bx_grownP (bx_al (.cells #[.string ⟨nm1.toArray⟩, .slice A6 vl c6] 146) hbxr) hg2 (own_ge hoA.out)
                    have hmo9 := Lib.hid fun f (hf : f ∈ ms ++ [(⟨baOf nm1, ⟨A6, c6, V⟩⟩ : Md)]) => ((hmon.out f hf).below (bl_al (.cells #[.string ⟨nm1.toArray⟩, .slice A6 vl c6] 146) (bl_refl wM))).grown hoA.out (show 146 ≠ 3 by decide) hg2
                    have hY9 := noT_blk kN9 (show 58 ≠ 3 by decide) (noT_nil w9 _)
                    have LN9 := kN9.cell
                    have FN9 := kN9.frozen
                    clear hown hg2 hd2 hoA LM LN hmon hmnew
                    go_wp2
                    have hst9 : BX [N] w9 (w9.setCell ⟨N, 2, none⟩ (.slice A9 (k + 1) c9)) := bx_set (.inl (List.mem_singleton.2 rfl)) _ (bx_refl _ _)
                    go_roundw
                    case rel => exact ⟨k + 1, ms ++ [(⟨baOf nm1, ⟨A6, c6, V⟩⟩ : Md)], .slice A9 (k + 1) c9, by omega, by go_num, hms9.out, hka9, bx_set (.inl (List.mem_singleton.2 rfl)) _ hbx9, by simpa using kN9.set 2 (.slice A9 (k + 1) c9), by
                      have := own_bx hown9.out hst9 (by simp; exact hNo)
                      rw [← hvl.out] at this
                      rw [List.flatMap_append]
                      exact this, fun f hf => (hmo9.out f hf).keep hst9 hY9⟩
                    case measure => simp [intOf]; omega
                · obtain rfl : nm = k := by omega
                  have hms9 := Lib.hid (show ms.map Md.con = ZL.map mdC by rw [hms.out, ← hnm.out, List.take_length])
                  have hmall := Lib.hid (show ZL.all mdOk = true by have := hka.out; rwa [← hnm.out, List.take_length] at this)
                  have hml9 : Hid (ms.length = nm) := Lib.hid (by have := congrArg List.length hms9.out; simpa [hnm.out] using this)
                  have hpl9 : Hid ((PL.map baOf).length = np) := Lib.hid (by rw [List.length_map, hnp.out])
                  have hcn : Hid (({ ps := PL.map baOf, fs := fs, ms := ms } : Nt).cn = ntC x y z) := Lib.hid (by
                    show (⟨PL.map baOf, fs.map Fu.con, ms.map Md.con⟩ : NC) = ⟨(partsL x).map baOf, (itemsL y).map fuC, (itemsL z).map mdC⟩
                    rw [hPL.out, hYL.out, hZL.out, hfs9.out, hms9.out])
                  have hO1 := noT_blk kNo.out (show 58 ≠ 3 by decide) (noT_nil wo _)
                  have hO2 := noT_blk kNo.out (show 58 ≠ 23 by decide) (noT_nil wo _)
                  have hnt : Hid (NtOw { ps := PL.map baOf, fs := fs, ms := ms } Ap vA uA cp vc uc wr) := Lib.hid ⟨by show (PL.map baOf).length ≤ 1000; rw [hpl9.out]; exact hnpl, by show fs.length ≤ 1000; rw [hfl9.out]; exact hfl, by show ms.length ≤ 1000; rw [hml9.out]; exact hml,
                    by show wr.ownsRow 0 _ 1 (.slice Ap (PL.map baOf).length cp) (PL.map baOf).length _; rw [hpl9.out, strs_len]; exact own_mono (Nat.zero_le _) (own_bx hop.out hbx4 (by simp)),
                    by show wr.ownsRow 0 _ 2 (.slice vA fs.length vc) fs.length _; rw [hfl9.out]; exact own_mono (Nat.zero_le _) (own_bx how.out hbw (by simp; exact hN4)),
                    by show wr.ownsRow 0 _ 2 (.slice uA ms.length uc) ms.length _; rw [hml9.out]; exact own_mono (Nat.zero_le _) hov.out,
                    fun s hs => by
                      obtain ⟨p, hp, rfl⟩ := List.mem_map.1 hs
                      show p.length ≤ maxLen
                      have := hPm.out p hp
                      unfold maxLen
                      omega,
                    fun f hf => (hfo.out f hf).keep hbw hO1 hO2, hmo.out⟩
                  have hEn : Hid (E = netErr { ps := PL.map baOf, fs := fs, ms := ms }) := Lib.hid (by
                    have h := (ntEq_cn (n := mkNt (ntC x y z)) (m := { ps := PL.map baOf, fs := fs, ms := ms })).2 (by rw [hcn.out, mk_cn])
                    rw [hEg.out (hok.out hpa.out hfall.out hmall.out), h.err])
                  have hne : Hid (Calls Tryz.prog 32 #[.agg #[.slice Ap np cp, .slice vA nf vc, .slice uA nm uc]] wr (Ret (.int .i64 E) wr)) := Lib.hid (by
                    have h := r_NetErr _ _ _ _ _ _ _ wr hnt.out.net
                    rw [← hEn.out] at h
                    dsimp only [vNt] at h
                    rw [hpl9.out, hfl9.out, hml9.out] at h
                    exact h)
                  have hb0w := bx_below hb0o hbw (by simp; omega)
                  have kRw := kRo.keep (by simp; omega) hbw
                  have k4w := k4o.keep (by simp; omega) hbw
                  have LN := kN.cell
                  clear hbx hbw hbx4 hO1 hO2 hk hkn hmall hfall hka hms hb0 hb0o kR kRo k4 k4o
                  go_wp2_with fail
                  refine hne.out.mono ?_
                  rintro e w6 ⟨rfl, hb6⟩
                  have kR := kRw.below hb6
                  have k4 := k4w.below hb6
                  have kN6 := kN.below hb6
                  have hb0 := bl_tr hb0w hb6
                  have L4 := k4.cell
                  have LR := kR.cell
                  have FR := kR.frozen
                  clear LN
                  have LN6 := kN6.cell
                  by_cases hE0 : E = 0
                  · subst hE0
                    go_wp2
                    refine absPN (fun W => BX [w.heap.size] w6 W ∧ Blk W w.heap.size 58 #[.slice Ap np cp, .slice vA nf vc, .slice uA nm uc]) ⟨bx_set (.inl (List.mem_singleton.2 rfl)) _ (bx_set (.inl (List.mem_singleton.2 rfl)) _ (bx_set (.inl (List.mem_singleton.2 rfl)) _ (bx_refl _ _))), by simpa using ((kR.set 0 (.slice Ap np cp)).set 1 (.slice vA nf vc)).set 2 (.slice uA nm uc)⟩ fun W ⟨hbz, kr⟩ => ?_
                    have hr := kr.cell
                    refine bodyPost_ret (v := .tuple #[.agg #[.slice Ap np cp, .slice vA nf vc, .slice uA nm uc], .int .i64 0]) (by simp [results, Tryz.results52, go_sem, hr]) rfl ⟨bx_below hb0 hbz (by simp), ?_⟩
                    have hfin : ∃ (n : Nt) (Bp Bf Bm : Option Addr) (dp df dm : Nat), n.cn = ntC x y z ∧ NtOw n Bp Bf Bm dp df dm W ∧ (Ending.returned (.tuple #[.agg #[.slice Ap np cp, .slice vA nf vc, .slice uA nm uc], .int .i64 0]) = .returned (.tuple #[.agg #[.slice Bp n.ps.length dp, .slice Bf n.fs.length df, .slice Bm n.ms.length dm], .int .i64 0])) :=
                      ⟨{ ps := PL.map baOf, fs := fs, ms := ms }, Ap, vA, uA, cp, vc, uc, hcn.out, (hnt.out.below hb6).keep hbz (fun e he => noT_blk kR (by rcases he with rfl | rfl | rfl | rfl | rfl <;> decide) (noT_nil w6 _)), by show _ = Ending.returned (.tuple #[.agg #[.slice Ap (PL.map baOf).length cp, .slice vA fs.length vc, .slice uA ms.length uc], .int .i64 0]); rw [hpl9.out, hfl9.out, hml9.out]⟩
                    first | exact hfin | exact ⟨fun h => absurd rfl h, fun _ => hfin⟩ | exact fun _ => hfin | simpa using hfin
                  · have hne0 : (E != 0) = true := by simp [hE0]
                    replace hE0 := Lib.hid hE0
                    go_wp2
                    refine absPN (fun W' => Below w.heap.size w W' ∧ Blk W' w.heap.size 58 nil3) ⟨bx_below hb0 (bx_set (.inl (List.mem_singleton.2 rfl)) _ (bx_set (.inl (List.mem_singleton.2 rfl)) _ (bx_set (.inl (List.mem_singleton.2 rfl)) _ (bx_refl [w.heap.size] _)))) (by simp), by simpa using ((kR.set 0 (.slice none 0 0)).set 1 (.slice none 0 0)).set 2 (.slice none 0 0)⟩ fun W' hW' => ?_
                    obtain ⟨hb', kr⟩ := hW'
                    have hr := kr.cell
                    refine bodyPost_ret (v := .tuple #[.agg nil3, .int .i64 E]) (by simp [results, Tryz.results52, go_sem, hr]) rfl ⟨hb', fun _ => rfl, fun h => absurd h hE0.out⟩
end Go.Proofs.YtbdgblnccjpahaaGreatDoor
namespace Go.Proofs.YtbdgblnccjpahaaGreatDoor
open Go.RowKit
attribute [local go_sem] bl_al bl_drew bl_drewN bl_refl bx_al bx_drew bx_drewN bx_refl
set_option maxRecDepth 20000
set_option maxHeartbeats 4000000 in
theorem r_SameStreamsE (l : List Sm) (A B : Option Addr) (c d : Nat) (w : World) (ha : Sl cSm 4 w A l) (hb : Sl cSm 4 w B l) (h1 : l.length ≤ 1000) :
    Calls Tryz.prog 18 #[.slice A l.length c, .slice B l.length d] w (Ret (.bool true) w) := by
  have Ha := Lib.hid ha
  have Hb := Lib.hid hb
  clear ha hb
  obtain ⟨n, Hn⟩ : ∃ n, Hid (l.length = n) := ⟨_, rfl⟩
  rw [Hn.out] at h1 ⊢
  go_enter Tryz.func18, Tryz.ntmps18
  go_wp2
  go_loopw [5] (fun i wr => ∃ k : Nat, k ≤ n ∧ i = .int .i64 k ∧ Below w.heap.size w wr) (fun i _ => n - (intOf i).toNat)
  case atStart => exact ⟨0, Nat.zero_le _, rfl, Below.refl _ _⟩
  case round =>
    obtain ⟨k, hk, rfl, hbw⟩ := hrel
    by_cases hlt : k < n
    · have hx : l[k]? = some (l[k]'(by rw [Hn.out]; exact hlt)) := List.getElem?_eq_getElem _
      generalize l[k]'(by rw [Hn.out]; exact hlt) = x at hx
      obtain ⟨ba, oa, hA, hca⟩ := Ha.out k x hx
      obtain ⟨bb, ob, hB, hcb⟩ := Hb.out k x hx
      obtain ⟨nm, per, dl, ln⟩ := x
      have c0 : ∀ W, Below wr.heap.size wr W → W.cell? ⟨ba, oa + k * 4, none⟩ = some (.string nm) := later (by have := kcell hbw (hca 0 _ rfl); simpa using this)
      have c1 : ∀ W, Below wr.heap.size wr W → W.cell? ⟨ba, oa + k * 4 + 1, none⟩ = some (.int .i64 per) := later (kcell hbw (hca 1 _ rfl))
      have c2 : ∀ W, Below wr.heap.size wr W → W.cell? ⟨ba, oa + k * 4 + 2, none⟩ = some (.int .i64 dl) := later (kcell hbw (hca 2 _ rfl))
      have c3 : ∀ W, Below wr.heap.size wr W → W.cell? ⟨ba, oa + k * 4 + 3, none⟩ = some (.int .i64 ln) := later (kcell hbw (hca 3 _ rfl))
      have d0 : ∀ W, Below wr.heap.size wr W → W.cell? ⟨bb, ob + k * 4, none⟩ = some (.string nm) := later (by have := kcell hbw (hcb 0 _ rfl); simpa using this)
      have d1 : ∀ W, Below wr.heap.size wr W → W.cell? ⟨bb, ob + k * 4 + 1, none⟩ = some (.int .i64 per) := later (kcell hbw (hcb 1 _ rfl))
      have d2 : ∀ W, Below wr.heap.size wr W → W.cell? ⟨bb, ob + k * 4 + 2, none⟩ = some (.int .i64 dl) := later (kcell hbw (hcb 2 _ rfl))
      have d3 : ∀ W, Below wr.heap.size wr W → W.cell? ⟨bb, ob + k * 4 + 3, none⟩ = some (.int .i64 ln) := later (kcell hbw (hcb 3 _ rfl))
      clear hca hcb hx
      subst hA hB
      go_wp2
      refine wp_any (w0 := wr) ⟨[], [], [some 17, some 18, some 19, some 20, some 21, some 22, some 23, some 24, some 25], [[], [], [0, 1], [0, 1, 2], [], [], [4, 5], [4, 5, 6], [0, 1, 2, 3, 4, 5, 6, 7]], [[], [], [0, 1], [2], [], [], [4, 5], [6], [3, 7]]⟩ (fun _ => []) (by kernel_rfl) (by kernel_rfl) (by (exact zE)) (fun u => by simp only [putD, Act.put, List.setIfInBounds_toArray, List.set_cons_zero, List.set_cons_succ, Nat.zero_add, Nat.reduceAdd]; rfl) ?_
      apply RGW.on (i := 0) rfl
      · exact zG
      · intro γ u W hcur hd
        clear hd
        (try dsimp only)
        exact ⟨rfl, zS⟩
      · exact zC
      · rfl
      dsimp only [nA, cA]
      apply RGW.on (i := 1) rfl
      · exact zG
      · intro γ u W hcur hd
        clear hd
        (try dsimp only)
        exact ⟨rfl, zS⟩
      · exact zC
      · rfl
      dsimp only [nA, cA]
      apply RGW.on (i := 2) rfl
      · exact zG
      · intro γ u W hcur hd
        obtain ⟨⟨h0, -, -⟩, ⟨h1, -, -⟩, -⟩ := hd
        dsimp only at h0 h1
        (try simp only [h0, h1])
        exact ⟨rfl, zS⟩
      · exact zC
      · rfl
      dsimp only [nA, cA]
      apply RGW.on (i := 3) rfl
      · exact zG
      · intro γ u W hcur hd
        obtain ⟨⟨h2, -, -⟩, -⟩ := hd
        dsimp only at h2
        (try simp only [h2])
        exact ⟨rfl, zS⟩
      · exact zC
      · rfl
      dsimp only [nA, cA]
      apply RGW.on (i := 4) rfl
      · exact zG
      · intro γ u W hcur hd
        clear hd
        (try dsimp only)
        exact ⟨rfl, zS⟩
      · exact zC
      · rfl
      dsimp only [nA, cA]
      apply RGW.on (i := 5) rfl
      · exact zG
      · intro γ u W hcur hd
        clear hd
        (try dsimp only)
        exact ⟨rfl, zS⟩
      · exact zC
      · rfl
      dsimp only [nA, cA]
      apply RGW.on (i := 6) rfl
      · exact zG
      · intro γ u W hcur hd
        obtain ⟨⟨h4, -, -⟩, ⟨h5, -, -⟩, -⟩ := hd
        dsimp only at h4 h5
        (try simp only [h4, h5])
        exact ⟨rfl, zS⟩
      · exact zC
      · rfl
      dsimp only [nA, cA]
      apply RGW.on (i := 7) rfl
      · exact zG
      · intro γ u W hcur hd
        obtain ⟨⟨h6, -, -⟩, -⟩ := hd
        dsimp only at h6
        (try simp only [h6])
        exact ⟨rfl, zS⟩
      · exact zC
      · rfl
      dsimp only [nA, cA]
      apply RGW.on (i := 8) rfl
      · exact zG
      · intro γ u W hcur hd
        obtain ⟨⟨h3, -, -⟩, ⟨h7, -, -⟩, -⟩ := hd
        dsimp only at h3 h7
        (try simp only [h3, h7])
        exact ⟨rfl, zS⟩
      · exact zC
      · rfl
      dsimp only [nA, cA]
      refine RGW.fin (fun γ u wj hwj hd hdis => ?_)
      obtain ⟨⟨h0, -, -⟩, ⟨h1, -, -⟩, ⟨h2, -, -⟩, ⟨h3, -, -⟩, ⟨h4, -, -⟩, ⟨h5, -, -⟩, ⟨h6, -, -⟩, ⟨h7, -, -⟩, ⟨h8, -, -⟩, -⟩ := hd
      dsimp only at h0 h1 h2 h3 h4 h5 h6 h7 h8
      clear hdis
      simp only [h0, h1, h2, h3, h4, h5, h6, h7, h8]
      clear h8 h7 h6 h5 h4 h3 h2 h1 h0
      clear u
      simp only [List.map_nil]
      refine PlanW.done ?_
      have hb3 := bl_tt hwj
      have hbj := bl_tr hbw hwj
      go_wp2
      go_roundw
      case rel => exact ⟨k + 1, by omega, by go_num, hbj⟩
      case measure => simp [intOf]; omega
    · go_wp2
      go_ret
      exact ⟨rfl, hbw⟩
end Go.Proofs.YtbdgblnccjpahaaGreatDoor
