/-
  Walk: streams read from a string.
-/
import Derived.Test.YtbdgblnccjpahaaGreatDoorUT5
import Derived.Test.YtbdgblnccjpahaaGreatDoorUT6
set_option linter.unusedSimpArgs false
set_option linter.unusedVariables false
namespace Go.Proofs.YtbdgblnccjpahaaGreatDoor
open Go.RowKit Go.Shelf
attribute [local go_sem] bl_al bl_drew bl_drewN bl_refl bx_al bx_drew bx_drewN bx_refl Oper.semAt_some
set_option maxRecDepth 20000
/-- A part: its name and its numbers; whether it is a stream; which. -/
def prt (p : List UInt8) : List (List UInt8) := splitC 32 (cutC 32 p).2.1
def partOk (p : List UInt8) : Bool := natsOk (prt p) && decide ((prt p).length = 3) && decide ((cutC 32 p).1 ≠ [])
def partSm (p : List UInt8) : Sm := ⟨⟨(cutC 32 p).1.toArray⟩, (natsV (prt p))[0]?.getD 0, (natsV (prt p))[1]?.getD 0, (natsV (prt p))[2]?.getD 0⟩
def psOk (l : List (List UInt8)) : Bool := l.all partOk
def psV (l : List (List UInt8)) : List Sm := l.map partSm
theorem psOk_snoc (l : List (List UInt8)) (p : List UInt8) : psOk (l ++ [p]) = (psOk l && partOk p) := by simp [psOk, List.all_append]
theorem psV_snoc (l : List (List UInt8)) (p : List UInt8) : psV (l ++ [p]) = psV l ++ [partSm p] := by simp [psV]
theorem psV_len (l : List (List UInt8)) : (psV l).length = l.length := by simp [psV]
theorem psOk_prefix {a b : List (List UInt8)} (h : a <+: b) (hb : psOk a = false) : psOk b = false := by
  obtain ⟨r, rfl⟩ := h
  unfold psOk at hb ⊢
  rw [List.all_append, hb]
  rfl
/-- The error of a string of streams, and the streams. -/
def psE (s : List UInt8) : Int := if 60000 < s.length then 8 else if psOk (splitC 59 s) then smsErr (psV (splitC 59 s)) else 7
theorem infoSmz : (Tryz.prog.info? 43).map (fun i => (i.zero, i.size, i.bytes)) = some (some (.agg #[.string ByteArray.empty, .int .i64 0, .int .i64 0, .int .i64 0]), 4, 40) := by kernel_rfl
theorem three {l : List Int} (h : l.length = 3) : l = [l[0]?.getD 0, l[1]?.getD 0, l[2]?.getD 0] := by
  match l, h with
  | [a, b, c], _ => rfl
theorem ownL_blk {w : World} {base n size : Nat} {e : TypeId} {v : Value} {xs : List Value} (h : w.ownsRow base e size v n xs) : ∀ g ∈ ownL v, ∃ t cs, Blk w g t cs := fun g hg => by
  rcases h.2 with ⟨rfl, _⟩ | ⟨k, cap, cur, rfl, _, hk, _⟩
  · simp [ownL, Value.ownBlock] at hg
  · obtain rfl : g = k := by simpa [ownL, Value.ownBlock] using hg
    exact ⟨_, _, hk⟩
set_option maxHeartbeats 8000000 in
theorem c_ParseStreams (l : List UInt8) (w : World) (hl : l.length ≤ 900) (hE : Env w) :
    Calls Tryz.prog 15 #[.string ⟨l.toArray⟩] w (fun e w' => Below w.heap.size w w' ∧
      (psE l ≠ 0 → e = .returned (.tuple #[.slice none 0 0, .int .i64 (psE l)])) ∧
      (psE l = 0 → ∃ A2 c2, e = .returned (.tuple #[.slice A2 (splitC 59 l).length c2, .int .i64 0]) ∧ w'.ownsRow w.heap.size 43 4 (.slice A2 (splitC 59 l).length c2) (splitC 59 l).length ((psV (splitC 59 l)).flatMap cSm))) := by
  obtain ⟨i0, hi, hz0, hz1, hz2⟩ := info_parts infoSmz
  have HE := Lib.hid fun W (hb : Below w.heap.size w W) => hE.below hb
  have hlen := splitC_len 59 l
  have hmem := Lib.hid (splitC_mem 59 l)
  have hit := Lib.hid fun g D X W hD k0 k1 k2 hX => split_iter l 59 g D X W hD (by omega) k0 k1 k2 hX
  have hcS := Lib.hid fun W => c_SplitSeq ⟨l.toArray⟩ ⟨#[59]⟩ W
  have hE1 : Hid (psOk (splitC 59 l) = false → psE l = 7) := fun h => by rw [psE, if_neg (by omega), h]; rfl
  have hE2 : Hid (psOk (splitC 59 l) = true → psE l = smsErr (psV (splitC 59 l))) := fun h => by rw [psE, if_neg (by omega), h]; rfl
  clear hE
  generalize psE l = E at *
  obtain ⟨xs, hxs⟩ : ∃ xs, Hid (splitC 59 l = xs) := ⟨_, rfl⟩
  rw [hxs.out] at hlen hmem hit hE1 hE2 ⊢
  have hxl : xs.length ≤ 901 := by omega
  clear hlen
  have hl6 : ¬ (60000 : Int) < l.length := by omega
  have hl7 : ¬ 60000 < l.length := by omega
  refine calls_marks Tryz.func15 rfl ?_
  simp only [Tryz.ntmps15, List.size_toArray, List.length_cons, List.length_nil, Nat.reduceAdd, Nat.reduceSub, Array.replicate_succ, Array.replicate_zero, List.push_toArray, List.append_toArray, List.nil_append, List.cons_append]
  go_upto_region 4 with fail
  clear hl6 hl7
  have k4 := Blk.new w 22 #[.slice none 0 0]
  have k5 := Blk.new (w.alloc (.cells #[.slice none 0 0] 22)) 27 #[.int .i64 0]
  have k6 := Blk.new ((w.alloc (.cells #[.slice none 0 0] 22)).alloc (.cells #[.int .i64 0] 27)) 22 #[.slice none 0 0]
  simp only [World.size_alloc] at k5 k6
  replace k4 := (k4.alloc (.cells #[.int .i64 0] 27)).alloc (.cells #[.slice none 0 0] 22)
  replace k5 := k5.alloc (.cells #[.slice none 0 0] 22)
  have hb0 := bl_al (.cells #[.slice none 0 0] 22) (bl_al (.cells #[.int .i64 0] 27) (bl_al (.cells #[.slice none 0 0] 22) (bl_refl w)))
  have hsz : (((w.alloc (.cells #[.slice none 0 0] 22)).alloc (.cells #[.int .i64 0] 27)).alloc (.cells #[.slice none 0 0] 22)).heap.size = w.heap.size + 3 := by simp
  generalize ((w.alloc (.cells #[.slice none 0 0] 22)).alloc (.cells #[.int .i64 0] 27)).alloc (.cells #[.slice none 0 0] 22) = wA at *
  go_wp2_with fail
  refine (hcS.out wA).mono ?_
  rintro e w3 ⟨rfl, hb1, q0, q1, q2⟩
  rw [hsz] at q0 q1 q2 ⊢
  replace hb0 := bl_tr hb0 hb1
  replace k4 := k4.below hb1
  replace k5 := k5.below hb1
  replace k6 := k6.below hb1
  have hq2 := q2.lt
  clear hb1 hsz hcS
  obtain ⟨D, hD⟩ : ∃ D, w3.heap.size = D := ⟨_, rfl⟩
  have hDw : w.heap.size ≤ D := by omega
  rw [hD] at hq2
  have hit' := hit.out (w.heap.size + 3) D [w.heap.size, w.heap.size + 1, w.heap.size + 2] w3 hD q0 q1 q2 (by simp; omega)
  simp only [Nat.add_assoc, Nat.reduceAdd] at k6
  go_wp2
  refine wp_range4 (gf := 155) (lb := #[.pointer (some ⟨w.heap.size + 3 + 1, 0, none⟩), .pointer (some ⟨w.heap.size + 3, 0, none⟩), .pointer (some ⟨w.heap.size + 3 + 2, 0, none⟩)]) ?hg (enters_of Tryz.func155 (by kernel_rfl) rfl) (Enc := EncP) (xs := xs) [w.heap.size, w.heap.size + 1, w.heap.size + 2] [w.heap.size + 3] (by rw [hD]; exact hit') ?hps (by rw [hD]; simp; omega) (by rw [hD]; simp; omega)
    (fun pre W => psOk pre = true ∧ (Below w.heap.size w W ∧ D ≤ W.heap.size) ∧ Blk W w.heap.size 22 #[.slice none 0 0] ∧ Blk W (w.heap.size + 1) 27 #[.int .i64 0] ∧ ∃ v, Blk W (w.heap.size + 2) 22 #[v] ∧ W.ownsRow D 43 4 v pre.length ((psV pre).flatMap cSm))
    (fun c pre W => c = .ret ∧ psOk pre = false ∧ Below w.heap.size w W ∧ Blk W w.heap.size 22 #[.slice none 0 0] ∧ Blk W (w.heap.size + 1) 27 #[.int .i64 7])
    ?hI ?hIY ?hIx ?hIxY ?h0 ?round ?done ?stop
  case hg => rfl
  case hps => rintro x args W rfl; rfl
  case hI =>
    rintro s A B ⟨h1, ⟨h2, h3⟩, h4, h5, v, h6, h7⟩ hc
    rw [hD] at hc
    exact ⟨h1, ⟨hc.belowOf hDw h2, Nat.le_trans h3 hc.size⟩, hc.blk h4, hc.blk h5, v, hc.blk h6, CK.own h7 hc⟩
  case hIY =>
    rintro s A B ⟨h1, ⟨h2, h3⟩, h4, h5, v, h6, h7⟩ hb
    exact ⟨h1, ⟨bx_below h2 hb (by simp), Nat.le_trans h3 hb.size⟩, h4.keep (by simp) hb, h5.keep (by simp) hb, v, h6.keep (by simp) hb, own_bxT h7 hb (fun k hk => by have := own_ge h7 k hk; simp; omega)⟩
  case hIx =>
    rintro c s A B ⟨h1, h2, h3, h4, h5⟩ hc
    rw [hD] at hc
    exact ⟨h1, h2, hc.belowOf hDw h3, hc.blk h4, hc.blk h5⟩
  case hIxY =>
    rintro c s A B ⟨h1, h2, h3, h4, h5⟩ hb
    exact ⟨h1, h2, bx_below h3 hb (by simp), h4.keep (by simp) hb, h5.keep (by simp) hb⟩
  case h0 => exact ⟨rfl, ⟨hb0, by omega⟩, k4, k5, _, k6, World.ownsRow_nil _ _ _ _⟩
  case round =>
    rintro ln pre x args W ⟨h1, ⟨hb0, hWD⟩, k4, k5, v, k6, ho⟩ hpre rfl
    obtain ⟨vA, vc, rfl⟩ := own_slice ho
    have hpl : pre.length ≤ 900 := by
      obtain ⟨r, hr⟩ := hpre
      have := congrArg List.length hr
      simp at this
      omega
    have hxm : x.length ≤ l.length := hmem.out x (by obtain ⟨r, hr⟩ := hpre; rw [← hr]; simp)
    replace ho := Lib.hid ho
    clear hit'
    gi_wp2
    refine ⟨RN.refl _ _ _, fun W2 hc => ?_⟩
    rw [hD] at hc ⊢
    replace hb0 := hc.belowOf hDw hb0
    replace k4 := hc.blk k4
    replace k5 := hc.blk k5
    replace k6 := hc.blk k6
    replace ho := Lib.hid (CK.own ho.out hc)
    replace hWD := Nat.le_trans hWD hc.size
    clear hc
    have hcl := cutC_len 32 x
    have hcut := Lib.hid fun W => c_CutB x 32 W (by omega)
    have hspl := Lib.hid fun W (hb : Below w.heap.size w W) => c_split (cutC 32 x).2.1 32 W (by omega) (HE.out W hb)
    have hok := Lib.hid (psOk_snoc pre x)
    have hov := Lib.hid (psV_snoc pre x)
    rw [h1, partOk] at hok
    unfold partSm at hov
    change Hid (∀ W, Below w.heap.size w W → Calls Tryz.prog 61 #[.string ⟨(cutC 32 x).2.1.toArray⟩, .string ⟨#[32]⟩] W (fun e w' => Below W.heap.size W w' ∧
      (natsOk (prt x) = false → e = .returned (.tuple #[.slice none 0 0, .bool false])) ∧
      (natsOk (prt x) = true → ∃ A2 c2, e = .returned (.tuple #[.slice A2 (prt x).length c2, .bool true]) ∧ w'.ownsRow W.heap.size 3 1 (.slice A2 (prt x).length c2) (prt x).length ((natsV (prt x)).map (.int .i64))))) at hspl
    have hvl := Lib.hid (natsV_len (prt x))
    generalize prt x = P at *
    generalize natsV P = PV at *
    generalize natsOk P = PO at *
    generalize cutC 32 x = C at *
    obtain ⟨nm, rest, fnd⟩ := C
    dsimp only at *
    gi_upto_region 7 with (first | (rename_i h1 h2; exact absurd h1 undef_bool) | (with_reducible refine And.intro (wide_fn _) ?_) | (gi_at_call 60; (with_reducible refine (CallsIn.inRound ln (callsIn_wide.2 (hcut.out _))).mono ?_); rintro e w4 ⟨rfl, hb4⟩))
    replace hb0 := bl_tr hb0 hb4
    replace k4 := k4.below hb4
    replace k5 := k5.below hb4
    replace k6 := k6.below hb4
    replace ho := Lib.hid (own_below ho.out hb4)
    have hw4 := Nat.le_trans hWD hb4.size
    have hrn := RN.of_below (D := D) (X := [w.heap.size, w.heap.size + 1, w.heap.size + 2]) hb4
    clear hb4 hcut
    have hspw := Lib.hid (hspl.out w4 hb0)
    clear hspl
    cases PO with
    | false =>
      gi_upto_region 9 with (first | (rename_i h1 h2; exact absurd h1 undef_bool) | (with_reducible refine And.intro (wide_fn _) ?_) | (gi_at_call 61; (with_reducible refine (CallsIn.inRound ln (callsIn_wide.2 hspw.out)).mono ?_); rintro e w5 ⟨hb5, hs1, -⟩; obtain rfl := hs1 rfl))
      replace hb0 := bl_tr hb0 hb5
      replace k4 := k4.below hb5
      replace k5 := k5.below hb5
      have hrn2 := hrn.trans (RN.of_below (D := D) (X := [w.heap.size, w.heap.size + 1, w.heap.size + 2]) hb5)
      clear hb5 k6 ho hWD hrn
      have L4 := k4.cell
      have L5 := k5.cell
      have F4 := k4.frozen
      have F5 := k5.frozen
      gi_wp2
      have hset : BX [w.heap.size, w.heap.size + 1] w5 ((w5.setCell ⟨w.heap.size, 0, none⟩ (.slice none 0 0)).setCell ⟨w.heap.size + 1, 0, none⟩ (.int .i64 7)) := bx_set (.inl (by simp)) _ (bx_set (.inl (by simp)) _ (bx_refl _ w5))
      exact ⟨hrn2.trans (RN.of_bx hset (fun z hz => .inl (by simp at hz ⊢; omega))), rfl, by rw [hok.out]; simp, bx_below hb0 hset (by simp), (k4.set 0 _).keep (X := [w.heap.size + 1]) (by simp) (bx_set (.inl (by simp)) _ (bx_refl _ _)), (k5.keep (X := [w.heap.size]) (by simp) (bx_set (.inl (by simp)) _ (bx_refl _ _))).set 0 _⟩
    | true =>
      gi_upto_region 8 with (first | (rename_i h1 h2; exact absurd h1 undef_bool) | (with_reducible refine And.intro (wide_fn _) ?_) | (gi_at_call 61; (with_reducible refine (CallsIn.inRound ln (callsIn_wide.2 hspw.out)).mono ?_); rintro e w5 ⟨hb5, -, hs2⟩; obtain ⟨A2, c2, rfl, ho2⟩ := hs2 rfl))
      by_cases h3 : P.length = 3
      rotate_left
      · have h3' : ((P.length : Int) != 3) = true := by simp; omega
        have hok3 : decide (P.length = 3) = false := decide_eq_false h3
        rw [hok3] at hok
        replace h3 := Lib.hid h3
        gi_upto_region 9 with (first | (rename_i h1 h2; exact absurd h1 undef_bool))
        replace hb0 := bl_tr hb0 hb5
        replace k4 := k4.below hb5
        replace k5 := k5.below hb5
        have hrn2 := hrn.trans (RN.of_below (D := D) (X := [w.heap.size, w.heap.size + 1, w.heap.size + 2]) hb5)
        clear hb5 k6 ho hWD hrn
        have L4 := k4.cell
        have L5 := k5.cell
        have F4 := k4.frozen
        have F5 := k5.frozen
        gi_wp2
        have hset : BX [w.heap.size, w.heap.size + 1] w5 ((w5.setCell ⟨w.heap.size, 0, none⟩ (.slice none 0 0)).setCell ⟨w.heap.size + 1, 0, none⟩ (.int .i64 7)) := bx_set (.inl (by simp)) _ (bx_set (.inl (by simp)) _ (bx_refl _ w5))
        exact ⟨hrn2.trans (RN.of_bx hset (fun z hz => .inl (by simp at hz ⊢; omega))), rfl, by rw [hok.out]; simp, bx_below hb0 hset (by simp), (k4.set 0 _).keep (X := [w.heap.size + 1]) (by simp) (bx_set (.inl (by simp)) _ (bx_refl _ _)), (k5.keep (X := [w.heap.size]) (by simp) (bx_set (.inl (by simp)) _ (bx_refl _ _))).set 0 _⟩
      rw [h3] at ho2 hvl hok ⊢
      cases nm with
      | nil =>
        gi_upto_region 9 with (first | (rename_i h1 h2; exact absurd h1 undef_bool))
        replace hb0 := bl_tr hb0 hb5
        replace k4 := k4.below hb5
        replace k5 := k5.below hb5
        have hrn2 := hrn.trans (RN.of_below (D := D) (X := [w.heap.size, w.heap.size + 1, w.heap.size + 2]) hb5)
        clear hb5 k6 ho hWD hrn
        have L4 := k4.cell
        have L5 := k5.cell
        have F4 := k4.frozen
        have F5 := k5.frozen
        gi_wp2
        have hset : BX [w.heap.size, w.heap.size + 1] w5 ((w5.setCell ⟨w.heap.size, 0, none⟩ (.slice none 0 0)).setCell ⟨w.heap.size + 1, 0, none⟩ (.int .i64 7)) := bx_set (.inl (by simp)) _ (bx_set (.inl (by simp)) _ (bx_refl _ w5))
        exact ⟨hrn2.trans (RN.of_bx hset (fun z hz => .inl (by simp at hz ⊢; omega))), rfl, by rw [hok.out]; simp, bx_below hb0 hset (by simp), (k4.set 0 _).keep (X := [w.heap.size + 1]) (by simp) (bx_set (.inl (by simp)) _ (bx_refl _ _)), (k5.keep (X := [w.heap.size]) (by simp) (bx_set (.inl (by simp)) _ (bx_refl _ _))).set 0 _⟩
      | cons n0 nr =>
        gi_upto_region 10 with (first | (rename_i h1 h2; exact absurd h1 undef_bool))
        have hs2 := own_sl (L := PV) (by rw [hvl.out]; exact ho2)
        have h3v := three hvl.out
        generalize PV[0]?.getD 0 = p0 at *
        generalize PV[1]?.getD 0 = p1 at *
        generalize PV[2]?.getD 0 = p2 at *
        subst h3v
        obtain ⟨b2, o2, rfl, hc0⟩ := hs2 0 p0 rfl
        obtain ⟨b3, o3, e3, hc1⟩ := hs2 1 p1 rfl
        injection e3 with e3
        injection e3 with e3 e4 _
        subst e3 e4
        obtain ⟨b3, o3, e3, hc2⟩ := hs2 2 p2 rfl
        injection e3 with e3
        injection e3 with e3 e4 _
        subst e3 e4
        have d0 : ∀ W, Below w5.heap.size w5 W → W.cell? ⟨b2, o2, none⟩ = some (.int .i64 p0) := later (by simpa using hc0 0 _ rfl)
        have d1 : ∀ W, Below w5.heap.size w5 W → W.cell? ⟨b2, o2 + 1, none⟩ = some (.int .i64 p1) := later (by simpa using hc1 0 _ rfl)
        have d2 : ∀ W, Below w5.heap.size w5 W → W.cell? ⟨b2, o2 + 2, none⟩ = some (.int .i64 p2) := later (by simpa using hc2 0 _ rfl)
        clear hs2 hc0 hc1 hc2 ho2
        replace hb0 := bl_tr hb0 hb5
        replace k4 := k4.below hb5
        replace k5 := k5.below hb5
        replace k6 := k6.below hb5
        replace ho := Lib.hid (own_below ho.out hb5)
        have hw5 := Nat.le_trans hw4 hb5.size
        have hrn2 := hrn.trans (RN.of_below (D := D) (X := [w.heap.size, w.heap.size + 1, w.heap.size + 2]) hb5)
        clear hb5 hrn
        replace k6 : Blk w5 (w.heap.size + 1 + 1) 22 #[.slice vA pre.length vc] := k6
        have L6 := k6.later
        refine wpIn_any (w0 := w5) ⟨[13, 14], [], [some 40, some 41, some 42, some 43, some 44, some 45, some 46, some 47, some 48, some 49, some 50, some 51, some 52, none, none], [[], [], [], [2], [2, 3], [], [5], [5, 6], [], [8], [8, 9], [1, 2, 3, 4, 5, 6, 7, 8, 9, 10], [1, 2, 3, 4, 5, 6, 7, 8, 9, 10, 11], [0, 1, 2, 3, 4, 5, 6, 7, 8, 9, 10, 11, 12], [0, 1, 2, 3, 4, 5, 6, 7, 8, 9, 10, 11, 12, 13]], [[], [], [], [2], [3], [], [5], [6], [], [8], [9], [1, 4, 7, 10], [11], [], []]⟩ (fun _ => (w.heap.size + 1 + 1) :: ownL (.slice vA pre.length vc)) (by kernel_rfl) (by kernel_rfl) (by kernel_rfl) (by (exact zE)) (fun u => by simp only [putD, Act.put, List.setIfInBounds_toArray, List.set_cons_zero, List.set_cons_succ, Nat.zero_add, Nat.reduceAdd]; rfl) ?_
        apply RGW.on (i := 0) rfl
        · exact zG
        · intro γ u W hcur hd
          clear hd
          (try dsimp only)
          exact ⟨rfl, zS⟩
        · exact zC
        · rfl
        dsimp only [nA, cA]
        apply RGW.on (i := 1) rfl
        · exact zG
        · intro γ u W hcur hd
          clear hd
          (try dsimp only)
          exact ⟨rfl, zS⟩
        · exact zC
        · rfl
        dsimp only [nA, cA]
        apply RGW.on (i := 2) rfl
        · exact zG
        · intro γ u W hcur hd
          clear hd
          (try dsimp only)
          exact ⟨rfl, zS⟩
        · exact zC
        · rfl
        dsimp only [nA, cA]
        apply RGW.on (i := 3) rfl
        · exact zG
        · intro γ u W hcur hd
          obtain ⟨⟨h2, -, -⟩, -⟩ := hd
          dsimp only at h2
          (try simp only [h2])
          exact ⟨rfl, zS⟩
        · exact zC
        · rfl
        dsimp only [nA, cA]
        apply RGW.on (i := 4) rfl
        · exact zG
        · intro γ u W hcur hd
          obtain ⟨⟨h3, -, -⟩, -⟩ := hd
          dsimp only at h3
          (try simp only [h3])
          exact ⟨rfl, zS⟩
        · exact zC
        · rfl
        dsimp only [nA, cA]
        apply RGW.on (i := 5) rfl
        · exact zG
        · intro γ u W hcur hd
          clear hd
          (try dsimp only)
          exact ⟨rfl, zS⟩
        · exact zC
        · rfl
        dsimp only [nA, cA]
        apply RGW.on (i := 6) rfl
        · exact zG
        · intro γ u W hcur hd
          obtain ⟨⟨h5, -, -⟩, -⟩ := hd
          dsimp only at h5
          (try simp only [h5])
          exact ⟨rfl, zS⟩
        · exact zC
        · rfl
        dsimp only [nA, cA]
        apply RGW.on (i := 7) rfl
        · exact zG
        · intro γ u W hcur hd
          obtain ⟨⟨h6, -, -⟩, -⟩ := hd
          dsimp only at h6
          (try simp only [h6])
          exact ⟨rfl, zS⟩
        · exact zC
        · rfl
        dsimp only [nA, cA]
        apply RGW.on (i := 8) rfl
        · exact zG
        · intro γ u W hcur hd
          clear hd
          (try dsimp only)
          exact ⟨rfl, zS⟩
        · exact zC
        · rfl
        dsimp only [nA, cA]
        apply RGW.on (i := 9) rfl
        · exact zG
        · intro γ u W hcur hd
          obtain ⟨⟨h8, -, -⟩, -⟩ := hd
          dsimp only at h8
          (try simp only [h8])
          exact ⟨rfl, zS⟩
        · exact zC
        · rfl
        dsimp only [nA, cA]
        apply RGW.on (i := 10) rfl
        · exact zG
        · intro γ u W hcur hd
          obtain ⟨⟨h9, -, -⟩, -⟩ := hd
          dsimp only at h9
          (try simp only [h9])
          exact ⟨rfl, zS⟩
        · exact zC
        · rfl
        dsimp only [nA, cA]
        apply RGW.on (i := 11) rfl
        · exact zG
        · intro γ u W hcur hd
          obtain ⟨⟨h1, -, -⟩, ⟨h4, -, -⟩, ⟨h7, -, -⟩, ⟨h10, -, -⟩, -⟩ := hd
          dsimp only at h1 h4 h7 h10
          (try simp only [h1, h4, h7, h10])
          exact ⟨rfl, zS⟩
        · exact zC
        · rfl
        dsimp only [nA, cA]
        apply RGW.bslice (i := 12) rfl
        · exact zG
        · intro γ u W hcur hd
          obtain ⟨⟨h11, -, -⟩, -⟩ := hd
          dsimp only at h11
          (try simp only [h11])
          refine ⟨rfl, fun K hK => ?_⟩
          go_simp
          exact hK.out _ _ rfl rfl
        · exact zC
        · rfl
        · rfl
        dsimp only [nA, cA]
        refine RGW.skip (i := 13) rfl rfl ?_
        dsimp only [nA, cA]
        refine RGW.skip (i := 14) rfl rfl ?_
        dsimp only [nA, cA]
        refine RGW.fin (fun γ u wd hwd hd hdis => ?_)
        obtain ⟨⟨h0, -, -⟩, ⟨h1, -, -⟩, ⟨h2, -, -⟩, ⟨h3, -, -⟩, ⟨h4, -, -⟩, ⟨h5, -, -⟩, ⟨h6, -, -⟩, ⟨h7, -, -⟩, ⟨h8, -, -⟩, ⟨h9, -, -⟩, ⟨h10, -, -⟩, ⟨h11, -, -⟩, ⟨h12, r12, b12⟩, -⟩ := hd
        dsimp only at h0 h1 h2 h3 h4 h5 h6 h7 h8 h9 h10 h11 h12 r12 b12
        clear hdis
        simp only [h0, h1, h2, h3, h4, h5, h6, h7, h8, h9, h10, h11, h12]
        clear h12 h11 h10 h9 h8 h7 h6 h5 h4 h3 h2 h1 h0
        replace b12 := b12 _ (List.mem_singleton.2 rfl)
        generalize hγ12 : (γ 12).n = g12 at *
        clear hγ12
        clear u
        simp only [List.map_cons, List.map_nil]
        apply PlanW.step
        · exact zG
        · rfl
        intro K hK
        (refine wp_appT _ _ rfl Tryz.underlying22 hi hz0 hz1 hz2 rfl (by decide) (.slice vA pre.length vc) pre.length _ _ rfl rfl (own_below ho.out hwd) r12 rfl (by simp [Value.oneCell']) (by unfold maxLen; omega) (by omega) (Nat.le_trans hw5 hwd.size) ?_; intro v' w' hown' hbx' hnew'; obtain ⟨zA, zC, rfl⟩ := own_slice hown'; refine hK.out _ _ (bx_sub hbx' (fun g hg => List.mem_cons_of_mem _ hg)) (fun hcur => ?_))
        clear hK K
        try simp only [Act.put, List.setIfInBounds_toArray, List.set_cons_zero, List.set_cons_succ]
        apply PlanW.step
        · exact zG
        · rfl
        intro K hK
        first
        | refine wp_store_keep (X := (w.heap.size + 1 + 1) :: ownL (.slice vA pre.length vc)) (w0 := wd) rfl rfl rfl (by with_reducible first | exact bx_refl _ _ | assumption) (by with_reducible first | assumption | (apply Blk.below (hb := hwd); assumption)) (by simp) (by kernel_rfl) (by rfl) (by simp [Value.oneCell']) (fun hres1 hcur => ?_)
          refine hK.out _ _ hcur (fun _ => ?_)
        | go_simp
          refine hK.out _ _ (by (exact zX)) (fun hcur => ?_)
        | obtain ⟨u0, v0, z0⟩ := bx_cell0 hcur (Blk.below k6 hwd) (by simp)
          go_simp
          refine hK.out _ _ (by (exact zX)) (fun hcur => ?_)
        | obtain ⟨u0, v0, z0⟩ := bx_cell0 (X := (w.heap.size + 1 + 1) :: ownL (.slice vA pre.length vc)) (w0 := wd) (by with_reducible first | assumption | exact bx_refl _ _) r12 (by simp)
          go_simp
          refine hK.out _ _ (by (exact zX)) (fun hcur => ?_)
        clear hK K
        try simp only [Act.put, List.setIfInBounds_toArray, List.set_cons_zero, List.set_cons_succ]
        refine PlanW.done ?_
        refine only_done ?_
        have hb3x := bx_tt hwd
        have hb3 := bl_tt hwd
        have hset : BX [w.heap.size + 1 + 1] w' (w'.setCell ⟨w.heap.size + 1 + 1, 0, none⟩ (.slice zA (pre.length + 1) zC)) := bx_set (.inl (by simp)) _ (bx_refl _ w')
        have hX1 : ∀ z ∈ ownL (.slice vA pre.length vc), D ≤ z := fun z hz => ownL_ge ho.out z hz
        have k4w := (k4.below hwd).keep (fun h => by have := hX1 _ h; omega) hbx'
        have k5w := (k5.below hwd).keep (fun h => by have := hX1 _ h; omega) hbx'
        have k6w := (k6.below hwd).keep (fun h => by have := hX1 _ h; omega) hbx'
        have hrnA := RN.of_below (D := D) (X := [w.heap.size, w.heap.size + 1, w.heap.size + 2]) hwd
        have hrnB := RN.of_bx (D := D) (X := [w.heap.size, w.heap.size + 1, w.heap.size + 2]) hbx' (fun z hz => .inr ⟨hX1 z hz, ownL_blk (own_below ho.out hwd) z hz⟩)
        have hrnC := RN.of_bx (D := D) (X := [w.heap.size, w.heap.size + 1, w.heap.size + 2]) hset (fun z hz => .inl (by simp at hz ⊢; omega))
        have hbw := bx_below (bx_below (bl_tr hb0 hwd) hbx' (fun z hz => by have := hX1 z hz; omega)) hset (by simp; omega)
        have hsz9 := Nat.le_trans hw5 (Nat.le_trans hwd.size (Nat.le_trans hbx'.size hset.size))
        have hown9 := own_bxT hown' hset (fun k hk => by have := own_ge hown' k hk; simp; omega)
        refine ⟨hrn2.trans (hrnA.trans (hrnB.trans hrnC)), by rw [hok.out]; simp, ⟨hbw, hsz9⟩, k4w.keep (by simp <;> omega) hset, k5w.keep (by simp <;> omega) hset, _, k6w.set 0 _, ?_⟩
        rw [hov.out, List.length_append, List.flatMap_append]
        exact hown9
  case done =>
    rintro W ⟨h1, ⟨hb0, hWD⟩, k4, k5, v, k6, ho⟩ hK
    clear hit'
    subst hD
    obtain ⟨vA, vc, rfl⟩ := own_slice ho
    replace ho := Lib.hid ho
    have hEs := Lib.hid (hE2.out h1)
    have hnl := psV_len xs
    have hcap : xs.length ≤ vc := by
      rcases ho.out.2 with ⟨h, -⟩ | ⟨_, _, _, e, _, _, h, _⟩
      · injection h with _ h1 h2
        omega
      · injection e with _ _ e
        omega
    have hsm : SmIn (psV xs) vA vc W := ⟨by omega, by omega, fun s hs => by
      obtain ⟨p, hp, rfl⟩ := List.mem_map.1 hs
      have h3 := hmem.out p hp
      have h4 := (cutC_len 32 p).1
      show (cutC 32 p).1.length ≤ maxLen
      unfold maxLen
      omega, own_slC (cs := cSm) (fun _ => rfl) (by decide) (by rw [hnl]; exact ho.out)⟩
    have hse := Lib.hid (c_streamsErr (psV xs) vA vc W hsm)
    rw [hnl, ← hEs.out] at hse
    have hxl' := xs.length
    replace hnl := Lib.hid hnl
    have L6 := k6.cell
    go_wp2_with fail
    refine hse.out.mono ?_
    rintro e w5 ⟨rfl, hb5⟩
    replace hb0 := bl_tr hb0 hb5
    replace k4 := k4.below hb5
    replace k5 := k5.below hb5
    replace k6 := k6.below hb5
    replace ho := Lib.hid (own_below ho.out hb5)
    replace hK : w5.heap[w3.heap.size]? = some (.deferred (some [])) := (hb5.block _ (Array.getElem?_eq_some_iff.1 hK).1).trans hK
    clear hb5 L6 hse hsm
    have L4 := k4.cell
    have L5 := k5.cell
    have L6 := k6.cell
    have F4 := k4.frozen
    have F5 := k5.frozen
    by_cases hE0 : E = 0
    · subst hE0
      go_wp2
      have hset : BX [w.heap.size, w.heap.size + 1] w5 ((w5.setCell ⟨w.heap.size, 0, none⟩ (.slice vA xs.length vc)).setCell ⟨w.heap.size + 1, 0, none⟩ (.int .i64 0)) := bx_set (.inl (by simp)) _ (bx_set (.inl (by simp)) _ (bx_refl _ w5))
      have q4 : Blk ((w5.setCell ⟨w.heap.size, 0, none⟩ (.slice vA xs.length vc)).setCell ⟨w.heap.size + 1, 0, none⟩ (.int .i64 0)) w.heap.size 22 #[(.slice vA xs.length vc)] := (k4.set 0 _).keep (X := [w.heap.size + 1]) (by simp) (bx_set (.inl (by simp)) _ (bx_refl _ _))
      have q5 : Blk ((w5.setCell ⟨w.heap.size, 0, none⟩ (.slice vA xs.length vc)).setCell ⟨w.heap.size + 1, 0, none⟩ (.int .i64 0)) (w.heap.size + 1) 27 #[(.int .i64 0)] := (k5.keep (X := [w.heap.size]) (by simp) (bx_set (.inl (by simp)) _ (bx_refl _ _))).set 0 _
      have hK2 : ((w5.setCell ⟨w.heap.size, 0, none⟩ (.slice vA xs.length vc)).setCell ⟨w.heap.size + 1, 0, none⟩ (.int .i64 0)).heap[w3.heap.size]? = some (.deferred (some [])) := (hset.block w3.heap.size (Array.getElem?_eq_some_iff.1 hK).1 (by simp; omega)).trans hK
      have hob := own_bxT ho.out hset (fun k hk => by have := own_ge ho.out k hk; simp; omega)
      have hbb := bx_below hb0 hset (by simp)
      generalize ((w5.setCell ⟨w.heap.size, 0, none⟩ (.slice vA xs.length vc)).setCell ⟨w.heap.size + 1, 0, none⟩ (.int .i64 0)) = Wz at *
      have hck := CK.put (D := w3.heap.size) (.deferred none) hK2 rfl (Nat.le_refl _)
      have r4 := (hck.blk q4).cell 0
      have r5 := (hck.blk q5).cell 0
      refine postM_taken hK2 (v := .tuple #[(.slice vA xs.length vc), (.int .i64 0)]) (by simp [results, Tryz.results15, go_sem, r4, r5]) ⟨hck.belowOf hDw hbb, by first | exact ⟨vA, vc, rfl, own_mono hDw (CK.own hob hck)⟩ | exact ⟨fun h => absurd rfl h, fun _ => ⟨vA, vc, rfl, own_mono hDw (CK.own hob hck)⟩⟩⟩
    · have hne : (E != 0) = true := by simp [hE0]
      replace hE0 := Lib.hid hE0
      go_wp2
      have hset : BX [w.heap.size, w.heap.size + 1] w5 ((w5.setCell ⟨w.heap.size, 0, none⟩ (.slice none 0 0)).setCell ⟨w.heap.size + 1, 0, none⟩ (.int .i64 E)) := bx_set (.inl (by simp)) _ (bx_set (.inl (by simp)) _ (bx_refl _ w5))
      have q4 : Blk ((w5.setCell ⟨w.heap.size, 0, none⟩ (.slice none 0 0)).setCell ⟨w.heap.size + 1, 0, none⟩ (.int .i64 E)) w.heap.size 22 #[(.slice none 0 0)] := (k4.set 0 _).keep (X := [w.heap.size + 1]) (by simp) (bx_set (.inl (by simp)) _ (bx_refl _ _))
      have q5 : Blk ((w5.setCell ⟨w.heap.size, 0, none⟩ (.slice none 0 0)).setCell ⟨w.heap.size + 1, 0, none⟩ (.int .i64 E)) (w.heap.size + 1) 27 #[(.int .i64 E)] := (k5.keep (X := [w.heap.size]) (by simp) (bx_set (.inl (by simp)) _ (bx_refl _ _))).set 0 _
      have hK2 : ((w5.setCell ⟨w.heap.size, 0, none⟩ (.slice none 0 0)).setCell ⟨w.heap.size + 1, 0, none⟩ (.int .i64 E)).heap[w3.heap.size]? = some (.deferred (some [])) := (hset.block w3.heap.size (Array.getElem?_eq_some_iff.1 hK).1 (by simp; omega)).trans hK
      have hob := own_bxT ho.out hset (fun k hk => by have := own_ge ho.out k hk; simp; omega)
      have hbb := bx_below hb0 hset (by simp)
      generalize ((w5.setCell ⟨w.heap.size, 0, none⟩ (.slice none 0 0)).setCell ⟨w.heap.size + 1, 0, none⟩ (.int .i64 E)) = Wz at *
      have hck := CK.put (D := w3.heap.size) (.deferred none) hK2 rfl (Nat.le_refl _)
      have r4 := (hck.blk q4).cell 0
      have r5 := (hck.blk q5).cell 0
      refine postM_taken hK2 (v := .tuple #[(.slice none 0 0), (.int .i64 E)]) (by simp [results, Tryz.results15, go_sem, r4, r5]) ⟨hck.belowOf hDw hbb, by first | exact ⟨fun _ => rfl, fun h => absurd h hE0.out⟩ | simp [hE0.out]⟩
  case stop =>
    rintro c' pre W hpre ⟨rfl, hno, hb0, k4, k5⟩ hK
    clear hit'
    subst hD
    have hno' := psOk_prefix hpre hno
    have hE7 := Lib.hid (hE1.out hno')
    go_wp2
    have hck := CK.put (D := w3.heap.size) (.deferred none) hK rfl (Nat.le_refl _)
    have r4 := (hck.blk k4).cell 0
    have r5 := (hck.blk k5).cell 0
    refine postM_taken hK (v := .tuple #[.slice none 0 0, .int .i64 7]) (by simp [results, Tryz.results15, go_sem, r4, r5]) ⟨hck.belowOf hDw hb0, fun _ => by rw [hE7.out], fun h => by rw [hE7.out] at h; cases h⟩
end Go.Proofs.YtbdgblnccjpahaaGreatDoor
