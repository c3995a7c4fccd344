/-
  Walks: a string of numbers with a sign between, read.
  Walks: strings joined; numbers as strings with a sign between.
  The walk of isName: whether a string is a name.
  Plain laws of remainders: they are bytes, and the remainder of what is xored is the xor of the remainders.
  Walks: the error of bytes, and their remainder.
  Walks: which streams are valid.
  Walk: streams as a string.
  Walks: the check of names, one after the other; ascending indexes.
-/
import Derived.Test.YtbdgblnccjpahaaGreatDoorUO4
import Derived.Test.YtbdgblnccjpahaaGreatDoorUO5
import Derived.Sort.CutIn
import Derived.Lib.ItoaLen
import Derived.Lib.JoinLaws
import Derived.Test.YtbdgblnccjpahaaGreatDoorUO3
import Derived.Maps.OwnSet
import Derived.Carry
import Derived.Laws.EntriesVeiled
set_option linter.unusedSimpArgs false
set_option linter.unusedVariables false
namespace Go.Proofs.YtbdgblnccjpahaaGreatDoor
open Go.RowKit Go.Shelf
attribute [local go_sem] bl_al bl_drew bl_drewN bl_refl bx_al bx_drew bx_drewN bx_refl Oper.semAt_some
set_option maxRecDepth 20000
/-- The numbers that all these strings are. -/
def natsOk (l : List (List UInt8)) : Bool := l.all fun p => (natS p).isSome
def natsV (l : List (List UInt8)) : List Int := l.map fun p => (((natS p).getD 0 : Nat) : Int)
theorem natsOk_snoc (l : List (List UInt8)) (p : List UInt8) : natsOk (l ++ [p]) = (natsOk l && (natS p).isSome) := by simp [natsOk, List.all_append]
theorem natsV_snoc (l : List (List UInt8)) (p : List UInt8) : natsV (l ++ [p]) = natsV l ++ [(((natS p).getD 0 : Nat) : Int)] := by simp [natsV]
theorem natsV_len (l : List (List UInt8)) : (natsV l).length = l.length := by simp [natsV]
theorem natsOk_prefix {a b : List (List UInt8)} (h : a <+: b) (hb : natsOk a = false) : natsOk b = false := by
  obtain ⟨r, rfl⟩ := h
  unfold natsOk at hb ⊢
  rw [List.all_append, hb]
  rfl
set_option maxHeartbeats 8000000 in
theorem c_split (l : List UInt8) (c : UInt8) (w : World) (hl : l.length ≤ 100000) (hE : Env w) :
    Calls Tryz.prog 61 #[.string ⟨l.toArray⟩, .string ⟨#[c]⟩] w (fun e w' => Below w.heap.size w w' ∧
      (natsOk (splitC c l) = false → e = .returned (.tuple #[.slice none 0 0, .bool false])) ∧
      (natsOk (splitC c l) = true → ∃ A2 c2, e = .returned (.tuple #[.slice A2 (splitC c l).length c2, .bool true]) ∧ w'.ownsRow w.heap.size 3 1 (.slice A2 (splitC c l).length c2) (splitC c l).length ((natsV (splitC c l)).map (.int .i64)))) := by
  obtain ⟨i0, hi, hz0, hz1, hz2⟩ := info_parts infoI
  have HE := Lib.hid fun W (hb : Below w.heap.size w W) => hE.below hb
  have hlen := splitC_len c l
  have hmem := Lib.hid (splitC_mem c l)
  have hit := Lib.hid fun g D X W hD k0 k1 k2 hX => split_iter l c g D X W hD (by omega) k0 k1 k2 hX
  have hcS := Lib.hid fun W => c_SplitSeq ⟨l.toArray⟩ ⟨#[c]⟩ W
  clear hE
  obtain ⟨xs, hxs⟩ : ∃ xs, Hid (splitC c l = xs) := ⟨_, rfl⟩
  rw [hxs.out] at hlen hmem hit ⊢
  have hxl : xs.length ≤ 100001 := by omega
  clear hlen
  refine calls_marks Tryz.func61 rfl ?_
  simp only [Tryz.ntmps61, List.size_toArray, List.length_cons, List.length_nil, Nat.reduceAdd, Nat.reduceSub, Array.replicate_succ, Array.replicate_zero, List.push_toArray, List.append_toArray, List.nil_append, List.cons_append]
  go_upto_region 2 with fail
  have k4 := Blk.new w 23 #[.slice none 0 0]
  have k5 := Blk.new (w.alloc (.cells #[.slice none 0 0] 23)) 4 #[.bool false]
  have k6 := Blk.new ((w.alloc (.cells #[.slice none 0 0] 23)).alloc (.cells #[.bool false] 4)) 23 #[.slice none 0 0]
  simp only [World.size_alloc] at k5 k6
  replace k4 := (k4.alloc (.cells #[.bool false] 4)).alloc (.cells #[.slice none 0 0] 23)
  replace k5 := k5.alloc (.cells #[.slice none 0 0] 23)
  have hb0 := bl_al (.cells #[.slice none 0 0] 23) (bl_al (.cells #[.bool false] 4) (bl_al (.cells #[.slice none 0 0] 23) (bl_refl w)))
  have hsz : (((w.alloc (.cells #[.slice none 0 0] 23)).alloc (.cells #[.bool false] 4)).alloc (.cells #[.slice none 0 0] 23)).heap.size = w.heap.size + 3 := by simp
  generalize ((w.alloc (.cells #[.slice none 0 0] 23)).alloc (.cells #[.bool false] 4)).alloc (.cells #[.slice none 0 0] 23) = wA at *
  go_wp2_with fail
  refine (hcS.out wA).mono ?_
  rintro e w3 ⟨rfl, hb1, q0, q1, q2⟩
  rw [hsz] at q0 q1 q2 ⊢
  replace hb0 := bl_tr hb0 hb1
  replace k4 := k4.below hb1
  replace k5 := k5.below hb1
  replace k6 := k6.below hb1
  have hq2 := q2.lt
  clear hb1 hsz hcS
  obtain ⟨D, hD⟩ : ∃ D, w3.heap.size = D := ⟨_, rfl⟩
  have hDw : w.heap.size ≤ D := by omega
  rw [hD] at hq2
  have hit' := hit.out (w.heap.size + 3) D [w.heap.size, w.heap.size + 1, w.heap.size + 2] w3 hD q0 q1 q2 (by simp; omega)
  simp only [Nat.add_assoc, Nat.reduceAdd] at k6
  go_wp2
  refine wp_range4 (gf := 155) (lb := #[.pointer (some ⟨w.heap.size + 3 + 1, 0, none⟩), .pointer (some ⟨w.heap.size + 3, 0, none⟩), .pointer (some ⟨w.heap.size + 3 + 2, 0, none⟩)]) ?hg (enters_of Tryz.func155 (by kernel_rfl) rfl) (Enc := EncP) (xs := xs) [w.heap.size, w.heap.size + 1, w.heap.size + 2] [w.heap.size + 3] (by rw [hD]; exact hit') ?hps (by rw [hD]; simp; omega) (by rw [hD]; simp; omega)
    (fun pre W => natsOk pre = true ∧ (Below w.heap.size w W ∧ D ≤ W.heap.size) ∧ Blk W w.heap.size 23 #[.slice none 0 0] ∧ Blk W (w.heap.size + 1) 4 #[.bool false] ∧ ∃ v, Blk W (w.heap.size + 2) 23 #[v] ∧ W.ownsRow D 3 1 v pre.length ((natsV pre).map (.int .i64)))
    (fun c pre W => c = .ret ∧ natsOk pre = false ∧ Below w.heap.size w W ∧ Blk W w.heap.size 23 #[.slice none 0 0] ∧ Blk W (w.heap.size + 1) 4 #[.bool false])
    ?hI ?hIY ?hIx ?hIxY ?h0 ?round ?done ?stop
  case hg => rfl
  case hps => rintro x args W rfl; rfl
  case hI =>
    rintro s A B ⟨h1, ⟨h2, h3⟩, h4, h5, v, h6, h7⟩ hc
    rw [hD] at hc
    exact ⟨h1, ⟨hc.belowOf hDw h2, Nat.le_trans h3 hc.size⟩, hc.blk h4, hc.blk h5, v, hc.blk h6, CK.own h7 hc⟩
  case hIY =>
    rintro s A B ⟨h1, ⟨h2, h3⟩, h4, h5, v, h6, h7⟩ hb
    exact ⟨h1, ⟨bx_below h2 hb (by simp), Nat.le_trans h3 hb.size⟩, h4.keep (by simp) hb, h5.keep (by simp) hb, v, h6.keep (by simp) hb, own_bxT h7 hb (fun k hk => by have := own_ge h7 k hk; simp; omega)⟩
  case hIx =>
    rintro c s A B ⟨h1, h2, h3, h4, h5⟩ hc
    rw [hD] at hc
    exact ⟨h1, h2, hc.belowOf hDw h3, hc.blk h4, hc.blk h5⟩
  case hIxY =>
    rintro c s A B ⟨h1, h2, h3, h4, h5⟩ hb
    exact ⟨h1, h2, bx_below h3 hb (by simp), h4.keep (by simp) hb, h5.keep (by simp) hb⟩
  case h0 => exact ⟨rfl, ⟨hb0, by omega⟩, k4, k5, _, k6, World.ownsRow_nil _ _ _ _⟩
  case round =>
    rintro ln pre x args W ⟨h1, ⟨hb0, hWD⟩, k4, k5, v, k6, ho⟩ hpre rfl
    obtain ⟨vA, vc, rfl⟩ := own_slice ho
    have hpl : pre.length ≤ 100000 := by
      obtain ⟨r, hr⟩ := hpre
      have := congrArg List.length hr
      simp at this
      omega
    have hxm : x.length ≤ l.length := hmem.out x (by obtain ⟨r, hr⟩ := hpre; rw [← hr]; simp)
    replace ho := Lib.hid ho
    clear hit'
    gi_wp2
    refine ⟨RN.refl _ _ _, fun W2 hc => ?_⟩
    rw [hD] at hc ⊢
    replace hb0 := hc.belowOf hDw hb0
    replace k4 := hc.blk k4
    replace k5 := hc.blk k5
    replace k6 := hc.blk k6
    replace ho := Lib.hid (CK.own ho.out hc)
    replace hWD := Nat.le_trans hWD hc.size
    clear hc
    have hnum := Lib.hid (c_number ⟨x.toArray⟩ (by show x.length ≤ 1000000; omega) W2 (HE.out W2 hb0))
    obtain ⟨nx, hnx⟩ : ∃ q, Hid (natS x = q) := ⟨_, rfl⟩
    change Hid (Calls Tryz.prog 120 #[.string ⟨x.toArray⟩] W2 (fun e w' => Below W2.heap.size W2 w' ∧ ∃ v : Int, e = .returned (.tuple #[.int .i64 v, .bool (natS x).isSome]) ∧ ∀ n : Nat, natS x = some n → v = n)) at hnum
    rw [hnx.out] at hnum
    have hok := Lib.hid (natsOk_snoc pre x)
    have hov := Lib.hid (natsV_snoc pre x)
    rw [h1, hnx.out] at hok
    rw [hnx.out] at hov
    cases nx with
    | none =>
      gi_upto_region 6 with (first | (rename_i h1 h2; exact absurd h1 undef_bool) | (with_reducible refine And.intro (wide_fn _) ?_) | (gi_at_call 120; (with_reducible refine (CallsIn.inRound ln (callsIn_wide.2 hnum.out)).mono ?_); rintro e w4 ⟨hb4, nv, rfl, hnv⟩))
      replace hb0 := bl_tr hb0 hb4
      replace k4 := k4.below hb4
      replace k5 := k5.below hb4
      have hrn := RN.of_below (D := D) (X := [w.heap.size, w.heap.size + 1, w.heap.size + 2]) hb4
      clear hb4 k6 ho hWD
      have L4 := k4.cell
      have L5 := k5.cell
      have F4 := k4.frozen
      have F5 := k5.frozen
      gi_wp2
      have hset : BX [w.heap.size, w.heap.size + 1] w4 ((w4.setCell ⟨w.heap.size, 0, none⟩ (.slice none 0 0)).setCell ⟨w.heap.size + 1, 0, none⟩ (.bool false)) := bx_set (.inl (by simp)) _ (bx_set (.inl (by simp)) _ (bx_refl _ w4))
      exact ⟨hrn.trans (RN.of_bx hset (fun z hz => .inl (by simp at hz ⊢; omega))), rfl, by rw [hok.out]; rfl, bx_below hb0 hset (by simp), (k4.set 0 _).keep (X := [w.heap.size + 1]) (by simp) (bx_set (.inl (by simp)) _ (bx_refl _ _)), (k5.keep (X := [w.heap.size]) (by simp) (bx_set (.inl (by simp)) _ (bx_refl _ _))).set 0 _⟩
    | some nn =>
      gi_upto_region 7 with (first | (rename_i h1 h2; exact absurd h1 undef_bool) | (with_reducible refine And.intro (wide_fn _) ?_) | (gi_at_call 120; (with_reducible refine (CallsIn.inRound ln (callsIn_wide.2 hnum.out)).mono ?_); rintro e w4 ⟨hb4, nv, rfl, hnv⟩))
      obtain rfl := hnv nn rfl
      replace hb0 := bl_tr hb0 hb4
      replace k4 := k4.below hb4
      replace k5 := k5.below hb4
      replace k6 := k6.below hb4
      replace ho := Lib.hid (own_below ho.out hb4)
      have hw4 := Nat.le_trans hWD hb4.size
      have hrn := RN.of_below (D := D) (X := [w.heap.size, w.heap.size + 1, w.heap.size + 2]) hb4
      clear hb4
      have L6 := k6.cell
      have F6 := k6.frozen
      have hoA := Lib.hid (own_below ho.out (bl_al (.cells #[.int .i64 (nn : Int)] 3) (bl_refl w4)))
      gi_wp2_with (gi_at_builtin; refine wpListIn_append_own2 rfl _ _ 23 rfl D 3 i0 (.int .i64 0) 1 8 Tryz.underlying23 hi hz0 hz1 hz2 rfl (by decide) _ _ _ rfl hoA.out ⟨_, 0, none⟩ 1 1 [.int .i64 (nn : Int)] rfl rfl ?c1 ?c2 ?c3 ?c4 ?c5 ?_)
      try case c1 =>
        intro q u hq
        match q, hq with
        | 0, hq => simp at hq; subst hq; simp [Addr.add]
        | q + 1, hq => simp at hq
      case c2 => first | (intro u hu; simp at hu; subst hu; rfl) | rfl
      case c3 => unfold maxLen; omega
      case c4 => omega
      case c5 => first | omega | (simp; omega)
      intro v9 w9 hown hg2 hd2
      obtain ⟨vC, ve, rfl⟩ := own_slice hown
      have hrn9 := hrn.trans ((RN.of_below (D := D) (X := [w.heap.size, w.heap.size + 1, w.heap.size + 2]) (bl_al (.cells #[.int .i64 (nn : Int)] 3) (bl_refl w4))).trans (RN.of_grown hoA.out hg2))
      have hne : ∀ g, g < D → some g ≠ (Value.slice vA pre.length vc).ownBlock := fun g hg h => by have := own_ge hoA.out g h.symm; omega
      have k49 := (k4.alloc (.cells #[.int .i64 (nn : Int)] 3)).grown hg2 (hne _ (by omega))
      have k59 := (k5.alloc (.cells #[.int .i64 (nn : Int)] 3)).grown hg2 (hne _ (by omega))
      have k69 := (k6.alloc (.cells #[.int .i64 (nn : Int)] 3)).grown hg2 (hne _ (by omega))
      have hb9 := (bl_al (.cells #[.int .i64 (nn : Int)] 3) hb0).grown hg2 (by simp; omega) (fun k hk => by have := own_ge hoA.out k hk; omega)
      have hset : BX [w.heap.size + 2] w9 (w9.setCell ⟨w.heap.size + 2, 0, none⟩ (.slice vC (pre.length + 1) ve)) := bx_set (.inl (by simp)) _ (bx_refl _ w9)
      have hown10 := Lib.hid (own_bxT hown hset (fun k hk => by have := own_ge hown k hk; simp; omega))
      have hsz9 : D ≤ w9.heap.size := Nat.le_trans hw4 (Nat.le_trans (by simp) hg2.size)
      clear hown hg2 hd2 hoA ho hrn k4 k5 k6 L6 F6
      have L6 := k69.cell
      have F6 := k69.frozen
      gi_wp2
      exact ⟨hrn9.trans (RN.of_bx hset (fun z hz => .inl (by simp at hz ⊢; omega))), by rw [hok.out]; rfl, ⟨bx_below hb9 hset (by simp), Nat.le_trans hsz9 hset.size⟩, k49.keep (by simp) hset, k59.keep (by simp) hset, _, k69.set 0 _, by have h := hown10.out; rw [hov.out, List.length_append, List.map_append]; exact h⟩
  case done =>
    rintro W ⟨h1, ⟨hb0, hWD⟩, k4, k5, v, k6, ho⟩ hK
    clear hit'
    subst hD
    obtain ⟨vA, vc, rfl⟩ := own_slice ho
    replace ho := Lib.hid ho
    have hnl := Lib.hid (natsV_len xs)
    have L4 := k4.cell
    have L5 := k5.cell
    have L6 := k6.cell
    have F4 := k4.frozen
    have F5 := k5.frozen
    go_wp2
    have hset : BX [w.heap.size, w.heap.size + 1] W ((W.setCell ⟨w.heap.size, 0, none⟩ (.slice vA xs.length vc)).setCell ⟨w.heap.size + 1, 0, none⟩ (.bool true)) := bx_set (.inl (by simp)) _ (bx_set (.inl (by simp)) _ (bx_refl _ W))
    have q4 : Blk ((W.setCell ⟨w.heap.size, 0, none⟩ (.slice vA xs.length vc)).setCell ⟨w.heap.size + 1, 0, none⟩ (.bool true)) w.heap.size 23 #[.slice vA xs.length vc] := (k4.set 0 _).keep (X := [w.heap.size + 1]) (by simp) (bx_set (.inl (by simp)) _ (bx_refl _ _))
    have q5 : Blk ((W.setCell ⟨w.heap.size, 0, none⟩ (.slice vA xs.length vc)).setCell ⟨w.heap.size + 1, 0, none⟩ (.bool true)) (w.heap.size + 1) 4 #[.bool true] := (k5.keep (X := [w.heap.size]) (by simp) (bx_set (.inl (by simp)) _ (bx_refl _ _))).set 0 _
    have hK2 : ((W.setCell ⟨w.heap.size, 0, none⟩ (.slice vA xs.length vc)).setCell ⟨w.heap.size + 1, 0, none⟩ (.bool true)).heap[w3.heap.size]? = some (.deferred (some [])) := (hset.block w3.heap.size (Array.getElem?_eq_some_iff.1 hK).1 (by simp; omega)).trans hK
    have hob := own_bxT ho.out hset (fun k hk => by have := own_ge ho.out k hk; simp; omega)
    have hbb := bx_below hb0 hset (by simp)
    generalize (W.setCell ⟨w.heap.size, 0, none⟩ (.slice vA xs.length vc)).setCell ⟨w.heap.size + 1, 0, none⟩ (.bool true) = Wz at *
    have hck := CK.put (D := w3.heap.size) (.deferred none) hK2 rfl (Nat.le_refl _)
    have r4 := (hck.blk q4).cell 0
    have r5 := (hck.blk q5).cell 0
    refine postM_taken hK2 (v := .tuple #[.slice vA xs.length vc, .bool true]) (by simp [results, Tryz.results61, go_sem, r4, r5]) ⟨hck.belowOf hDw hbb, fun h => (by rw [h1] at h; cases h), fun _ => ⟨vA, vc, rfl, own_mono hDw (CK.own hob hck)⟩⟩
  case stop =>
    rintro c' pre W hpre ⟨rfl, hno, hb0, k4, k5⟩ hK
    clear hit'
    subst hD
    have hno' := natsOk_prefix hpre hno
    go_wp2
    have hck := CK.put (D := w3.heap.size) (.deferred none) hK rfl (Nat.le_refl _)
    have r4 := (hck.blk k4).cell 0
    have r5 := (hck.blk k5).cell 0
    refine postM_taken hK (v := .tuple #[.slice none 0 0, .bool false]) (by simp [results, Tryz.results61, go_sem, r4, r5]) ⟨hck.belowOf hDw hb0, fun _ => rfl, fun h => (by rw [hno'] at h; cases h)⟩
end Go.Proofs.YtbdgblnccjpahaaGreatDoor
namespace Go.Proofs.YtbdgblnccjpahaaGreatDoor
open Go.RowKit Go.Shelf
attribute [local go_sem] bl_al bl_drew bl_drewN bl_refl bx_al bx_drew bx_drewN bx_refl
set_option maxRecDepth 20000
theorem infoStr : (Tryz.prog.info? 9).map (fun i => (i.zero, i.size, i.bytes)) = some (some (.string ByteArray.empty), 1, 16) := by kernel_rfl
/-- A string's bytes as a cell. -/
def cB (b : List UInt8) : List Value := [.string ⟨b.toArray⟩]
theorem c_JoinB (xs : List (List UInt8)) (sep : List UInt8) (A : Option Addr) (c : Nat) (w : World) (hs : Sl cB 1 w A xs) (hc : xs.length ≤ c) (hn : xs.length ≤ 1000000) (hl : (Lib.join xs sep).length ≤ 140737488355328) :
    Calls Tryz.prog 63 #[.slice A xs.length c, .string ⟨sep.toArray⟩] w (Ret (.string ⟨(Lib.join xs sep).toArray⟩) w) := by
  cases xs with
  | nil => exact (Tryz.strings_Join_none A c ⟨sep.toArray⟩ w).mono fun e w' ⟨he, hw⟩ => ⟨by rw [he]; rfl, by rw [hw]; exact bl_refl w⟩
  | cons x r =>
    obtain ⟨b, off, rfl, h0⟩ := hs 0 x rfl
    have hbk : b < w.heap.size := World.block_lt_of_cell? _ _ (h0 0 _ rfl)
    have he : ((x :: r).map fun l : List UInt8 => (⟨l.toArray⟩ : ByteArray)).map (·.data.toList) = x :: r := by simp [Function.comp_def]
    have h := Tryz.strings_Join b off c ((x :: r).map fun l : List UInt8 => (⟨l.toArray⟩ : ByteArray)) ⟨sep.toArray⟩ w (fun j y hj => by
      rw [List.getElem?_map] at hj
      cases hx : (x :: r)[j]? with
      | none => rw [hx] at hj; cases hj
      | some z =>
        rw [hx] at hj
        injection hj with hj
        subst hj
        obtain ⟨b', off', e, hcell⟩ := hs j z hx
        injection e with e
        injection e with e1 e2 _
        subst e1 e2
        have := hcell 0 _ rfl
        simpa using this) hbk (by rw [List.length_map]; omega) (by rw [List.length_map]; exact hc) (by rw [he]; exact hl)
    rw [he, List.length_map] at h
    exact h
theorem join_len (xs : List (List UInt8)) (sep : List UInt8) (m : Nat) (h : ∀ x ∈ xs, x.length ≤ m) : (Lib.join xs sep).length ≤ xs.length * (m + sep.length) := by
  cases xs with
  | nil => simp [Lib.join_nil]
  | cons x r =>
    rw [Lib.join_cons, List.length_append]
    have h1 := h x (by simp)
    have key : ∀ r : List (List UInt8), (∀ x ∈ r, x.length ≤ m) → (Lib.joinTail sep r).length ≤ r.length * (m + sep.length) := by
      intro r
      induction r with
      | nil => intro _; simp [Lib.joinTail]
      | cons y r ih =>
        intro hh
        have h2 := hh y (by simp)
        have h3 := ih (fun x hx => hh x (by simp [hx]))
        simp only [Lib.joinTail, List.map_cons, List.flatten_cons, List.length_append, List.length_cons] at h3 ⊢
        rw [Nat.add_mul]
        omega
    have h2 := key r (fun x hx => h x (by simp [hx]))
    rw [List.length_cons, Nat.add_mul]
    omega
/-- Numbers, each as a string. -/
def itoas (l : List Int) : List (List UInt8) := l.map Lib.itoa
def Fits (n : Int) : Prop := -9223372036854775808 ≤ n ∧ n ≤ 9223372036854775807
set_option maxHeartbeats 4000000 in
theorem c_joined (L : List Int) (sep : UInt8) (A : Option Addr) (c : Nat) (w : World) (hs : Sl cI 1 w A L) (hl : L.length ≤ 1000) (hf : ∀ n ∈ L, Fits n) (hE : Env w) :
    Calls Tryz.prog 62 #[.slice A L.length c, .string ⟨#[sep]⟩] w (Ret (.string ⟨(Lib.join (itoas L) [sep]).toArray⟩) w) := by
  obtain ⟨i0, hi, hz0, hz1, hz2⟩ := info_parts infoStr
  have Hs := Lib.hid hs
  have HE := Lib.hid fun W (hb : Below w.heap.size w W) => hE.below hb
  have hjl : (Lib.join (itoas L) [sep]).length ≤ 140737488355328 := by
    have := join_len (itoas L) [sep] 21 (fun x hx => by
      obtain ⟨n, hn, rfl⟩ := List.mem_map.1 hx
      exact Lib.itoa_length_le n (hf n hn).1 (hf n hn).2)
    simp [itoas] at this
    unfold itoas
    omega
  have hJ := Lib.hid fun A' c' W h hc => c_JoinB (itoas L) [sep] A' c' W h hc (by simp [itoas]; omega) hjl
  have hIt := Lib.hid fun n (hn : n ∈ L) W (hW : Env W) => c_Itoa n (hf n hn).1 (hf n hn).2 W hW
  have h0 : Hid (itoas (L.take 0) = []) := rfl
  have hst := Lib.hid fun k n (h : L[k]? = some n) => (show itoas (L.take (k + 1)) = itoas (L.take k) ++ [Lib.itoa n] by rw [List.take_add_one, h]; simp [itoas])
  have hend : Hid (itoas (L.take L.length) = itoas L) := Lib.hid (by rw [List.take_length])
  have hlen : Hid ((itoas L).length = L.length) := Lib.hid (by simp [itoas])
  clear hs hE hjl
  obtain ⟨g, hg⟩ : ∃ g : Nat → List (List UInt8), ∀ k, itoas (L.take k) = g k := ⟨_, fun _ => rfl⟩
  simp only [hg] at h0 hst hend
  clear hg hf
  generalize Lib.join (itoas L) [sep] = J at *
  generalize itoas L = S at *
  obtain ⟨n, Hn⟩ : ∃ n, Hid (L.length = n) := ⟨_, rfl⟩
  rw [Hn.out] at hl hend hlen ⊢
  rw [hlen.out] at hJ
  go_enter Tryz.func62, Tryz.ntmps62
  go_wp2
  go_loopw [5, 10] (fun v i wr => ∃ k : Nat, k ≤ n ∧ i = .int .i64 k ∧ Below w.heap.size w wr ∧ wr.ownsRow w.heap.size 9 1 v k ((g k).flatMap cB)) (fun _ i _ => n - (intOf i).toNat)
  case atStart => exact ⟨0, Nat.zero_le _, rfl, bl_refl _, by rw [h0.out]; exact World.ownsRow_nil _ _ _ _⟩
  case round =>
    obtain ⟨k, hk, rfl, hb0, ho⟩ := hrel
    obtain ⟨vA, vc, rfl⟩ := own_slice ho
    replace ho := Lib.hid ho
    by_cases hkn : k < n
    rotate_left
    · obtain rfl : n = k := by omega
      rw [hend.out] at ho
      have hsl : Sl cB 1 wr vA S := own_slC (cs := cB) (fun _ => rfl) (by decide) (by rw [hlen.out]; exact ho.out)
      have hcap : n ≤ vc := by
        rcases ho.out.2 with ⟨h, -⟩ | ⟨_, _, _, e, _, _, h, _⟩
        · injection h with _ h1 h2
          omega
        · injection e with _ _ e
          omega
      go_wp2_with fail
      refine (hJ.out _ _ _ hsl hcap).mono ?_
      rintro e w1 ⟨rfl, hb1⟩
      go_wp2
      go_ret
      exact ⟨rfl, bl_tr hb0 hb1⟩
    have hx : L[k]? = some (L[k]'(by rw [Hn.out]; exact hkn)) := List.getElem?_eq_getElem _
    generalize L[k]'(by rw [Hn.out]; exact hkn) = x at hx
    have hgn := Lib.hid (hst.out k x hx)
    have hIx := Lib.hid (hIt.out x (List.mem_of_getElem? hx))
    obtain ⟨b, off, rfl, hc⟩ := Hs.out k x hx
    have c0 : wr.cell? ⟨b, off + k, none⟩ = some (.int .i64 x) := by simpa using kcell hb0 (hc 0 _ rfl)
    clear hc hx
    have hEw := HE.out wr hb0
    go_wp2_with fail
    refine (hIx.out wr hEw).mono ?_
    rintro e w1 ⟨rfl, hb1⟩
    generalize Lib.itoa x = s at *
    replace hb0 := bl_tr hb0 hb1
    replace ho := Lib.hid (own_below ho.out hb1)
    clear hb1 c0 hEw
    have hszA := hb0.size
    have hoA := Lib.hid (own_below ho.out (bl_al (.cells #[.string ⟨s.toArray⟩] 9) (bl_refl w1)))
    go_wp2_with (at_builtin; refine wpList_append_own2 rfl _ _ 54 rfl w.heap.size 9 i0 (.string ByteArray.empty) 1 16 Tryz.underlying54 hi hz0 hz1 hz2 rfl (by decide) _ _ _ rfl hoA.out ⟨_, 0, none⟩ 1 1 (cB s) rfl rfl ?c1 ?c2 ?c3 ?c4 ?c5 ?_)
    try case c1 =>
      intro q u hq
      match q, hq with
      | 0, hq => simp [cB] at hq; subst hq; simp [Addr.add]
      | q + 1, hq => simp [cB] at hq
    case c2 => first | (intro u hu; simp [cB] at hu; subst hu; rfl) | rfl
    case c3 => unfold maxLen; omega
    case c4 => omega
    case c5 => first | omega | (simp; omega)
    intro v9 w9 hown hg2 hd2
    have hb9 := (bl_al (.cells #[.string ⟨s.toArray⟩] 9) hb0).grown hg2 (by simp; omega) (own_ge hoA.out)
    have hown9 := Lib.hid (show w9.ownsRow w.heap.size 9 1 v9 (k + 1) ((g (k + 1)).flatMap cB) by rw [hgn.out, List.flatMap_append]; simpa using hown)
    clear hg2 hd2 hown hoA
    go_wp2
    go_roundw
    case rel => exact ⟨k + 1, by omega, by go_num, hb9, hown9.out⟩
    case measure => simp [intOf]; omega
end Go.Proofs.YtbdgblnccjpahaaGreatDoor
namespace Go.Proofs.YtbdgblnccjpahaaGreatDoor
open Go.RowKit Go.Shelf
attribute [local go_sem] bl_al bl_drew bl_drewN bl_refl
set_option maxRecDepth 20000
theorem letter_in (c : UInt8) : letter c = (inR (c.toNat : Int) 97 122 || inR (c.toNat : Int) 65 90) := by
  rw [Bool.eq_iff_iff, letter_iff, Bool.or_eq_true, inR_iff, inR_iff]
  omega
theorem other_in (c : UInt8) : other c = (inR (c.toNat : Int) 48 57 || ((c.toNat : Int) == 45)) := by
  rw [Bool.eq_iff_iff, other_iff, Bool.or_eq_true, inR_iff, beq_iff_eq]
  omega
set_option maxHeartbeats 1000000 in
theorem c_isName (s : ByteArray) (w : World) (hs : s.size ≤ maxLen) : Calls Tryz.prog 100 #[.string s] w (Same (.bool (nameB s)) w) := by
  unfold maxLen at hs
  have hR : Hid (nameB s = (nameFrom 0 s.data.toList && inR s.size 1 12)) := rfl
  have hend : Hid (nameFrom s.size (s.data.toList.drop s.size) = true) := by
    rw [List.drop_of_length_le (by simp)]
    exact Lib.hid rfl
  have hst : Hid (∀ k (h : k < s.size), nameFrom k (s.data.toList.drop k) = (((inR (s[k].toNat : Int) 97 122 || inR (s[k].toNat : Int) 65 90) || (decide (k ≠ 0) && (inR (s[k].toNat : Int) 48 57 || ((s[k].toNat : Int) == 45)))) && nameFrom (k + 1) (s.data.toList.drop (k + 1)))) := fun k h => by
    have := nameFrom_drop s.data.toList k s[k] (by
      rw [List.getElem?_eq_getElem (by simpa using h)]
      rfl)
    rw [this, letter_in, other_in]
  obtain ⟨nf, hnf⟩ : ∃ nf : Nat → Bool, ∀ k, nameFrom k (s.data.toList.drop k) = nf k := ⟨_, fun _ => rfl⟩
  have h0 : Hid (nameFrom 0 s.data.toList = nf 0) := hnf 0
  simp only [hnf] at hst hend
  clear hnf
  go_enter Tryz.func100, Tryz.ntmps100
  go_wp2
  go_loop [8] (fun i => ∃ k : Nat, k ≤ s.size ∧ i = .int .i64 k ∧ nf 0 = nf k) (fun i => s.size - (intOf i).toNat)
  case atStart => exact ⟨0, Nat.zero_le _, rfl, rfl⟩
  case round =>
    obtain ⟨k, hk, rfl, hi⟩ := hrel
    replace hi := Lib.hid hi
    by_cases hlt : k < s.size
    · have hd := Lib.hid (hst.out k hlt)
      have hm0 : s[k].toNat < 256 := s[k].toNat_lt
      cases h1 : inR (s[k].toNat : Int) 97 122
      case true =>
        rw [h1] at hd
        go_wp2_with (go_at_call 71; (with_reducible refine (c_within _ _ _ _).mono ?_); rintro e w3 ⟨rfl, rfl⟩)
        go_round
        case rel => exact ⟨k + 1, by omega, by go_num, by rw [hi.out, hd.out]; simp⟩
        case measure => simp [intOf]; omega
      cases h2 : inR (s[k].toNat : Int) 65 90
      case true =>
        rw [h1, h2] at hd
        go_wp2_with (go_at_call 71; (with_reducible refine (c_within _ _ _ _).mono ?_); rintro e w3 ⟨rfl, rfl⟩)
        go_round
        case rel => exact ⟨k + 1, by omega, by go_num, by rw [hi.out, hd.out]; simp⟩
        case measure => simp [intOf]; omega
      by_cases hk0 : k = 0
      · subst hk0
        rw [h1, h2] at hd
        go_wp2_with (go_at_call 71; (with_reducible refine (c_within _ _ _ _).mono ?_); rintro e w3 ⟨rfl, rfl⟩)
        go_ret
        exact ⟨by rw [hR.out, h0.out, hd.out]; simp, rfl⟩
      have hk0' : ((k : Int) == 0) = false := by simp; omega
      have hdk : decide (k ≠ 0) = true := by simp; omega
      rw [hdk] at hd
      clear hdk
      cases h3 : ((s[k].toNat : Int) == 45)
      case true =>
        have h3' : ((s[k].toNat : Int) != 45) = false := by simp [bne, h3]
        rw [h1, h2, h3] at hd
        go_wp2_with (go_at_call 71; (with_reducible refine (c_within _ _ _ _).mono ?_); rintro e w3 ⟨rfl, rfl⟩)
        go_round
        case rel => exact ⟨k + 1, by omega, by go_num, by rw [hi.out, hd.out]; simp⟩
        case measure => simp [intOf]; omega
      have h3' : ((s[k].toNat : Int) != 45) = true := by simp [bne, h3]
      cases h4 : inR (s[k].toNat : Int) 48 57
      case true =>
        rw [h1, h2, h3, h4] at hd
        go_wp2_with (go_at_call 71; (with_reducible refine (c_within _ _ _ _).mono ?_); rintro e w3 ⟨rfl, rfl⟩)
        go_round
        case rel => exact ⟨k + 1, by omega, by go_num, by rw [hi.out, hd.out]; simp⟩
        case measure => simp [intOf]; omega
      rw [h1, h2, h3, h4] at hd
      go_wp2_with (go_at_call 71; (with_reducible refine (c_within _ _ _ _).mono ?_); rintro e w3 ⟨rfl, rfl⟩)
      go_ret
      exact ⟨by rw [hR.out, h0.out, hi.out, hd.out]; simp, rfl⟩
    · have hke : k = s.size := by omega
      have h5 : Hid (nf 0 = true) := by rw [hi.out, hke]; exact hend
      go_wp2_with (go_at_call 71; (with_reducible refine (c_within _ _ _ _).mono ?_); rintro e w3 ⟨rfl, rfl⟩)
      go_ret
      exact ⟨by rw [hR.out, h0.out, h5.out] <;> rfl, rfl⟩
end Go.Proofs.YtbdgblnccjpahaaGreatDoor
namespace Go.Proofs.YtbdgblnccjpahaaGreatDoor
theorem crc1_lt {r : Nat} (h : r < 256) : crc1 r < 256 := by
  have : ∀ r : _root_.Fin 256, crc1 r.1 < 256 := by decide +kernel
  exact this ⟨r, h⟩
theorem crcK_lt : ∀ (k : Nat) {r : Nat}, r < 256 → crcK k r < 256
  | 0, _, h => h
  | k + 1, _, h => crcK_lt k (crc1_lt h)
theorem xor_byte {a b : Nat} (ha : a < 256) (hb : b < 256) : a ^^^ b < 256 := Nat.xor_lt_two_pow (n := 8) ha hb
theorem remN_lt : ∀ (l : List Nat) {r : Nat}, r < 256 → (∀ n ∈ l, n < 256) → remN l r < 256
  | [], _, h, _ => h
  | n :: l, _, h, hl => remN_lt l (crcK_lt 8 (xor_byte h (hl n (by simp)))) fun m hm => hl m (by simp [hm])
theorem bytes_ok {l : List Int} (h : bytesE l = 0) : ∀ n ∈ l, 0 ≤ n ∧ n ≤ 255 := fun n hn => by
  obtain ⟨j, hj, rfl⟩ := List.getElem_of_mem hn
  have := eachS_ok _ l 0 h j l[j] (List.getElem?_eq_getElem hj)
  rw [unl_zero (by decide)] at this
  exact inR_iff.1 this
theorem remI_lt {l : List Int} (h : ∀ n ∈ l, 0 ≤ n ∧ n ≤ 255) : remI l < 256 := remN_lt _ (by decide) fun n hn => by
  obtain ⟨m, hm, rfl⟩ := List.mem_map.1 hn
  have := h m hm
  omega
theorem remN_snoc : ∀ (l : List Nat) (n r : Nat), remN (l ++ [n]) r = crcK 8 (remN l r ^^^ n)
  | [], _, _ => rfl
  | _ :: l, n, _ => remN_snoc l n _
theorem bytesE_zero {l : List Int} (h : ∀ n ∈ l, 0 ≤ n ∧ n ≤ 255) : bytesE l = 0 := by
  unfold bytesE
  rw [eachS_zero]
  intro j x hx
  rw [unl_zero (by decide)]
  exact inR_iff.2 (h x (List.mem_of_getElem? hx))
end Go.Proofs.YtbdgblnccjpahaaGreatDoor
namespace Go.Proofs.YtbdgblnccjpahaaGreatDoor
open Go.RowKit Go.Shelf
attribute [local go_sem] bl_al bl_drew bl_drewN bl_refl
set_option maxRecDepth 20000
theorem Same.ret {v : Value} {w w' : World} {e : Ending} (h : Same v w e w') : Ret v w e w' := by
  obtain ⟨rfl, rfl⟩ := h
  exact ⟨rfl, bl_refl w⟩
theorem c_bytesErr1 (k x : Int) (w : World) : Calls Tryz.prog 132 #[.int .i64 k, .int .i64 x] w (Same (.int .i64 (unl (byteB x) 2)) w) := by
  go_enter Tryz.func132, Tryz.ntmps132
  go_wp2_with (first | (go_at_call 130; (with_reducible refine (c_isByte _ _).mono ?_); rintro e w3 ⟨rfl, rfl⟩) | (go_at_call 58; (with_reducible refine (c_unless _ _ _).mono ?_); rintro e w3 ⟨rfl, rfl⟩))
  go_ret
  exact ⟨rfl, rfl⟩
theorem c_bytesErr (l : List Int) (A : Option Addr) (c : Nat) (w : World) (hl : l.length ≤ 1000000) (hr : Sl cI 1 w A l) : Calls Tryz.prog 80 #[.slice A l.length c] w (Ret (.int .i64 (bytesE l)) w) := by
  have hcall := Lib.hid (c_eachI 132 #[] (fun _ n => unl (byteB n) 2) A l c w hl (enters_of Tryz.func132 (by kernel_rfl) rfl) (fun k x _ W _ => (c_bytesErr1 k x W).mono fun _ _ h => h.ret) hr)
  have he : Hid ((eachS (fun _ n => unl (byteB n) 2) l 0).2 = bytesE l) := rfl
  clear hr
  generalize l.length = n at *
  go_enter Tryz.func80, Tryz.ntmps80
  go_wp2_with fail
  refine hcall.out.mono ?_
  rintro e w3 ⟨rfl, hb3⟩
  go_wp2
  go_ret
  exact ⟨by rw [he.out] <;> rfl, hb3⟩
theorem i64_xor (a b : Nat) (ha : a < 1024) (hb : b < 1024) : bits .xor .i64 (a : Int) (b : Int) = ((a ^^^ b : Nat) : Int) := by
  have hx : a ^^^ b < 2 ^ 10 := Nat.xor_lt_two_pow ha hb
  have h1 : (BitVec.ofInt 64 (a : Int)).toNat = a := by
    rw [BitVec.ofInt_natCast, BitVec.toNat_ofNat]; exact Nat.mod_eq_of_lt (by omega)
  have h2 : (BitVec.ofInt 64 (b : Int)).toNat = b := by
    rw [BitVec.ofInt_natCast, BitVec.toNat_ofNat]; exact Nat.mod_eq_of_lt (by omega)
  show IntKind.i64.wrap ((BitVec.ofInt 64 (a : Int) ^^^ BitVec.ofInt 64 (b : Int)).toNat : Int) = _
  rw [BitVec.toNat_xor, h1, h2]
  exact IntWalk.i64_in _ (by omega)
theorem crcK_succ : ∀ (k r : Nat), crcK (k + 1) r = crc1 (crcK k r)
  | 0, _ => rfl
  | k + 1, r => crcK_succ k (crc1 r)
theorem crc_hi {s : Nat} (hs : s < 256) (h : 256 ≤ 2 * s) : bits .xor .i64 ((s : Int) * 2) 263 = ((crc1 s : Nat) : Int) := by
  have := i64_xor (2 * s) 263 (by omega) (by omega)
  rw [show ((2 * s : Nat) : Int) = (s : Int) * 2 by omega, show ((263 : Nat) : Int) = 263 from rfl] at this
  rw [this]
  unfold crc1
  rw [if_pos h]
theorem crc_lo {s : Nat} (h : ¬ 256 ≤ 2 * s) : ((s : Int) * 2) = ((crc1 s : Nat) : Int) := by
  unfold crc1
  rw [if_neg h]
  omega
set_option maxHeartbeats 2000000 in
theorem c_remainder (l : List Int) (A : Option Addr) (c : Nat) (w : World) (hl : l.length ≤ 1000000) (hb : ∀ n ∈ l, 0 ≤ n ∧ n ≤ 255) (hr : Sl cI 1 w A l) : Calls Tryz.prog 78 #[.slice A l.length c] w (Same (.int .i64 (remI l : Nat)) w) := by
  have Hr := Lib.hid hr
  clear hr
  have hlast : Hid (remN ((l.map Int.toNat).take l.length) 0 = remI l) := by rw [List.take_of_length_le (by simp)]; exact Lib.hid rfl
  have hstep : Hid (∀ k x, l[k]? = some x → remN ((l.map Int.toNat).take (k + 1)) 0 = crcK 8 (remN ((l.map Int.toNat).take k) 0 ^^^ x.toNat)) := fun k x hx => by
    rw [List.take_add_one, List.getElem?_map, hx]
    exact remN_snoc _ _ _
  have hlt : Hid (∀ k, remN ((l.map Int.toNat).take k) 0 < 256) := fun k => remN_lt _ (by decide) fun n hn => by
    obtain ⟨m, hm, rfl⟩ := List.mem_map.1 (List.mem_of_mem_take hn)
    have := hb m hm
    omega
  have hbd := Lib.hid fun k x (hx : l[k]? = some x) => hb x (List.mem_of_getElem? hx)
  have h0 : Hid (remN ((l.map Int.toNat).take 0) 0 = 0) := rfl
  generalize (fun k => remN ((l.map Int.toNat).take k) 0) = R at *
  obtain ⟨R, hR⟩ : ∃ R : Nat → Nat, ∀ k, remN ((l.map Int.toNat).take k) 0 = R k := ⟨_, fun _ => rfl⟩
  simp only [hR] at hlast hstep hlt h0
  clear hR hb
  obtain ⟨n, Hn⟩ : ∃ n, Hid (l.length = n) := ⟨_, rfl⟩
  rw [Hn.out] at hl hlast ⊢
  go_enter Tryz.func78, Tryz.ntmps78
  go_wp2
  go_loop [3, 8] (fun r i => ∃ k : Nat, k ≤ n ∧ i = .int .i64 k ∧ r = .int .i64 (R k : Nat)) (fun _ i => n - (intOf i).toNat)
  case atStart => exact ⟨0, Nat.zero_le _, rfl, by rw [h0.out]; rfl⟩
  case round =>
    obtain ⟨k, hk, rfl, rfl⟩ := hrel
    by_cases hltn : k < n
    · have hx : l[k]? = some (l[k]'(by rw [Hn.out]; exact hltn)) := List.getElem?_eq_getElem _
      generalize l[k]'(by rw [Hn.out]; exact hltn) = x at hx
      obtain ⟨b, off, rfl, hc⟩ := Hr.out k x hx
      have c0 : w.cell? ⟨b, off + k, none⟩ = some (.int .i64 x) := by simpa using hc 0 _ rfl
      clear hc
      have hbx := hbd.out k x hx
      obtain ⟨m, rfl⟩ : ∃ m : Nat, x = m := ⟨x.toNat, by omega⟩
      have hRk := hlt.out k
      have hxor := i64_xor (R k) m (by omega) (by omega)
      have hs := hstep.out k m hx
      have hb8 := xor_byte hRk (show m < 256 by omega)
      rw [Int.toNat_natCast] at hs
      replace hs := Lib.hid hs
      generalize hy : R k ^^^ m = y at *
      replace hxor := Lib.hid hxor
      clear hy hx
      go_wp2_with (simp only [hxor.out])
      go_loop [3, 15] (fun r i => ∃ j : Nat, j ≤ 8 ∧ i = .int .i64 j ∧ r = .int .i64 (crcK j y : Nat)) (fun _ i => 8 - (intOf i).toNat)
      case atStart => exact ⟨0, by omega, rfl, rfl⟩
      case round =>
        obtain ⟨j, hj, rfl, rfl⟩ := hrel
        by_cases hj8 : j < 8
        · have hs1 := crcK_lt j hb8
          have hsc := Lib.hid (crcK_succ j y)
          generalize hg : crcK j y = s at *
          replace hg := Lib.hid hg
          by_cases h2 : 256 ≤ 2 * s
          · have e := Lib.hid (crc_hi hs1 h2)
            go_wp2_with (simp only [e.out])
            go_round
            case rel => exact ⟨j + 1, by omega, by go_num, by rw [hsc.out]⟩
            case measure => simp [intOf]; omega
          · have e := Lib.hid (crc_lo h2)
            go_wp2
            go_round
            case rel => exact ⟨j + 1, by omega, by go_num, by rw [hsc.out, ← e.out]⟩
            case measure => simp [intOf]; omega
        · have : j = 8 := by omega
          subst this
          go_wp2
          go_round
          case rel => exact ⟨k + 1, by omega, by go_num, by rw [hs.out]⟩
          case measure => simp [intOf]; omega
    · go_wp2
      go_ret
      have : k = n := by omega
      exact ⟨by rw [this, hlast.out] <;> rfl, rfl⟩
end Go.Proofs.YtbdgblnccjpahaaGreatDoor
namespace Go.Proofs.YtbdgblnccjpahaaGreatDoor
open Go.RowKit Go.Shelf
attribute [local go_sem] bl_al bl_drew bl_drewN bl_refl bx_al bx_drew bx_drewN bx_refl
set_option maxRecDepth 20000
/-- Streams lie where the header of their slice says; so many at most. -/
structure SmIn (l : List Sm) (A : Option Addr) (c : Nat) (w : World) : Prop where
  len : l.length ≤ 1000
  cap : l.length ≤ c
  nm : ∀ s ∈ l, s.name.size ≤ maxLen
  sl : Sl cSm 4 w A l
theorem SmIn.below {l : List Sm} {A : Option Addr} {c : Nat} {w w' : World} (h : SmIn l A c w) (hb : Below w.heap.size w w') : SmIn l A c w' := ⟨h.len, h.cap, h.nm, h.sl.below hb⟩
theorem c_smNm (x : Sm) (nm : ByteArray) (B : Nat) (w : World) (hB : w.cell? ⟨B, 0, none⟩ = some (.string nm)) :
    Calls Tryz.prog 99 #[vSm x, .pointer (some ⟨B, 0, none⟩)] w (Ret (.bool (x.name.toList == nm.toList)) w) := by
  have hB' := later hB
  have hlt := World.block_lt_of_cell? w _ hB
  clear hB
  have hn : B ≠ w.heap.size := Nat.ne_of_lt hlt
  go_enter Tryz.func99, Tryz.ntmps99
  go_wp2
  go_ret
  exact ⟨rfl, by solve_by_elim (maxDepth := 60) only [bl_al, bl_drew, bl_drewN, bl_refl, *]⟩
set_option maxHeartbeats 2000000 in
theorem c_smErr (l : List Sm) (A : Option Addr) (c B i : Nat) (x : Sm) (w : World) (hi : l[i]? = some x) (hl : l.length ≤ 1000000) (hcap : l.length ≤ c) (hx : x.name.size ≤ maxLen)
    (hc : w.cell? ⟨B, 0, none⟩ = some (.slice A l.length c)) (hs : Sl cSm 4 w A l) :
    Calls Tryz.prog 97 #[.int .i64 (i : Nat), vSm x, .pointer (some ⟨B, 0, none⟩)] w (Ret (.int .i64 (smErr l i x)) w) := by
  have hlt := World.block_lt_of_cell? w _ hc
  have hc' := later hc
  have hn : B ≠ w.heap.size := Nat.ne_of_lt hlt
  have hil : i < l.length := (List.getElem?_eq_some_iff.1 hi).1
  clear hc
  have Hs := Lib.hid hs
  clear hs
  generalize hnl : l.length = nl at *
  have Hnl := Lib.hid hnl
  clear hnl
  have htake : Hid ((l.take i).length = i) := by rw [List.length_take, Hnl.out]; exact Nat.min_eq_left (by omega)
  have hc1 : Hid (∀ W : World, Below w.heap.size w W → W.cell? ⟨w.heap.size, 0, none⟩ = some (.string x.name) →
      Calls Tryz.prog 98 #[.slice A i c, .func (.func 99) #[] #[.pointer (some ⟨w.heap.size, 0, none⟩)]] W (Ret (.bool (knownB ((l.take i).map (·.name)) x.name)) W)) := by
    intro W hW hcl
    have := c_ContainsFuncS 99 #[.pointer (some ⟨w.heap.size, 0, none⟩)] (fun o => o.name.toList == x.name.toList) A (l.take i) c W (by rw [htake.out]; omega)
      (enters_of Tryz.func99 (by kernel_rfl) rfl) (fun y _ W' hb => c_smNm y _ _ W' (kcell hb hcl)) ((Hs.out.below hW).take i)
    rw [htake.out] at this
    rwa [knownB, List.any_map]
  have hres : Hid (smErr l i x = fstE [unl (nameB x.name) 4, unl (!knownB ((l.take i).map (·.name)) x.name) 5, unl (inR x.per 1 60 && (inR x.dl 1 x.per && inR x.len 1 20)) 2]) := rfl
  generalize knownB ((l.take i).map (·.name)) x.name = kn at *
  cases hA : inR x.per 1 60
  all_goals cases hB : inR x.dl 1 x.per
  all_goals
    rw [hA, hB] at hres
    simp only [Bool.false_and, Bool.true_and, Bool.and_false] at hres
    go_enter Tryz.func97, Tryz.ntmps97
    go_wp2_with fail
    refine (hc1.out _ (bl_al _ (bl_refl _)) (by simp [go_sem])).mono ?_
    rintro e wb ⟨rfl, hb3⟩
    have k0 := ((Blk.new w 43 #[.string x.name, .int .i64 x.per, .int .i64 x.dl, .int .i64 x.len]).below hb3).later
    replace hb3 := bl_tt hb3
    have hcur := bl_refl wb
    go_wp2_with (first | (go_at_call 71; (with_reducible refine (c_within _ _ _ _).mono ?_); rintro e w3 ⟨rfl, rfl⟩) | (go_at_call 100; (with_reducible refine (c_isName x.name _ hx).mono ?_); rintro e w3 ⟨rfl, rfl⟩) | (go_at_call 58; (with_reducible refine (c_unless _ _ _).mono ?_); rintro e w3 ⟨rfl, rfl⟩) | (go_at_call 74; (with_reducible refine (c_first3 (Blk.new _ _ _)).mono ?_); rintro e w3 ⟨rfl, rfl⟩))
    go_ret
    exact ⟨by rw [hres.out] <;> rfl, by solve_by_elim (maxDepth := 60) only [bl_al, bl_drew, bl_drewN, bl_refl, *]⟩
set_option maxHeartbeats 4000000 in
theorem c_CheckStreams (l : List Sm) (A : Option Addr) (c : Nat) (w : World) (hn : SmIn l A c w) :
    Calls Tryz.prog 41 #[.slice A l.length c] w (Ret (.tuple #[.int .i64 (smsChk l).1, .int .i64 (smsChk l).2]) w) := by
  have Hn := Lib.hid hn
  have hlen := hn.len
  clear hn
  have hev := Lib.hid fun (W : World) (hb : Below w.heap.size w W) (hB : W.cell? ⟨w.heap.size, 0, none⟩ = some (.slice A l.length c)) =>
    c_eachS 97 #[.pointer (some ⟨w.heap.size, 0, none⟩)] (smErr l) A l c W (by have := Hn.out.len; omega) (enters_of Tryz.func97 (by kernel_rfl) rfl)
      (fun k x hx W' hb' => c_smErr l A c _ k x W' hx (by have := Hn.out.len; omega) Hn.out.cap (Hn.out.nm x (List.mem_of_getElem? hx)) (kcell hb' hB) ((Hn.out.sl.below hb).below hb'))
      (Hn.out.sl.below hb)
  have hres : Hid ((lenE l.length 6 = 0 → smsChk l = eachS (smErr l) l 0) ∧ (lenE l.length 6 ≠ 0 → smsChk l = (0, lenE l.length 6))) := ⟨fun h => by rw [smsChk, if_pos h], fun h => by rw [smsChk, if_neg h]⟩
  have hwe : Hid (lenE l.length 6 = fstE [unl (decide (0 < l.length)) 10, unl (decide ((l.length : Int) ≤ 6)) 8]) := rfl
  generalize l.length = nl at *
  go_enter Tryz.func41, Tryz.ntmps41
  go_wp2
  first
  | apply absB1 (w0 := w) (g0 := w.heap.size)
  | apply absTB1 (w0 := w) (g0 := w.heap.size)
  | apply absIB1 (w0 := w) (g0 := w.heap.size)
  iterate 2 (focus exact zL)
  try clear hb3
  try clear hb0
  try clear k0
  intro wa hb0 k0
  (try simp only [List.setIfInBounds_toArray, List.set_cons_zero, List.set_cons_succ] at k0)
  have Lk0 := k0.later
  have Fk0 := k0.laterF
  have Qk0 := k0.lt
  refine wp_any (w0 := wa) ⟨[], [], [some 5, some 6, some 7, some 8, some 9, some 10, some 11, some 12, some 13, some 14, some 4], [[], [0], [0, 1], [0, 1, 2], [], [4], [4, 5], [0, 1, 2, 3, 4, 5, 6], [0, 1, 2, 3, 4, 5, 6, 7], [0, 1, 2, 3, 4, 5, 6, 7, 8], [0, 1, 2, 3, 4, 5, 6, 7, 8, 9]], [[], [0], [1], [2], [], [4], [5], [6], [3, 7], [8], [8, 9]]⟩ (fun _ => []) (by kernel_rfl) (by kernel_rfl) (by (exact zE)) (fun u => by simp only [putD, Act.put, List.setIfInBounds_toArray, List.set_cons_zero, List.set_cons_succ, Nat.zero_add, Nat.reduceAdd]; rfl) ?_
  apply RGW.on (i := 0) rfl
  · exact zG
  · intro γ u W hcur hd
    clear hd
    (try dsimp only)
    exact ⟨rfl, zS⟩
  · exact zC
  · rfl
  dsimp only [nA, cA]
  apply RGW.on (i := 1) rfl
  · exact zG
  · intro γ u W hcur hd
    obtain ⟨⟨h0, -, -⟩, -⟩ := hd
    dsimp only at h0
    (try simp only [h0])
    exact ⟨rfl, zS⟩
  · exact zC
  · rfl
  dsimp only [nA, cA]
  apply RGW.on (i := 2) rfl
  · exact zG
  · intro γ u W hcur hd
    obtain ⟨⟨h1, -, -⟩, -⟩ := hd
    dsimp only at h1
    (try simp only [h1])
    exact ⟨rfl, zS⟩
  · exact zC
  · rfl
  dsimp only [nA, cA]
  apply RGW.call (i := 3) rfl
  · exact zG
  · intro γ u W hcur hd
    obtain ⟨⟨h2, -, -⟩, -⟩ := hd
    dsimp only at h2
    (try simp only [h2])
    refine ⟨rfl, fun K hK => ?_⟩
    go_simp
    first
    | (go_at_call 58; (with_reducible refine (c_unless _ _ _).mono ?_); rintro e w3 ⟨rfl, rfl⟩)
    | (go_at_call 74; (with_reducible refine (c_first2 (by (exact zK))).mono ?_); rintro e w3 ⟨rfl, rfl⟩)
    (try dsimp only)
    exact hK.out _ _ rfl (by (exact zE))
  · exact zC
  · rfl
  dsimp only [nA, cA]
  apply RGW.on (i := 4) rfl
  · exact zG
  · intro γ u W hcur hd
    clear hd
    (try dsimp only)
    exact ⟨rfl, zS⟩
  · exact zC
  · rfl
  dsimp only [nA, cA]
  apply RGW.on (i := 5) rfl
  · exact zG
  · intro γ u W hcur hd
    obtain ⟨⟨h4, -, -⟩, -⟩ := hd
    dsimp only at h4
    (try simp only [h4])
    exact ⟨rfl, zS⟩
  · exact zC
  · rfl
  dsimp only [nA, cA]
  apply RGW.on (i := 6) rfl
  · exact zG
  · intro γ u W hcur hd
    obtain ⟨⟨h5, -, -⟩, -⟩ := hd
    dsimp only at h5
    (try simp only [h5])
    exact ⟨rfl, zS⟩
  · exact zC
  · rfl
  dsimp only [nA, cA]
  apply RGW.call (i := 7) rfl
  · exact zG
  · intro γ u W hcur hd
    obtain ⟨⟨h6, -, -⟩, -⟩ := hd
    dsimp only at h6
    (try simp only [h6])
    refine ⟨rfl, fun K hK => ?_⟩
    go_simp
    first
    | (go_at_call 58; (with_reducible refine (c_unless _ _ _).mono ?_); rintro e w3 ⟨rfl, rfl⟩)
    | (go_at_call 74; (with_reducible refine (c_first2 (by (exact zK))).mono ?_); rintro e w3 ⟨rfl, rfl⟩)
    (try dsimp only)
    exact hK.out _ _ rfl (by (exact zE))
  · exact zC
  · rfl
  dsimp only [nA, cA]
  apply RGW.bslice (i := 8) rfl
  · exact zG
  · intro γ u W hcur hd
    obtain ⟨⟨h3, -, -⟩, ⟨h7, -, -⟩, -⟩ := hd
    dsimp only at h3 h7
    (try simp only [h3, h7])
    refine ⟨rfl, fun K hK => ?_⟩
    go_simp
    exact hK.out _ _ rfl rfl
  · exact zC
  · rfl
  · rfl
  dsimp only [nA, cA]
  apply RGW.call (i := 9) rfl
  · exact zG
  · intro γ u W hcur hd
    obtain ⟨⟨h8, r8, -⟩, -⟩ := hd
    dsimp only at h8 r8
    have L8 := r8.cell
    (try simp only [h8])
    refine ⟨rfl, fun K hK => ?_⟩
    go_simp
    first
    | (go_at_call 58; (with_reducible refine (c_unless _ _ _).mono ?_); rintro e w3 ⟨rfl, rfl⟩)
    | (go_at_call 74; (with_reducible refine (c_first2 (by (exact zK))).mono ?_); rintro e w3 ⟨rfl, rfl⟩)
    (try dsimp only)
    exact hK.out _ _ rfl (by (exact zE))
  · first
    | exact zC
    | intro γ γ' hg
      try dsimp only
      have e8 := hg 8 (by decide)
      simp only [e8]
  · rfl
  dsimp only [nA, cA]
  apply RGW.on (i := 10) rfl
  · exact zG
  · intro γ u W hcur hd
    obtain ⟨⟨h8, r8, -⟩, ⟨h9, -, -⟩, -⟩ := hd
    dsimp only at h8 h9 r8
    have L8 := r8.cell
    (try simp only [h8, h9])
    exact ⟨rfl, zS⟩
  · first
    | exact zC
    | intro γ γ' hg
      try dsimp only
      have e8 := hg 8 (by decide)
      simp only [e8]
  · rfl
  dsimp only [nA, cA]
  refine RGW.fin (fun γ u wb hwb hd hdis => ?_)
  obtain ⟨⟨h0, -, -⟩, ⟨h1, -, -⟩, ⟨h2, -, -⟩, ⟨h3, -, -⟩, ⟨h4, -, -⟩, ⟨h5, -, -⟩, ⟨h6, -, -⟩, ⟨h7, -, -⟩, ⟨h8, r8, b8⟩, ⟨h9, -, -⟩, ⟨h10, -, -⟩, -⟩ := hd
  dsimp only at h0 h1 h2 h3 h4 h5 h6 h7 h8 h9 h10 r8 b8
  clear hdis
  simp only [h0, h1, h2, h3, h4, h5, h6, h7, h8, h9, h10]
  clear h10 h9 h8 h7 h6 h5 h4 h3 h2 h1 h0
  replace b8 := b8 _ (List.mem_singleton.2 rfl)
  generalize hγ8 : (γ 8).n = g8 at *
  clear hγ8
  clear u
  simp only [List.map_nil]
  refine PlanW.done ?_
  have hb3 := bl_tt hwb
  rw [← hwe.out]
  have hbw := hb3 _ hb0
  generalize lenE nl 6 = we at *
  by_cases h0 : we = 0
  · have h0' : (we != 0) = false := by simp [h0]
    replace h0 := Lib.hid h0
    go_wp2_with fail
    refine Calls.mono (hev.out _ ?_ ?_) ?_
    · (exact zE)
    · exact Lk0 _ (by (exact zE)) 0
    rintro e w3 ⟨rfl, hb3⟩
    replace hb3 := bl_tt hb3
    go_wp2
    go_ret2
    exact ⟨by rw [hres.out.1 h0.out] <;> rfl, hb3 _ hbw⟩
  · have h0' : (we != 0) = true := by simp [h0]
    replace h0 := Lib.hid h0
    go_wp2
    go_ret2
    exact ⟨by rw [hres.out.2 h0.out] <;> rfl, hbw⟩
theorem c_streamsErr (l : List Sm) (A : Option Addr) (c : Nat) (w : World) (hn : SmIn l A c w) : Calls Tryz.prog 56 #[.slice A l.length c] w (Ret (.int .i64 (smsErr l)) w) := by
  have hcall := Lib.hid (c_CheckStreams l A c w hn)
  have he : Hid ((smsChk l).2 = smsErr l) := rfl
  clear hn
  generalize l.length = n at *
  go_enter Tryz.func56, Tryz.ntmps56
  go_wp2_with fail
  refine hcall.out.mono ?_
  rintro e w3 ⟨rfl, hb3⟩
  go_wp2
  go_ret
  exact ⟨by rw [he.out] <;> rfl, hb3⟩
end Go.Proofs.YtbdgblnccjpahaaGreatDoor
namespace Go.Proofs.YtbdgblnccjpahaaGreatDoor
open Go.RowKit Go.Shelf
attribute [local go_sem] bl_al bl_drew bl_drewN bl_refl bx_al bx_drew bx_drewN bx_refl
set_option maxRecDepth 20000
theorem ba_app (a b : ByteArray) : a ++ b = ⟨(a.data.toList ++ b.data.toList).toArray⟩ := by
  apply ByteArray.ext
  simp
end Go.Proofs.YtbdgblnccjpahaaGreatDoor
namespace Go.Proofs.YtbdgblnccjpahaaGreatDoor
open Go.RowKit Go.Shelf Go.MapKept Go.ChangeMaps Go.WideMaps
attribute [local go_sem] bl_al bl_drew bl_drewN bl_refl bx_al bx_drew bx_drewN bx_refl
set_option maxRecDepth 20000
theorem lawS : Maps.Keyed Tryz.prog 9 := Maps.string_keyed Tryz.underlying9
theorem zeroU (w : World) : (zeroValue 256).run Tryz.prog w = .ok (.agg #[]) w := by kernel_rfl
def setD (L : List ByteArray) : DataW Unit := Maps.setOf (.agg []) (L.map fun s => Lit.string s.data.toList)
theorem setD_snoc (L : List ByteArray) (s : ByteArray) : setD (L ++ [s]) = (setD L).put (.string s.data.toList) (.agg []) := by
  unfold setD
  rw [List.map_append]
  exact Maps.setOf_snoc _ _ _
theorem has_setD (L : List ByteArray) (s : ByteArray) : Maps.has (setD L) (.string s.data.toList) = knownB L s := by
  unfold setD
  rw [Maps.has_setOf _ _ _ (fun x hx => by obtain ⟨y, -, rfl⟩ := List.mem_map.1 hx; exact trivial), List.any_map]
  unfold knownB
  congr 1
  funext o
  show (o.data.toList == s.data.toList) = (o.toList == s.toList)
  rw [ByteArray.toList_eq, ByteArray.toList_eq]
/-- The names that were met so far. -/
structure Seen (L : List ByteArray) (g m : Nat) (w : World) : Prop where
  blk : Blk w g 255 #[.map (some m)]
  map : w.ownsMap Tryz.prog 9 unitElem m L.length (setD L)
theorem map_bx {L : List ByteArray} {m n : Nat} {X : List Nat} {w w' : World} (h : w.ownsMap Tryz.prog 9 unitElem m n (setD L)) (hb : BX X w w') (hX : m ∉ X) : w'.ownsMap Tryz.prog 9 unitElem m n (setD L) := by
  obtain ⟨es, clock, h1, F, hs, hD⟩ := h
  exact ⟨es, clock, (hb.block m (Array.getElem?_eq_some_iff.1 h1).1 hX).trans h1, F, hs, hD⟩
theorem map_below {L : List ByteArray} {m n : Nat} {w w' : World} (h : w.ownsMap Tryz.prog 9 unitElem m n (setD L)) (hb : Below w.heap.size w w') : w'.ownsMap Tryz.prog 9 unitElem m n (setD L) := map_bx (X := []) h (bx_bl [] hb) (by simp)
theorem Seen.below {L : List ByteArray} {g m : Nat} {w w' : World} (h : Seen L g m w) (hb : Below w.heap.size w w') : Seen L g m w' := ⟨h.blk.below hb, map_below h.map hb⟩
theorem Seen.bx {L : List ByteArray} {g m : Nat} {X : List Nat} {w w' : World} (h : Seen L g m w) (hb : BX X w w') (hg : g ∉ X) (hm : m ∉ X) : Seen L g m w' := ⟨h.blk.keep hg hb, map_bx h.map hb hm⟩
theorem map_ne {L : List ByteArray} {g m n : Nat} {t : TypeId} {cs : Array Value} {w : World} (h : w.ownsMap Tryz.prog 9 unitElem m n (setD L)) (k : Blk w g t cs) : g ≠ m := fun e => by
  subst e
  obtain ⟨es, clock, h1, _⟩ := h
  unfold Blk at k
  rw [h1] at k
  cases k
theorem Seen.apart {L : List ByteArray} {g m : Nat} {w : World} (h : Seen L g m w) {b o : Nat} {v : Value} (hc : w.cell? ⟨b, o, none⟩ = some v) : b ≠ m := fun e => by
  subst e
  obtain ⟨es, clock, h1, _⟩ := h.map
  simp [World.cell?, h1] at hc
theorem Seen.lt {L : List ByteArray} {g m : Nat} {w : World} (h : Seen L g m w) : m < w.heap.size := by
  obtain ⟨es, clock, h1, _⟩ := h.map
  exact (Array.getElem?_eq_some_iff.1 h1).1
/-- Slices lie where they lay: a map is no part of them. -/
theorem sl_map {α : Type} {cs : α → List Value} {sz : Nat} {A : Option Addr} {l : List α} {L : List ByteArray} {g m : Nat} {w w' : World} (h : Sl cs sz w A l) (hs : Seen L g m w) (hb : BX [m] w w') : Sl cs sz w' A l := fun k x hx => by
  obtain ⟨b, off, e, hc⟩ := h k x hx
  refine ⟨b, off, e, fun j v hv => ?_⟩
  have h1 := hc j v hv
  have hlt := World.block_lt_of_cell? w _ h1
  have hne := hs.apart h1
  have : w'.heap[b]? = w.heap[b]? := hb.block b hlt (by simpa using hne)
  simp only [World.cell?] at h1 ⊢
  rw [this]
  exact h1
theorem bx_map {b : Nat} {w w' : World} (h : w.mapTurned w' b) : BX [b] w w' := by
  obtain ⟨es, clock, es', clock', hb, rfl⟩ := h
  refine ⟨rfl, rfl, rfl, by simp [setBlock], fun i hi hX => heap_setBlock_other hb _ (fun e => hX (by simp [e])), fun g hg t cs hk => ?_⟩
  have := List.mem_singleton.1 hg
  subst this
  unfold Blk at hk
  rw [hb] at hk
  cases hk
set_option maxHeartbeats 2000000 in
theorem c_names1 (L : List ByteArray) (s : ByteArray) (g m : Nat) (w : World) (hs : Seen L g m w) (hn : s.size ≤ maxLen) (hL : L.length ≤ 1000) :
    Calls Tryz.prog 204 #[.string s, .pointer (some ⟨g, 0, none⟩)] w
      (fun e w' => e = .returned (.int .i64 (fstE [unl (nameB s) 4, unl (!knownB L s) 5])) ∧ BX [m] w w' ∧ Seen (L ++ [s]) g m w') := by
  have hkey := keyOf_string_mk Tryz.underlying9 hn
  have hgm := map_ne hs.map hs.blk
  have k0 := hs.blk
  have hmap := Lib.hid hs.map
  have hhas := has_setD L s
  clear hs
  have L0 := k0.cell
  have hq := k0.lt
  replace hhas := Lib.hid hhas
  have hgw : g ≠ w.heap.size := Nat.ne_of_lt hq
  go_enter Tryz.func204, Tryz.ntmps204
  go_wp2_with (first
    | (at_lookup; refine wpList_lookup_own_unit _ rfl _ _ 255 rfl 9 256 lawS Tryz.underlying255 (zeroU _) m L.length _ rfl hmap.out _ _ rfl hkey ?_)
    | (at_mapUpdate; refine wpList_mapUpdate_in _ rfl _ _ _ 255 rfl 9 256 lawS Tryz.underlying255 (unitElem (H := Unit)) m L.length _ rfl (hmap.out.alloc _) (by unfold maxLen; omega) _ _ _ rfl rfl hkey _ [] unitElem_mk ?_; intro w1 hown1 hturn1))
  have hb1 : BX [m] w w1 := (bx_al _ (bx_refl [m] w)).trans (bx_map hturn1)
  have k1 := k0.keep (by simpa using hgm) hb1
  have hnew : w1.ownsMap Tryz.prog 9 unitElem m (L ++ [s]).length (setD (L ++ [s])) := by
    rw [setD_snoc, List.length_append]
    exact hown1
  replace hnew := Lib.hid hnew
  clear hown1 hturn1 L0 k0 hmap
  rw [hhas.out]
  go_wp2_with (first | (go_at_call 100; (with_reducible refine (c_isName s _ hn).mono ?_); rintro e w3 ⟨rfl, rfl⟩) | (go_at_call 58; (with_reducible refine (c_unless _ _ _).mono ?_); rintro e w3 ⟨rfl, rfl⟩) | (go_at_call 74; (with_reducible refine (c_first2 (Blk.new _ _ _)).mono ?_); rintro e w3 ⟨rfl, rfl⟩))
  go_ret
  exact ⟨rfl, bx_al _ hb1, k1.alloc _, map_below hnew.out (bl_al _ (bl_refl _))⟩
set_option maxHeartbeats 2000000 in
theorem c_names (w : World) : Calls Tryz.prog 169 #[] w (fun e w' => e = .returned (.func (.func 204) #[] #[.pointer (some ⟨w.heap.size + 1, 0, none⟩)]) ∧ Below w.heap.size w w' ∧ Seen [] (w.heap.size + 1) w.heap.size w') := by
  have hmm := @run_makeMap Tryz.prog
  go_enter Tryz.func169, Tryz.ntmps169
  go_wp2
  go_ret
  refine ⟨rfl, bl_al _ (bl_al _ (bl_refl w)), ?_, ?_⟩
  · have := Blk.new (w.alloc (.map #[] 0)) 255 #[.map (some w.heap.size)]
    rwa [World.size_alloc] at this
  · exact map_below (L := []) (World.ownsMap_made w _ _ _) (bl_al _ (bl_refl _))
/-! ### Ascending indexes. -/
set_option maxHeartbeats 2000000 in
theorem c_idx1 (k x la ct : Int) (B1 B2 : Nat) (w : World) (hct : 0 ≤ ct ∧ ct ≤ 1000000) (k1 : Blk w B1 3 #[.int .i64 ct]) (k2 : Blk w B2 3 #[.int .i64 la]) :
    Calls Tryz.prog 182 #[.int .i64 k, .int .i64 x, .pointer (some ⟨B1, 0, none⟩), .pointer (some ⟨B2, 0, none⟩)] w
      (fun e w' => e = .returned (.int .i64 (fstE [unl (inR x 0 (ct - 1)) 6, unl (decide (la < x)) 9])) ∧ BX [B2] w w' ∧ Blk w' B2 3 #[.int .i64 x]) := by
  obtain ⟨h1, h2⟩ := hct
  go_enter Tryz.func182, Tryz.ntmps182
  go_upto_region 1 with fail
  first
  | apply absB2 (w0 := w) (g0 := B1) (g1 := B2)
  | apply absTB2 (w0 := w) (g0 := B1) (g1 := B2)
  | apply absIB2 (w0 := w) (g0 := B1) (g1 := B2)
  iterate 3 (focus exact zL)
  try clear hb3
  try clear hb0
  try clear k1
  try clear k2
  intro wa hb0 k1 k2
  (try simp only [List.setIfInBounds_toArray, List.set_cons_zero, List.set_cons_succ] at k1 k2)
  have Lk1 := k1.later
  have Fk1 := k1.laterF
  have Qk1 := k1.lt
  have Lk2 := k2.later
  have Fk2 := k2.laterF
  have Qk2 := k2.lt
  refine wp_any (w0 := wa) ⟨[], [], [some 8, some 9, some 10, some 11, some 12, some 13, some 14, some 15, some 16, some 17, some 18, some 7], [[], [], [1], [0, 1, 2], [0, 1, 2, 3], [], [], [5, 6], [0, 1, 2, 3, 4, 5, 6, 7], [0, 1, 2, 3, 4, 5, 6, 7, 8], [0, 1, 2, 3, 4, 5, 6, 7, 8, 9], [0, 1, 2, 3, 4, 5, 6, 7, 8, 9, 10]], [[], [], [1], [0, 2], [3], [], [], [5, 6], [7], [4, 8], [9], [9, 10]]⟩ (fun _ => []) (by kernel_rfl) (by kernel_rfl) (by (exact zE)) (fun u => by simp only [putD, Act.put, List.setIfInBounds_toArray, List.set_cons_zero, List.set_cons_succ, Nat.zero_add, Nat.reduceAdd]; rfl) ?_
  apply RGW.on (i := 0) rfl
  · exact zG
  · intro γ u W hcur hd
    clear hd
    (try dsimp only)
    exact ⟨rfl, zS⟩
  · exact zC
  · rfl
  dsimp only [nA, cA]
  apply RGW.on (i := 1) rfl
  · exact zG
  · intro γ u W hcur hd
    clear hd
    (try dsimp only)
    exact ⟨rfl, zS⟩
  · exact zC
  · rfl
  dsimp only [nA, cA]
  apply RGW.on (i := 2) rfl
  · exact zG
  · intro γ u W hcur hd
    obtain ⟨⟨h1, -, -⟩, -⟩ := hd
    dsimp only at h1
    (try simp only [h1])
    exact ⟨rfl, zS⟩
  · exact zC
  · rfl
  dsimp only [nA, cA]
  apply RGW.call (i := 3) rfl
  · exact zG
  · intro γ u W hcur hd
    obtain ⟨⟨h0, -, -⟩, ⟨h2, -, -⟩, -⟩ := hd
    dsimp only at h0 h2
    (try simp only [h0, h2])
    refine ⟨rfl, fun K hK => ?_⟩
    go_simp
    first
    | (go_at_call 71; (with_reducible refine (c_within _ _ _ _).mono ?_); rintro e w3 ⟨rfl, rfl⟩)
    | (go_at_call 58; (with_reducible refine (c_unless _ _ _).mono ?_); rintro e w3 ⟨rfl, rfl⟩)
    | (go_at_call 74; (with_reducible refine (c_first2 (by (exact zK))).mono ?_); rintro e w3 ⟨rfl, rfl⟩)
    (try dsimp only)
    exact hK.out _ _ rfl (by (exact zE))
  · exact zC
  · rfl
  dsimp only [nA, cA]
  apply RGW.call (i := 4) rfl
  · exact zG
  · intro γ u W hcur hd
    obtain ⟨⟨h3, -, -⟩, -⟩ := hd
    dsimp only at h3
    (try simp only [h3])
    refine ⟨rfl, fun K hK => ?_⟩
    go_simp
    first
    | (go_at_call 71; (with_reducible refine (c_within _ _ _ _).mono ?_); rintro e w3 ⟨rfl, rfl⟩)
    | (go_at_call 58; (with_reducible refine (c_unless _ _ _).mono ?_); rintro e w3 ⟨rfl, rfl⟩)
    | (go_at_call 74; (with_reducible refine (c_first2 (by (exact zK))).mono ?_); rintro e w3 ⟨rfl, rfl⟩)
    (try dsimp only)
    exact hK.out _ _ rfl (by (exact zE))
  · exact zC
  · rfl
  dsimp only [nA, cA]
  apply RGW.on (i := 5) rfl
  · exact zG
  · intro γ u W hcur hd
    clear hd
    (try dsimp only)
    exact ⟨rfl, zS⟩
  · exact zC
  · rfl
  dsimp only [nA, cA]
  apply RGW.on (i := 6) rfl
  · exact zG
  · intro γ u W hcur hd
    clear hd
    (try dsimp only)
    exact ⟨rfl, zS⟩
  · exact zC
  · rfl
  dsimp only [nA, cA]
  apply RGW.on (i := 7) rfl
  · exact zG
  · intro γ u W hcur hd
    obtain ⟨⟨h5, -, -⟩, ⟨h6, -, -⟩, -⟩ := hd
    dsimp only at h5 h6
    (try simp only [h5, h6])
    exact ⟨rfl, zS⟩
  · exact zC
  · rfl
  dsimp only [nA, cA]
  apply RGW.call (i := 8) rfl
  · exact zG
  · intro γ u W hcur hd
    obtain ⟨⟨h7, -, -⟩, -⟩ := hd
    dsimp only at h7
    (try simp only [h7])
    refine ⟨rfl, fun K hK => ?_⟩
    go_simp
    first
    | (go_at_call 71; (with_reducible refine (c_within _ _ _ _).mono ?_); rintro e w3 ⟨rfl, rfl⟩)
    | (go_at_call 58; (with_reducible refine (c_unless _ _ _).mono ?_); rintro e w3 ⟨rfl, rfl⟩)
    | (go_at_call 74; (with_reducible refine (c_first2 (by (exact zK))).mono ?_); rintro e w3 ⟨rfl, rfl⟩)
    (try dsimp only)
    exact hK.out _ _ rfl (by (exact zE))
  · exact zC
  · rfl
  dsimp only [nA, cA]
  apply RGW.bslice (i := 9) rfl
  · exact zG
  · intro γ u W hcur hd
    obtain ⟨⟨h4, -, -⟩, ⟨h8, -, -⟩, -⟩ := hd
    dsimp only at h4 h8
    (try simp only [h4, h8])
    refine ⟨rfl, fun K hK => ?_⟩
    go_simp
    exact hK.out _ _ rfl rfl
  · exact zC
  · rfl
  · rfl
  dsimp only [nA, cA]
  apply RGW.call (i := 10) rfl
  · exact zG
  · intro γ u W hcur hd
    obtain ⟨⟨h9, r9, -⟩, -⟩ := hd
    dsimp only at h9 r9
    have L9 := r9.cell
    (try simp only [h9])
    refine ⟨rfl, fun K hK => ?_⟩
    go_simp
    first
    | (go_at_call 71; (with_reducible refine (c_within _ _ _ _).mono ?_); rintro e w3 ⟨rfl, rfl⟩)
    | (go_at_call 58; (with_reducible refine (c_unless _ _ _).mono ?_); rintro e w3 ⟨rfl, rfl⟩)
    | (go_at_call 74; (with_reducible refine (c_first2 (by (exact zK))).mono ?_); rintro e w3 ⟨rfl, rfl⟩)
    (try dsimp only)
    exact hK.out _ _ rfl (by (exact zE))
  · first
    | exact zC
    | intro γ γ' hg
      try dsimp only
      have e9 := hg 9 (by decide)
      simp only [e9]
  · rfl
  dsimp only [nA, cA]
  apply RGW.on (i := 11) rfl
  · exact zG
  · intro γ u W hcur hd
    obtain ⟨⟨h9, r9, -⟩, ⟨h10, -, -⟩, -⟩ := hd
    dsimp only at h9 h10 r9
    have L9 := r9.cell
    (try simp only [h9, h10])
    exact ⟨rfl, zS⟩
  · first
    | exact zC
    | intro γ γ' hg
      try dsimp only
      have e9 := hg 9 (by decide)
      simp only [e9]
  · rfl
  dsimp only [nA, cA]
  refine RGW.fin (fun γ u wb hwb hd hdis => ?_)
  obtain ⟨⟨h0, -, -⟩, ⟨h1, -, -⟩, ⟨h2, -, -⟩, ⟨h3, -, -⟩, ⟨h4, -, -⟩, ⟨h5, -, -⟩, ⟨h6, -, -⟩, ⟨h7, -, -⟩, ⟨h8, -, -⟩, ⟨h9, r9, b9⟩, ⟨h10, -, -⟩, ⟨h11, -, -⟩, -⟩ := hd
  dsimp only at h0 h1 h2 h3 h4 h5 h6 h7 h8 h9 h10 h11 r9 b9
  clear hdis
  simp only [h0, h1, h2, h3, h4, h5, h6, h7, h8, h9, h10, h11]
  clear h11 h10 h9 h8 h7 h6 h5 h4 h3 h2 h1 h0
  replace b9 := b9 _ (List.mem_singleton.2 rfl)
  generalize hγ9 : (γ 9).n = g9 at *
  clear hγ9
  clear u
  simp only [List.map_nil]
  refine PlanW.done ?_
  have hb3 := bl_tt hwb
  have hbw := hb3 _ hb0
  replace k2 := k2.below hwb
  have L2 := k2.cell
  have F2 := k2.frozen
  go_wp2
  go_ret
  exact ⟨rfl, bx_set (.inl (by simp)) _ (bx_bl _ hbw), k2.set1 (by simp)⟩
set_option maxHeartbeats 2000000 in
theorem c_indexesErr (l : List Int) (ct : Int) (A : Option Addr) (c : Nat) (w : World) (hs : Sl cI 1 w A l) (hl : l.length ≤ 1000) (hct : 0 ≤ ct ∧ ct ≤ 1000000) :
    Calls Tryz.prog 143 #[.slice A l.length c, .int .i64 ct] w (Ret (.int .i64 (idxErr l ct)) w) := by
  have Hs := Lib.hid hs
  have hev := Lib.hid fun (B1 B2 : Nat) (W : World) (hb : Below w.heap.size w W) (k1 : Blk W B1 3 #[.int .i64 ct]) (k2 : Blk W B2 3 #[.int .i64 (-1)]) (h2 : w.heap.size ≤ B2) (h12 : B1 ≠ B2) =>
    c_eachJI 182 #[.pointer (some ⟨B1, 0, none⟩), .pointer (some ⟨B2, 0, none⟩)] (fun k n => fstE [unl (inR n 0 (ct - 1)) 6, unl (decide (prevI l k < n)) 9]) (fun k W => Blk W B2 3 #[.int .i64 (prevI l k)]) [B2] A l c W (by omega)
      (enters_of Tryz.func182 (by kernel_rfl) rfl) (fun k X Y h hb => h.below hb)
      (fun k x hx W' hb' hk => (c_idx1 k x (prevI l k) ct B1 B2 W' hct (k1.keep (by simpa using h12) hb') hk).mono fun e W2 ⟨e1, e2, e3⟩ => ⟨e1, e2, fun _ => by
        have : prevI l (k + 1) = x := by simp [prevI, hx]
        rw [this]
        exact e3⟩)
      (fun W' hb' => sl_new Hs.out ((bx_bl [B2] hb).trans hb') (by simpa using h2)) k2
  have hev2 : Hid ((eachS (fun k n => fstE [unl (inR n 0 (ct - 1)) 6, unl (decide (prevI l k < n)) 9]) l 0).2 = idxErr l ct) := rfl
  clear hs
  generalize l.length = n at *
  go_enter Tryz.func143, Tryz.ntmps143
  go_upto_region 2 with fail
  first
  | apply absB2 (w0 := w) (g0 := w.heap.size) (g1 := w.heap.size + 1)
  | apply absTB2 (w0 := w) (g0 := w.heap.size) (g1 := w.heap.size + 1)
  | apply absIB2 (w0 := w) (g0 := w.heap.size) (g1 := w.heap.size + 1)
  iterate 3 (focus exact zL)
  try clear hb3
  try clear hb0
  try clear k0
  try clear k1
  intro wa hb0 k0 k1
  (try simp only [List.setIfInBounds_toArray, List.set_cons_zero, List.set_cons_succ] at k0 k1)
  go_wp2_with fail
  refine (hev.out w.heap.size (w.heap.size + 1) wa hb0 k0 k1 (by omega) (by omega)).mono ?_
  rintro e w3 ⟨rfl, hbx, -⟩
  rw [hev2.out]
  replace hb0 := bx_below hb0 hbx (by simp)
  clear hev hev2 hbx k0 k1
  go_wp2
  go_ret
  exact ⟨rfl, hb0⟩
end Go.Proofs.YtbdgblnccjpahaaGreatDoor
