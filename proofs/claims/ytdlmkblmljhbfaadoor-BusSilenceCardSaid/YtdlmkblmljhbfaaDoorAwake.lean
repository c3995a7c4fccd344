/-
  Walks: the laws are awake.
-/
import Derived.Test.YtdlmkblmljhbfaaDoorAw
namespace Go.Proofs.YtdlmkblmljhbfaaDoor
set_option linter.unusedSimpArgs false
set_option linter.unusedVariables false
open Go.RowKit Go.Shelf
attribute [local go_sem] bl_al bl_drew bl_drewN bl_refl bx_al bx_drew bx_drewN bx_refl
set_option maxRecDepth 20000
set_option maxHeartbeats 8000000 in
theorem r_awake (w : World) (hT : Tab w) : Calls Tryd.prog 15 #[] w (Ret (.bool true) w) := by
  have HT := Lib.hid fun W (hb : Below w.heap.size w W) => hT.below hb
  have h1 : Hid (∀ W : World, Calls Tryd.prog 24 #[.agg #[.int .i64 0, .int .i64 0, .int .i64 0, .int .i64 0, .int .i64 0, .int .i64 1, .int .i64 0]] W (Ret (.tuple #[.agg #[.int .i64 0, .int .i64 0, .int .i64 0, .int .i64 0, .int .i64 0, .int .i64 1, .int .i64 0, .int .i64 21], .int .i64 0]) W)) := fun W => by
    have := c_Encoded ⟨0, 0, 0, 0, 0, 1, 0⟩ W
    rw [ev_enc] at this
    exact this
  have h2 : Hid (∀ (W : World) (A : Option Addr), SmIn sms0 A 3 W → Calls Tryd.prog 47 #[.slice A 3 3, .int .i64 2] W (Ret (.tuple #[.int .i64 10, .int .i64 0]) W)) := fun W A h => by
    have := c_ResponseOf sms0 2 A 3 W h
    rw [ev_resp] at this
    exact this
  have h3 : Hid (∀ (W : World) (A : Option Addr) (g : Nat), SmIn sms0 A 3 W → Blk W g 3 #[.int .i64 0, .int .i64 0, .int .i64 0] → Calls Tryd.prog 46 #[.slice A 3 3, .slice (some ⟨g, 0, none⟩) 3 3, .int .i64 12] W
      (fun e w' => Below W.heap.size W w' ∧ ∃ A5 c5, e = .returned (.tuple #[.slice A5 12 c5, .int .i64 0]) ∧ Sl cI 1 w' A5 [0, 1, 1, 2, 0, 2, 1, 1, 0, 2, -1, -1])) := fun W A g h hg =>
    (c_CarriedBy sms0 [0, 0, 0] 12 A (some ⟨g, 0, none⟩) 3 3 W h (Blk.ints (l := [0, 0, 0]) hg) (by decide)).mono fun e w' ⟨hb, hh⟩ => by
      rcases hh with ⟨h0, _⟩ | ⟨_, A5, c5, rfl, ho⟩
      · exact absurd ev_stE h0
      · have e : (12 : Int).toNat = 12 := rfl
        rw [e] at ho
        rw [ev_run] at ho
        exact ⟨hb, A5, c5, rfl, own_sl (L := [0, 1, 1, 2, 0, 2, 1, 1, 0, 2, -1, -1]) ho⟩
  have h4 : Hid (∀ (W : World) (b : Nat) (Ap Af Am : Option Addr), Tab W → NtIn (net0 b) Ap Af Am 4 3 3 W → Calls Tryd.prog 33 #[vNt Ap Af Am 4 3 3 4 3 3, .int .i64 0] W
      (fun e w' => Below W.heap.size W w' ∧ ∃ A7 c7, e = .returned (.tuple #[.slice A7 2 c7, .int .i64 0]) ∧ Sl cI 1 w' A7 [0, 1])) := fun W b Ap Af Am ht hn =>
    (c_CutOf (net0 b) 0 Ap Af Am 4 3 3 W hn ht).mono fun e w' ⟨hb, hh⟩ => by
      rcases hh with ⟨h0, _⟩ | ⟨_, f, hf, A7, c7, rfl, ho⟩
      · exact absurd (ev_cutE b) h0
      · rw [ev_cut b f hf] at ho ⊢
        exact ⟨hb, A7, c7, rfl, own_sl (L := [0, 1]) ho⟩
  have h5 : Hid (∀ (W : World) (g : Nat), Blk W g 3 #[.int .i64 3, .int .i64 10, .int .i64 12] → Calls Tryd.prog 16 #[.slice (some ⟨g, 0, none⟩) 3 3, .agg #[.int .i64 0, .int .i64 20], .int .i64 4] W
      (fun e w' => Below W.heap.size W w' ∧ ∃ A9 c9, e = .returned (.tuple #[.slice A9 3 c9, .int .i64 0]) ∧ Sl cRg 2 w' A9 [⟨0, 2⟩, ⟨8, 9⟩, ⟨17, 20⟩])) := fun W g hg =>
    (c_SilentIn [3, 10, 12] ⟨0, 20⟩ 4 (some ⟨g, 0, none⟩) 3 W (Blk.ints (l := [3, 10, 12]) hg) (by decide)).mono fun e w' hh => by
      rw [ev_silE, ev_silR] at hh
      obtain ⟨A9, c9, rfl, hb, ho⟩ := hh
      exact ⟨hb, A9, c9, rfl, own_slC (cs := cRg) (fun _ => rfl) (by decide) ho⟩
  clear hT
  go_enter Tryd.func15, Tryd.ntmps15
  go_wp2_with fail
  refine (h1.out w).mono ?_
  rintro e v1 ⟨rfl, hb1⟩
  go_upto_region 2 with fail
  first
  | apply absB1 (w0 := v1) (g0 := v1.heap.size)
  | apply absTB1 (w0 := v1) (g0 := v1.heap.size)
  | apply absIB1 (w0 := v1) (g0 := v1.heap.size)
  iterate 2 (focus ((with_reducible (repeat' (first | assumption | apply jA | apply jB | apply jC | apply jD | apply jE | apply jF | apply hb3 | apply jG | apply jH | apply jI | apply jJ | apply jK | apply hb3x | (apply jL; first | (simp; done) | rfl) | apply jM | apply jN | apply jO | apply jP | apply jQ | apply jR | apply jS | apply jT (hb := hb3 _ (jA _)) | omega | (simp; done) | (simp; omega) | (dsimp only; omega)))); done))
  intro wa hb0' k1'
  (try simp only [List.setIfInBounds_toArray, List.set_cons_zero, List.set_cons_succ] at k1')
  try clear hb3
  try clear hb0
  try clear k1
  have hb0 := hb0'; clear hb0'
  have k1 := k1'; clear k1'
  replace hb0 := bl_tr hb1 hb0
  clear hb1 h1
  go_wp2_with fail
  refine (r_Streams wa).mono ?_
  rintro e v2 ⟨rfl, hb1, hsm⟩
  replace hb0 := bl_tr hb0 hb1
  replace k1 := k1.below hb1
  go_wp2_with fail
  refine (h2.out v2 _ hsm).mono ?_
  rintro e v3 ⟨rfl, hb2⟩
  replace hb0 := bl_tr hb0 hb2
  replace k1 := k1.below hb2
  clear hsm hb1 hb2 h2
  go_wp2_with fail
  refine (r_Streams v3).mono ?_
  rintro e v4 ⟨rfl, hb1, hsm⟩
  replace hb0 := bl_tr hb0 hb1
  replace k1 := k1.below hb1
  go_wp2_with fail
  refine (h3.out _ _ v4.heap.size (hsm.below (bl_al _ (bl_refl _))) (Blk.new v4 _ _)).mono ?_
  rintro e v5 ⟨hb2, A5, c5, rfl, hs5⟩
  replace hb0 := bl_tr (bl_al _ hb0) hb2
  replace k1 := (k1.alloc _).below hb2
  clear hsm hb1 hb2 h3
  go_wp2_with fail
  refine (r_Net v5).mono ?_
  rintro e v6 ⟨rfl, hb1, hnt⟩
  replace hb0 := bl_tr hb0 hb1
  replace k1 := k1.below hb1
  replace hs5 := hs5.below hb1
  go_wp2_with fail
  refine (h4.out v6 _ _ _ _ (HT.out v6 hb0) hnt).mono ?_
  rintro e v7 ⟨hb2, A7, c7, rfl, hs7⟩
  replace hb0 := bl_tr hb0 hb2
  replace k1 := k1.below hb2
  replace hs5 := hs5.below hb2
  clear hnt hb1 hb2 h4
  go_wp2_with fail
  refine (h5.out _ v7.heap.size (Blk.new v7 _ _)).mono ?_
  rintro e v8 ⟨hb2, A9, c9, rfl, hs9⟩
  have hb1 := bl_al (.cells #[.int .i64 3, .int .i64 10, .int .i64 12] 3) (bl_refl v7)
  replace hb1 := bl_tr hb1 hb2
  replace hb0 := bl_tr hb0 hb1
  replace k1 := k1.below hb1
  replace hs5 := hs5.below hb1
  replace hs7 := hs7.below hb1
  clear hb1 hb2 h5 HT
  have L1 := k1.cell
  have heq : ∀ W : World, (Op.equalIn 10000 40 (.agg #[.int .i64 0, .int .i64 0, .int .i64 0, .int .i64 0, .int .i64 0, .int .i64 1, .int .i64 0, .int .i64 21]) (.agg #[.int .i64 0, .int .i64 0, .int .i64 0, .int .i64 0, .int .i64 0, .int .i64 1, .int .i64 0, .int .i64 21])).run Tryd.prog W = .ok true W := fun W => by kernel_rfl
  go_wp2_with fail
  refine (r_Ints [0, 1, 1, 2, 0, 2, 1, 1, 0, 2, -1, -1] [0, 1, 1, 2, 0, 2, 1, 1, 0, 2, -1, -1] A5 (some ⟨v8.heap.size, 0, none⟩) c5 12 _ (hs5.below (bl_al _ (bl_refl _))) (Blk.ints (l := [0, 1, 1, 2, 0, 2, 1, 1, 0, 2, -1, -1]) (Blk.new v8 _ _)) (by decide) (by decide)).mono ?_
  rintro e v9 ⟨rfl, hb2⟩
  rw [show intsB [0, 1, 1, 2, 0, 2, 1, 1, 0, 2, -1, -1] [0, 1, 1, 2, 0, 2, 1, 1, 0, 2, -1, -1] = true by decide]
  have hb1 := bl_tr (bl_al (.cells #[.int .i64 0, .int .i64 1, .int .i64 1, .int .i64 2, .int .i64 0, .int .i64 2, .int .i64 1, .int .i64 1, .int .i64 0, .int .i64 2, .int .i64 (-1), .int .i64 (-1)] 3) (bl_refl v8)) hb2
  replace hb0 := bl_tr hb0 hb1
  replace hs7 := hs7.below hb1
  replace hs9 := hs9.below hb1
  clear hb1 hb2 hs5 L1 k1 heq
  go_wp2_with fail
  refine (r_Ints [0, 1] [0, 1] A7 (some ⟨v9.heap.size, 0, none⟩) c7 2 _ (hs7.below (bl_al _ (bl_refl _))) (Blk.ints (l := [0, 1]) (Blk.new v9 _ _)) (by decide) (by decide)).mono ?_
  rintro e v10 ⟨rfl, hb2⟩
  rw [show intsB [0, 1] [0, 1] = true by decide]
  have hb1 := bl_tr (bl_al (.cells #[.int .i64 0, .int .i64 1] 3) (bl_refl v9)) hb2
  replace hb0 := bl_tr hb0 hb1
  replace hs9 := hs9.below hb1
  clear hb1 hb2 hs7
  go_wp2_with fail
  refine (r_Ranges [⟨0, 2⟩, ⟨8, 9⟩, ⟨17, 20⟩] [⟨0, 2⟩, ⟨8, 9⟩, ⟨17, 20⟩] A9 (some ⟨v10.heap.size, 0, none⟩) c9 3 _ (hs9.below (bl_al _ (bl_refl _))) (Blk.slC (cs := cRg) (l := [⟨0, 2⟩, ⟨8, 9⟩, ⟨17, 20⟩]) (fun _ => rfl) (Blk.new v10 _ _)) (by decide) (by decide)).mono ?_
  rintro e v11 ⟨rfl, hb2⟩
  rw [show rgsB [⟨0, 2⟩, ⟨8, 9⟩, ⟨17, 20⟩] [⟨0, 2⟩, ⟨8, 9⟩, ⟨17, 20⟩] = true by simp [rgsB]]
  replace hb0 := bl_tr (bl_al _ hb0) hb2
  clear hb2 hs9
  go_wp2
  go_ret
  exact ⟨rfl, hb0⟩
end Go.Proofs.YtdlmkblmljhbfaaDoor
