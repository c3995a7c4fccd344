/-
  Walks: a sender is opened.
-/
import Derived.Test.YtdlmkblmljhbfaaDoorTick
import Derived.Test.YtdlmkblmljhbfaaDoorSms
namespace Go.Proofs.YtdlmkblmljhbfaaDoor
set_option linter.unusedSimpArgs false
set_option linter.unusedVariables false
open Go.RowKit Go.Shelf
attribute [local go_sem] bl_al bl_drew bl_drewN bl_refl bx_al bx_drew bx_drewN bx_refl
set_option maxRecDepth 20000
theorem c_open1 (x : Int) (w : World) : Calls Tryd.prog 130 #[.int .i64 x] w (Same (.bool (inR x 0 400)) w) := by
  go_enter Tryd.func130, Tryd.ntmps130
  go_wp2_with (go_at_call 74; (with_reducible refine (c_within _ _ _ _).mono ?_); rintro e w3 ⟨rfl, rfl⟩)
  go_ret
  exact ⟨rfl, rfl⟩
theorem c_open2 (k x : Int) (B : Nat) (w : World) (kb : Blk w B 120 #[.func (.func 130) #[] #[]]) :
    Calls Tryd.prog 131 #[.int .i64 k, .int .i64 x, .pointer (some ⟨B, 0, none⟩)] w (Ret (.int .i64 (unl (inR x 0 400) 2)) w) := by
  have L0 := kb.cell
  go_enter Tryd.func131, Tryd.ntmps131
  go_wp2_with (first | (go_at_call 130; (with_reducible refine (c_open1 _ _).mono ?_); rintro e w3 ⟨rfl, rfl⟩) | (go_at_call 78; (with_reducible refine (c_unless _ _ _).mono ?_); rintro e w3 ⟨rfl, rfl⟩))
  go_ret
  exact ⟨rfl, by (with_reducible (repeat' (first | assumption | apply jA | apply jB | apply jC | apply jD | apply jE | apply jF | apply hb3 | omega | (simp; done) | (simp; omega) | (dsimp only; omega))))⟩
theorem mk_ints (n : Nat) (hn : n ≤ 6) (W : World) : (Instr.makeSlice 22 (.int .i64 n) (.int .i64 n)).run Tryd.prog W = .ok (.slice (some ⟨W.heap.size, 0, none⟩) n n) (W.alloc (.cells ((List.range n).map fun i => Value.int .i64 (ss0.wo i)).toArray 3)) := by
  obtain ⟨i0, hi, hz0, hz1, hz2⟩ := info_parts infoI
  have := run_make (P := Tryd.prog) W 22 3 i0 (.int .i64 0) Tryd.underlying22 hi hz0 .i64 .i64 (n : Int) (n : Int) (by omega) (Int.le_refl _) (by rw [hz2]; simp; omega) (by omega)
  rw [hz1, Int.toNat_natCast, Nat.mul_one] at this
  have e : madeCells (Value.int .i64 0).cells n = ((List.range n).map fun i => Value.int .i64 (ss0.wo i)).toArray := by
    apply Array.ext
    · simp [madeCells]
    · intro i h1 h2
      simp [madeCells, ss0, Value.cells, Nat.mod_one]
  rw [e] at this
  exact this
/-- The error of streams and as many starts. -/
def stE1 (l : List Sm) (st : List Int) : Int := fstE [smsErr l, unl (decide ((st.length : Int) = l.length)) 10]
def stE2 (l : List Sm) (st : List Int) : Int := if stE1 l st = 0 then (eachS (fun _ n => unl (inR n 0 400) 2) st 0).2 else stE1 l st
theorem stE_eq (l : List Sm) (st : List Int) (t : Int) : stE l st t = fstE [stE2 l st, unl (inR t 0 400) 2] := rfl
set_option maxHeartbeats 8000000 in
theorem c_openSender (l : List Sm) (st : List Int) (t : Int) (Al As : Option Addr) (cl cs : Nat) (w : World) (hl : SmIn l Al cl w) (hs : Sl cI 1 w As st) (hsl : st.length ≤ 100000) :
    Calls Tryd.prog 95 #[.slice Al l.length cl, .slice As st.length cs, .int .i64 t] w (fun e w' => Below w.heap.size w w' ∧
      ((stE l st t ≠ 0 ∧ e = .returned (.tuple #[.pointer none, .int .i64 (stE l st t)])) ∨
        (stE l st t = 0 ∧ ∃ S Bw, e = .returned (.tuple #[.pointer (some ⟨S, 0, none⟩), .int .i64 0]) ∧ Snd w.heap.size S Bw (.slice Al l.length cl) (.slice As st.length cs) l.length ⟨fun _ => none, fun _ => 0⟩ ss0 w'))) := by
  have hc1 := Lib.hid fun W (hb : Below w.heap.size w W) => c_streamsErr l Al cl W (hl.below hb)
  have hc2 := Lib.hid fun (B : Nat) W (hb : Below w.heap.size w W) (kb : Blk W B 120 #[.func (.func 130) #[] #[]]) =>
    c_eachI 131 #[.pointer (some ⟨B, 0, none⟩)] (fun _ n => unl (inR n 0 400) 2) As st cs W (by omega) (enters_of Tryd.func131 (by kernel_rfl) rfl)
      (fun k x _ W' hb' => c_open2 k x B W' (kb.below hb')) (hs.below hb)
  have hlen := hl.len
  have hE1 : Hid (stE1 l st = fstE [smsErr l, unl ((st.length : Int) == l.length) 10]) := rfl
  have hE2 : Hid ((stE1 l st = 0 → stE2 l st = (eachS (fun _ n => unl (inR n 0 400) 2) st 0).2) ∧ (stE1 l st ≠ 0 → stE2 l st = stE1 l st)) := ⟨fun h => by rw [stE2, if_pos h], fun h => by rw [stE2, if_neg h]⟩
  have hE3 : Hid (stE l st t = fstE [stE2 l st, unl (inR t 0 400) 2]) := rfl
  have hn6 : Hid (stE l st t = 0 → l.length ≤ 6) := fun h => by
    obtain ⟨a1, -⟩ := (fst_cons _ _).1 h
    change stE2 l st = 0 at a1
    have a2 : stE1 l st = 0 := by
      by_cases h0 : stE1 l st = 0
      · exact h0
      · rw [stE2, if_neg h0] at a1; exact absurd a1 h0
    obtain ⟨a3, -⟩ := (fst_cons _ _).1 a2
    by_cases h6 : lenE l.length 6 = 0
    · obtain ⟨-, a4⟩ := (fst_cons _ _).1 h6
      obtain ⟨a5, -⟩ := (fst_cons _ _).1 a4
      have := (unl_zero (by decide)).1 a5
      simp at this
      omega
    · rw [smsErr, smsChk, if_neg h6] at a3; exact absurd a3 h6
  clear hl hs
  generalize smsErr l = se at *
  generalize eachS (fun _ n => unl (inR n 0 400) 2) st 0 = P at *
  obtain ⟨p1, p2⟩ := P
  dsimp only at *
  generalize stE1 l st = e1 at *
  generalize stE2 l st = e2 at *
  generalize stE l st t = e3 at *
  generalize l.length = n at *
  generalize st.length = m at *
  go_enter Tryd.func95, Tryd.ntmps95
  go_upto_region 2 with fail
  first
  | apply absB1 (w0 := w) (g0 := w.heap.size)
  | apply absTB1 (w0 := w) (g0 := w.heap.size)
  | apply absIB1 (w0 := w) (g0 := w.heap.size)
  iterate 2 (focus ((with_reducible (repeat' (first | assumption | apply jA | apply jB | apply jC | apply jD | apply jE | apply jF | apply hb3 | apply jG | apply jH | apply jI | apply jJ | apply jK | apply hb3x | (apply jL; first | (simp; done) | rfl) | apply jM | apply jN | apply jO | apply jP | apply jQ | apply jR | apply jS | apply jT (hb := hb3 _ (jA _)) | omega | (simp; done) | (simp; omega) | (dsimp only; omega)))); done))
  intro wa hb0' k0'
  (try simp only [List.setIfInBounds_toArray, List.set_cons_zero, List.set_cons_succ] at k0')
  try clear hb3
  try clear hb0
  try clear k0
  have hb0 := hb0'; clear hb0'
  have k0 := k0'; clear k0'
  go_wp2_with fail
  refine (hc1.out wa hb0).mono ?_
  rintro e w3 ⟨rfl, hb3⟩
  replace hb0 := bl_tr hb0 hb3
  replace k0 := k0.below hb3
  clear hb3
  go_upto_region 3 with (first | (go_at_call 78; (with_reducible refine (c_unless _ _ _).mono ?_); rintro e w3 ⟨rfl, rfl⟩) | (go_at_call 77; (with_reducible refine (c_first2 (by (with_reducible (repeat' (first | assumption | (apply jL; first | (simp; done) | rfl) | apply jM | apply jN | apply jO | apply jP | apply jQ | apply jR | apply jS | apply jT (hb := hb3 _ (jA _)) | omega | (simp; done) | (simp; omega) | (dsimp only; omega)))))).mono ?_); rintro e w3 ⟨rfl, rfl⟩))
  rw [← hE1.out]
  first
  | apply absB1 (w0 := w) (g0 := w.heap.size)
  | apply absTB1 (w0 := w) (g0 := w.heap.size)
  | apply absIB1 (w0 := w) (g0 := w.heap.size)
  iterate 2 (focus ((with_reducible (repeat' (first | assumption | apply jA | apply jB | apply jC | apply jD | apply jE | apply jF | apply hb3 | apply jG | apply jH | apply jI | apply jJ | apply jK | apply hb3x | (apply jL; first | (simp; done) | rfl) | apply jM | apply jN | apply jO | apply jP | apply jQ | apply jR | apply jS | apply jT (hb := hb3 _ (jA _)) | omega | (simp; done) | (simp; omega) | (dsimp only; omega)))); done))
  intro wb hb0' k0'
  (try simp only [List.setIfInBounds_toArray, List.set_cons_zero, List.set_cons_succ] at k0')
  try clear hb3
  try clear hb0
  try clear k0
  have hb0 := hb0'; clear hb0'
  have k0 := k0'; clear k0'
  by_cases he1 : e1 = 0
  · have hE4 : Hid (fstE [p2, unl (inR t 0 400) 2] = e3) := Lib.hid (by rw [hE3.out, hE2.out.1 he1])
    have L0 := k0.cell
    go_wp2_with fail
    clear L0
    refine (hc2.out w.heap.size wb hb0 k0).mono ?_
    rintro e w3 ⟨rfl, hb3⟩
    replace hb0 := bl_tr hb0 hb3
    replace k0 := k0.below hb3
    clear hb3
    have L0 := k0.cell
    go_upto_region 6 with (first | (go_at_call 130; (with_reducible refine (c_open1 _ _).mono ?_); rintro e w3 ⟨rfl, rfl⟩) | (go_at_call 78; (with_reducible refine (c_unless _ _ _).mono ?_); rintro e w3 ⟨rfl, rfl⟩) | (go_at_call 77; (with_reducible refine (c_first2 (by (with_reducible (repeat' (first | assumption | (apply jL; first | (simp; done) | rfl) | apply jM | apply jN | apply jO | apply jP | apply jQ | apply jR | apply jS | apply jT (hb := hb3 _ (jA _)) | omega | (simp; done) | (simp; omega) | (dsimp only; omega)))))).mono ?_); rintro e w3 ⟨rfl, rfl⟩))
    rw [hE4.out]
    clear L0
    by_cases he3 : e3 = 0
    rotate_left
    · go_wp2
      go_ret2
      exact ⟨by (with_reducible (repeat' (first | assumption | apply jA | apply jB | apply jC | apply jD | apply jE | apply jF | apply hb3 | omega | (simp; done) | (simp; omega) | (dsimp only; omega)))), .inl ⟨he3, rfl⟩⟩
    have hn := hn6.out he3
    clear hc1 hc2 hE1 hE2 hE3 hE4 hn6
    subst he3
    have hmk : ∀ W : World, (Instr.makeSlice 22 (.int .i64 n) (.int .i64 n)).run Tryd.prog W = .ok (.slice (some ⟨W.heap.size, 0, none⟩) n n) (W.alloc (.cells ((List.range n).map fun i => Value.int .i64 (ss0.wo i)).toArray 3)) := fun W => mk_ints n hn W
    clear hlen
    go_wp2
    go_ret2
    have hsz := hb0.size
    refine ⟨by (with_reducible (repeat' (first | assumption | apply jA | apply jB | apply jC | apply jD | apply jE | apply jF | apply hb3 | omega | (simp; done) | (simp; omega) | (dsimp only; omega)))), _, rfl, w3.heap.size + 1, ?_⟩
    refine ⟨Blk.newAt (by simp), Blk.alloc (Blk.newAt (by simp)) _, fun i hi => Qu.nil _ _ _, by omega, by omega, by omega, fun i j _ _ _ g hg => by simp [blA] at hg, fun i _ => by simp [blA], fun i _ => by simp [blA]⟩
  · have hE4 : Hid (fstE [e1, unl (inR t 0 400) 2] = e3) := Lib.hid (by rw [hE3.out, hE2.out.2 he1])
    have he0 : ¬ e3 = 0 := fun h => by rw [← hE4.out] at h; exact he1 ((fst_cons _ _).1 h).1
    have L0 := k0.cell
    go_upto_region 6 with (first | (go_at_call 130; (with_reducible refine (c_open1 _ _).mono ?_); rintro e w3 ⟨rfl, rfl⟩) | (go_at_call 78; (with_reducible refine (c_unless _ _ _).mono ?_); rintro e w3 ⟨rfl, rfl⟩) | (go_at_call 77; (with_reducible refine (c_first2 (by (with_reducible (repeat' (first | assumption | (apply jL; first | (simp; done) | rfl) | apply jM | apply jN | apply jO | apply jP | apply jQ | apply jR | apply jS | apply jT (hb := hb3 _ (jA _)) | omega | (simp; done) | (simp; omega) | (dsimp only; omega)))))).mono ?_); rintro e w3 ⟨rfl, rfl⟩))
    rw [hE4.out]
    clear L0
    go_wp2
    go_ret2
    exact ⟨by (with_reducible (repeat' (first | assumption | apply jA | apply jB | apply jC | apply jD | apply jE | apply jF | apply hb3 | omega | (simp; done) | (simp; omega) | (dsimp only; omega)))), .inl ⟨he0, rfl⟩⟩
end Go.Proofs.YtdlmkblmljhbfaaDoor
