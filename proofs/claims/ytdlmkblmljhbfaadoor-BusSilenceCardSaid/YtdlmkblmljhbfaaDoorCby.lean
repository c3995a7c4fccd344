/-
  Walks: what is carried by priority.
-/
import Derived.Test.YtdlmkblmljhbfaaDoorRun
import Derived.Laws.EntriesVeiled
namespace Go.Proofs.YtdlmkblmljhbfaaDoor
set_option linter.unusedSimpArgs false
set_option linter.unusedVariables false
open Go.RowKit Go.Shelf
attribute [local go_sem] bl_al bl_drew bl_drewN bl_refl bx_al bx_drew bx_drewN bx_refl
set_option maxRecDepth 20000
theorem prioFrom_cr (q : Nat → List (Int × Int)) : ∀ n i, i + n ≤ 6 → prioFrom q n i = -1 ∨ ∃ j : Nat, j < 6 ∧ prioFrom q n i = j ∧ q j ≠ []
  | 0, _, _ => .inl rfl
  | n + 1, i, h => by
    unfold prioFrom
    split
    · exact prioFrom_cr q n (i + 1) (by omega)
    · rename_i h2
      exact .inr ⟨i, by omega, rfl, fun e => h2 (by rw [e]; rfl)⟩
theorem prioS_cr (q : Nat → List (Int × Int)) : prioS q = -1 ∨ ∃ i : Nat, i < 6 ∧ prioS q = i ∧ q i ≠ [] := prioFrom_cr q 6 0 (by decide)
theorem smsErr_ok {l : List Sm} (h : smsErr l = 0) : 0 < l.length ∧ l.length ≤ 6 ∧ ∀ x ∈ l, 1 ≤ x.per ∧ x.per ≤ 60 ∧ 1 ≤ x.dl ∧ x.dl ≤ x.per ∧ 1 ≤ x.len ∧ x.len ≤ 20 := by
  by_cases h6 : lenE l.length 6 = 0
  · rw [smsErr, smsChk, if_pos h6] at h
    obtain ⟨b1, b2⟩ := (fst_cons _ _).1 h6
    obtain ⟨b3, -⟩ := (fst_cons _ _).1 b2
    have c1 := (unl_zero (by decide)).1 b1
    have c2 := (unl_zero (by decide)).1 b3
    simp at c1 c2
    refine ⟨c1, by omega, fun x hx => ?_⟩
    obtain ⟨k, hk⟩ := List.mem_iff_getElem?.1 hx
    have := eachS_ok _ l 0 h k x hk
    obtain ⟨-, d2⟩ := (fst_cons _ _).1 this
    obtain ⟨-, d3⟩ := (fst_cons _ _).1 d2
    obtain ⟨d4, -⟩ := (fst_cons _ _).1 d3
    have := (unl_zero (by decide)).1 d4
    simp [inR] at this
    omega
  · rw [smsErr, smsChk, if_neg h6] at h
    exact absurd h h6
theorem stE_ok {l : List Sm} {st : List Int} {t : Int} (h : stE l st t = 0) : Opn l st ∧ 0 ≤ t ∧ t ≤ 400 := by
  obtain ⟨a1, a2⟩ := (fst_cons _ _).1 h
  obtain ⟨a3, -⟩ := (fst_cons _ _).1 a2
  have ht := (unl_zero (by decide)).1 a3
  simp [inR] at ht
  change stE2 l st = 0 at a1
  have e1 : stE1 l st = 0 := by
    by_cases h0 : stE1 l st = 0
    · exact h0
    · rw [stE2, if_neg h0] at a1; exact absurd a1 h0
  rw [stE2, if_pos e1] at a1
  obtain ⟨b1, b2⟩ := (fst_cons _ _).1 e1
  obtain ⟨b3, -⟩ := (fst_cons _ _).1 b2
  have b4 := (unl_zero (by decide)).1 b3
  simp at b4
  obtain ⟨c1, c2, c3⟩ := smsErr_ok b1
  refine ⟨⟨c2, by omega, c3, fun a ha => ?_⟩, ht⟩
  obtain ⟨k, hk⟩ := List.mem_iff_getElem?.1 ha
  have := eachS_ok _ st 0 a1 k a hk
  have := (unl_zero (by decide)).1 this
  simp [inR] at this
  omega
set_option maxHeartbeats 8000000 in
theorem c_CarriedBy (l : List Sm) (st : List Int) (t : Int) (Al As : Option Addr) (cl cs : Nat) (w : World) (hl : SmIn l Al cl w) (hs : Sl cI 1 w As st) (hsl : st.length ≤ 100000) :
    Calls Tryd.prog 46 #[.slice Al l.length cl, .slice As st.length cs, .int .i64 t] w (fun e w' => Below w.heap.size w w' ∧
      ((stE l st t ≠ 0 ∧ e = .returned (.tuple #[.slice none 0 0, .int .i64 (stE l st t)])) ∨
        (stE l st t = 0 ∧ ∃ A c, e = .returned (.tuple #[.slice A t.toNat c, .int .i64 0]) ∧ w'.ownsRow w.heap.size 3 1 (.slice A t.toNat c) t.toNat ((runS prioS l st t.toNat).2.map (.int .i64))))) := by
  have hop := Lib.hid (c_openSender l st t Al As cl cs w hl hs hsl)
  have hrun := Lib.hid fun (S Bw T : Nat) (W : World) (h0 : stE l st t = 0) (hT : t = T) (hb : Below w.heap.size w W) (h : Snd w.heap.size S Bw (.slice Al l.length cl) (.slice As st.length cs) l.length ⟨fun _ => none, fun _ => 0⟩ ss0 W) =>
    (c_run 97 prioS l st T Al As cl cs S Bw ⟨fun _ => none, fun _ => 0⟩ w W (stE_ok h0).1 (by have := (stE_ok h0).2; omega) hb hl.sl hs h (enters_of Tryd.func97 (by kernel_rfl) rfl)
      (fun Q s W' h' => c_byPriority h') prioS_cr)
  have hok := Lib.hid fun h0 => (stE_ok (l := l) (st := st) (t := t) h0).2
  clear hl hs
  generalize stE l st t = e3 at *
  generalize l.length = n at *
  generalize st.length = m at *
  go_enter Tryd.func46, Tryd.ntmps46
  go_wp2_with fail
  refine hop.out.mono ?_
  rintro e w1 ⟨hb1, ⟨h0, rfl⟩ | ⟨h0, S, Bw, rfl, hS⟩⟩
  · clear hrun hok hop
    go_wp2
    go_ret2
    exact ⟨hb1, .inl ⟨h0, rfl⟩⟩
  · subst h0
    obtain ⟨ht0, -⟩ := hok.out rfl
    obtain ⟨T, rfl⟩ : ∃ T : Nat, t = T := ⟨t.toNat, by omega⟩
    have hr := Lib.hid (hrun.out S Bw T w1 rfl rfl hb1 hS)
    have hft := Lib.hid hS.foot_ge
    clear hop hrun hok hS
    go_wp2_with fail
    refine hr.out.mono ?_
    rintro e w2 ⟨A, c, rfl, hown, Q', -, hx⟩
    have hb2 := bx_below hb1 hx (fun x hx => (hft.out x hx).1)
    replace hown := own_mono hb1.size hown
    clear hr hft hx
    go_wp2
    go_ret2
    exact ⟨hb2, A, c, rfl, hown⟩
end Go.Proofs.YtdlmkblmljhbfaaDoor
