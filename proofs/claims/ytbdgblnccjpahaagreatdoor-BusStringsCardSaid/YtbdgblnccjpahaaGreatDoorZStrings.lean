/-
  moonpoollaw07.BusStrings answers true at every input, and its arguments read behind the call as they read before; its tables are tied to the program's text. Conditions: none but those of the given statement.
-/
import Derived.Test.YtbdgblnccjpahaaGreatDoorVStrings10
set_option linter.unusedSimpArgs false
set_option linter.unusedVariables false
namespace Go.Proofs.YtbdgblnccjpahaaGreatDoor.busStrings
open Go.ChangeShapes Go.WideShapes Go.ChangeAt Go.RowKit Go.Deep
theorem string_of {P : Program} {W : World} {base : Nat} {t : TypeId} {v : Value} (hu : P.underlying t = some .string) (h : Value.okWide P W .any base t v) : ∃ n, v = .string n := by
  unfold Value.okWide at h
  simp only [hu] at h
  cases v with
  | string s => exact ⟨s, rfl⟩
  | _ => simp [Cell.okWide, Cell.ok, hu] at h
set_option maxRecDepth 100000 in
theorem lifted (os : Os) (started : os.Started) (H : Type) (enc : TypeId × Value → H) :
    ReturnsInHanded {} Tryz.checked os 6 .any (fun w args => (Rows.busStringsSpec.pre enc Tryz.prog Tryz.f6 Rows.busStringsRow.domain false w args ∧ laidMetH Tryz.prog Rows.busStringsRow.laid w) ∧ sizedMet enc Tryz.prog Tryz.f6 (OpenSpec.ofChange Rows.busStringsSpec) false w args)
      (Rows.busStringsSpec.post enc Tryz.prog Tryz.f6 false true false false) := by
  refine returnsInHanded_of_change_and (C := Tryz.checked) (X := fun w _ => laidMetH Tryz.prog Rows.busStringsRow.laid w) (fun _ _ _ hh h => h.of_heap hh) own started (by kernel_rfl) Tryz.func6
    (ChangeSpec.witness_shaped (enc := enc) (C := Tryz.checked) (os := os) (X := fun w _ => laidMetH Tryz.prog Rows.busStringsRow.laid w) false (World.laidAll Tryz.prog os Rows.busStringsRow.laid) #[.slice none 0 0, .agg #[.slice none 0 0, .slice none 0 0, .slice none 0 0], .string ByteArray.empty] 8 (World.laidAll_os _ _ _)
      (World.shaped_of_ZipB (by kernel_rfl) (by kernel_rfl)) (by kernel_rfl) (by kernel_rfl) (by kernel_rfl)
      (by rw [MakeChecks.laidMetH_plain _ _ _ (by kernel_rfl)]; exact laidMet_laidAll _ (by kernel_rfl) (by kernel_rfl))) ?_
  intro W base args ds gs before hval0 hW _ _ hL _
  have hval : ∀ (j : Nat) t v, Tryz.f6.params[j]? = some t → args[j]? = some v → Value.okWide Tryz.prog W .any base t v := hval0
  have hT := env_of hL
  have hW' := hW
  obtain ⟨p, q, hA0, hV, rfl, hfz, hnd⟩ := hW
  have hA : DataW.TrodAll enc Tryz.prog W 0 (fun _ => true) true Tryz.f6.params.toList args.toList ds p := hA0
  rw [Tryz.params6 ] at hA hval
  obtain ⟨v0, vs0, d0, ds0, p0, q0, hargs, rfl, rfl, h0, r0⟩ := trodAll_cons hA
  obtain ⟨v1, vs1, d1, ds1, p1, q1, rfl, rfl, rfl, h1, r1⟩ := trodAll_cons r0
  obtain ⟨v2, vs2, d2, ds2, p2, q2, rfl, rfl, rfl, h2, r2⟩ := trodAll_cons r1
  obtain ⟨rfl, rfl, rfl⟩ := trodAll_nil r2
  obtain rfl : args = #[v0, v1, v2] := by cases args; simp_all
  obtain ⟨rfl, rfl⟩ := trodVars_none hV
  have lt0 : ∀ x ∈ p0, x.block < W.heap.size := by obtain ⟨m, hm⟩ := h0; exact DataW.trod_lt m _ _ _ hm
  have lt1 : ∀ x ∈ p1, x.block < W.heap.size := by obtain ⟨m, hm⟩ := h1; exact DataW.trod_lt m _ _ _ hm
  have lt2 : ∀ x ∈ p2, x.block < W.heap.size := by obtain ⟨m, hm⟩ := h2; exact DataW.trod_lt m _ _ _ hm
  obtain ⟨B0, k0, j0, e0⟩ := slice_of Tryz.underlying22 (hval 0 _ v0 rfl rfl)
  subst e0
  obtain ⟨w1, e1⟩ := agg_of Tryz.underlying58 (hval 1 _ v1 rfl rfl)
  subst e1
  obtain ⟨w2, e2⟩ := string_of Tryz.underlying9 (hval 2 _ v2 rfl rfl)
  subst e2
  obtain ⟨m0', f0⟩ := h0
  obtain ⟨m1', f1⟩ := h1
  obtain ⟨m2', f2⟩ := h2
  obtain ⟨A0, c0, l0, g0, hc0, hm0, hs0, hn0⟩ := rd_SmsF f0
  obtain ⟨n1, Ap1, Af1, Am1, cp1, cf1, cm1, g1, hn1, hN1⟩ := rd_NtF f1
  obtain ⟨s2, g2, -, hs2⟩ := DataW.trod_string Tryz.underlying9 f2
  have h0 : DataW.Trod enc Tryz.prog W 0 (fun _ => true) true 22 (.slice B0 k0 j0) d0 p0 := ⟨m0', f0⟩
  have h1 : DataW.Trod enc Tryz.prog W 0 (fun _ => true) true 58 (.agg w1) d1 p1 := ⟨m1', f1⟩
  have h2 : DataW.Trod enc Tryz.prog W 0 (fun _ => true) true 9 (.string w2) d2 p2 := ⟨m2', f2⟩
  have a0 := one_cell (v := .slice B0 k0 j0) g0
  have a1 := agg_cells g1
  have a2 := one_cell (v := .string w2) g2
  rw [a0] at h0
  rw [a1] at h1
  rw [a2] at h2
  clear hA0 hval0 f0 g0 f1 g1 f2 g2
  rw [a0, a1, a2] at hW' ⊢
  obtain ⟨sl, rfl⟩ : ∃ sl : List UInt8, s2 = ⟨sl.toArray⟩ := ⟨s2.data.toList, rfl⟩
  refine (r_BusStrings l0 n1 sl A0 Ap1 Af1 Am1 c0 cp1 cf1 cm1 W hs0 hc0 hn0 hn1 hN1 hT).mono fun e W' ⟨he, bel⟩ => ?_
  subst he
  exact ⟨_, rfl, _, _, _, [], _, [], hW', trodAll_mk1 (shut_bool Tryz.underlying4 _), (trodAll_cons_mk (Below.trod laidOut (by kernel_rfl) (of_decide_eq_true (by kernel_rfl)) h0 bel lt0) (trodAll_cons_mk (Below.trod laidOut (by kernel_rfl) (of_decide_eq_true (by kernel_rfl)) h1 bel lt1) (trodAll_cons_mk (Below.trod laidOut (by kernel_rfl) (of_decide_eq_true (by kernel_rfl)) h2 bel lt2) trodAll_mk0))), rfl, bel.frame _, fun h => by cases h⟩
theorem said : Rows.BusStringsSaid :=
  OpenClaim.holds_of_wide 6 Tryz.f6 rfl rfl rfl rfl rfl rfl rfl ⟨rfl, rfl, rfl, rfl, rfl⟩ rfl rfl rfl rfl rfl (by kernel_rfl) Tryz.func6 (by kernel_rfl)
    (of_decide_eq_true (by kernel_rfl)) (by unfold Func.isWrapper; first | (rw [if_pos (by decide +kernel)]; kernel_rfl) | (rw [if_neg (by decide +kernel)]; exact ⟨rfl, rfl⟩))
    (fun os started H enc _ => lifted os started H enc)
theorem plain (f : FuncId) (fn : Func) (hf : Tryz.pinned.checked.prog.funcNamed "moonpool/moonpoollaw07.BusStrings" = some f) (hfn : Tryz.pinned.checked.prog.funcs[f]? = some fn) :
    true = Tryz.pinned.checked.prog.looks [] ∧ ∀ (j : Nat) t, fn.params[j]? = some t → Tryz.pinned.checked.prog.wantsStandIn t = false := by
  obtain rfl : f = 6 := Option.some.inj ((show Tryz.prog.funcNamed "moonpool/moonpoollaw07.BusStrings" = some 6 by kernel_rfl).symm.trans hf) |>.symm
  obtain rfl : fn = Tryz.f6 := (Option.some.inj (Tryz.func6.symm.trans hfn)).symm
  refine ⟨by kernel_rfl, fun j t ht => ?_⟩
  rw [Tryz.params6 ] at ht
  have hm : t ∈ [22, 58, 9 ] := by simpa using Array.mem_of_getElem? ht
  have hall : ([22, 58, 9 ].all fun u => !Tryz.prog.wantsStandIn u) = true := by kernel_rfl
  exact (show Tryz.prog.wantsStandIn t = false by simpa using List.all_eq_true.1 hall t hm)
/-- The tied card. -/
theorem card : Rows.BusStringsCardSaid :=
  Claim7.holds_tied_plain_at .later [] _ _ _ _ said (fun _ h => by cases h) (by kernel_rfl) (fun _ h => by cases h) busStrings_row_tie rfl ⟨rfl, rfl⟩ (by kernel_rfl) rfl plain (by kernel_rfl)
#print axioms card
end Go.Proofs.YtbdgblnccjpahaaGreatDoor.busStrings
