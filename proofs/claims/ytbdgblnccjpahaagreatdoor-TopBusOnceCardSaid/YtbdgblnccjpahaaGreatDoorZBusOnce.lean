/-
  moonpooltop.TopBusOnce answers true at every input, and its arguments read behind the call as they read before; its tables are tied to the program's text. Conditions: none but those of the given statement.
-/
import Derived.Test.YtbdgblnccjpahaaGreatDoorVBusOnce3
import Derived.Test.YtbdgblnccjpahaaGreatDoorVBusOnce8
set_option linter.unusedSimpArgs false
set_option linter.unusedVariables false
namespace Go.Proofs.YtbdgblnccjpahaaGreatDoor.topBusOnce
open Go.ChangeShapes Go.WideShapes Go.ChangeAt Go.RowKit Go.Deep
set_option maxRecDepth 100000 in
theorem lifted (os : Os) (started : os.Started) (H : Type) (enc : TypeId × Value → H) :
    ReturnsInHanded {} Tryz.checked os 4 .any (fun w args => (Rows.topBusOnceSpec.pre enc Tryz.prog Tryz.f4 Rows.topBusOnceRow.domain false w args ∧ laidMetH Tryz.prog Rows.topBusOnceRow.laid w) ∧ sizedMet enc Tryz.prog Tryz.f4 (OpenSpec.ofChange Rows.topBusOnceSpec) false w args)
      (Rows.topBusOnceSpec.post enc Tryz.prog Tryz.f4 false true false false) := by
  refine returnsInHanded_of_change_and (C := Tryz.checked) (X := fun w _ => laidMetH Tryz.prog Rows.topBusOnceRow.laid w) (fun _ _ _ hh h => h.of_heap hh) own started (by kernel_rfl) Tryz.func4
    (ChangeSpec.witness_shaped (enc := enc) (C := Tryz.checked) (os := os) (X := fun w _ => laidMetH Tryz.prog Rows.topBusOnceRow.laid w) false (World.laidAll Tryz.prog os Rows.topBusOnceRow.laid) #[.agg #[.int .i64 0, .int .i64 0, .int .i64 0, .int .i64 0, .int .i64 0, .int .i64 0, .int .i64 0], .slice none 0 0, .agg #[.slice none 0 0, .slice none 0 0, .slice none 0 0]] 8 (World.laidAll_os _ _ _)
      (World.shaped_of_ZipB (by kernel_rfl) (by kernel_rfl)) (by kernel_rfl) (by kernel_rfl) (by kernel_rfl)
      (by rw [MakeChecks.laidMetH_plain _ _ _ (by kernel_rfl)]; exact laidMet_laidAll _ (by kernel_rfl) (by kernel_rfl))) ?_
  intro W base args ds gs before hval0 hW _ _ hL _
  have hval : ∀ (j : Nat) t v, Tryz.f4.params[j]? = some t → args[j]? = some v → Value.okWide Tryz.prog W .any base t v := hval0
  have hT := env_of hL
  have hW' := hW
  obtain ⟨p, q, hA0, hV, rfl, hfz, hnd⟩ := hW
  have hA : DataW.TrodAll enc Tryz.prog W 0 (fun _ => true) true Tryz.f4.params.toList args.toList ds p := hA0
  rw [Tryz.params4 ] at hA hval
  obtain ⟨v0, vs0, d0, ds0, p0, q0, hargs, rfl, rfl, h0, r0⟩ := trodAll_cons hA
  obtain ⟨v1, vs1, d1, ds1, p1, q1, rfl, rfl, rfl, h1, r1⟩ := trodAll_cons r0
  obtain ⟨v2, vs2, d2, ds2, p2, q2, rfl, rfl, rfl, h2, r2⟩ := trodAll_cons r1
  obtain ⟨rfl, rfl, rfl⟩ := trodAll_nil r2
  obtain rfl : args = #[v0, v1, v2] := by cases args; simp_all
  obtain ⟨rfl, rfl⟩ := trodVars_none hV
  have lt0 : ∀ x ∈ p0, x.block < W.heap.size := by obtain ⟨m, hm⟩ := h0; exact DataW.trod_lt m _ _ _ hm
  have lt1 : ∀ x ∈ p1, x.block < W.heap.size := by obtain ⟨m, hm⟩ := h1; exact DataW.trod_lt m _ _ _ hm
  have lt2 : ∀ x ∈ p2, x.block < W.heap.size := by obtain ⟨m, hm⟩ := h2; exact DataW.trod_lt m _ _ _ hm
  obtain ⟨w0, e0⟩ := agg_of Tryz.underlying52 (hval 0 _ v0 rfl rfl)
  subst e0
  obtain ⟨B1, k1, j1, e1⟩ := slice_of Tryz.underlying53 (hval 1 _ v1 rfl rfl)
  subst e1
  obtain ⟨w2, e2⟩ := agg_of Tryz.underlying58 (hval 2 _ v2 rfl rfl)
  subst e2
  obtain ⟨m0', f0⟩ := h0
  obtain ⟨m1', f1⟩ := h1
  obtain ⟨m2', f2⟩ := h2
  obtain ⟨m0, g0⟩ := rd_Ms f0
  obtain ⟨A1, c1, l1, g1, hc1, hm1, hs1, hr1⟩ := rd_RwsM f1
  obtain ⟨n2, Ap2, Af2, Am2, cp2, cf2, cm2, g2, hn2, hN2⟩ := rd_NtM f2
  have h0 : DataW.Trod enc Tryz.prog W 0 (fun _ => true) true 52 (.agg w0) d0 p0 := ⟨m0', f0⟩
  have h1 : DataW.Trod enc Tryz.prog W 0 (fun _ => true) true 53 (.slice B1 k1 j1) d1 p1 := ⟨m1', f1⟩
  have h2 : DataW.Trod enc Tryz.prog W 0 (fun _ => true) true 58 (.agg w2) d2 p2 := ⟨m2', f2⟩
  have a0 := agg_cells g0
  have a1 := one_cell (v := .slice B1 k1 j1) g1
  have a2 := agg_cells g2
  rw [a0] at h0
  rw [a1] at h1
  rw [a2] at h2
  clear hA0 hval0 f0 g0 f1 g1 f2 g2
  rw [a0, a1, a2] at hW' ⊢
  refine (r_TopBusOnce m0 l1 n2 A1 Ap2 Af2 Am2 c1 cp2 cf2 cm2 W hs1 (fun r hr => (hr1 r hr).1.sl) hn2 hN2 hT).mono fun e W' ⟨he, bel⟩ => ?_
  subst he
  exact ⟨_, rfl, _, _, _, [], _, [], hW', trodAll_mk1 (shut_bool Tryz.underlying4 _), (trodAll_cons_mk (Below.trod laidOut (by kernel_rfl) (of_decide_eq_true (by kernel_rfl)) h0 bel lt0) (trodAll_cons_mk (Below.trod laidOut (by kernel_rfl) (of_decide_eq_true (by kernel_rfl)) h1 bel lt1) (trodAll_cons_mk (Below.trod laidOut (by kernel_rfl) (of_decide_eq_true (by kernel_rfl)) h2 bel lt2) trodAll_mk0))), rfl, bel.frame _, fun h => by cases h⟩
theorem said : Rows.TopBusOnceSaid :=
  OpenClaim.holds_of_wide 4 Tryz.f4 rfl rfl rfl rfl rfl rfl rfl ⟨rfl, rfl, rfl, rfl, rfl⟩ rfl rfl rfl rfl rfl (by kernel_rfl) Tryz.func4 (by kernel_rfl)
    (of_decide_eq_true (by kernel_rfl)) (by unfold Func.isWrapper; first | (rw [if_pos (by decide +kernel)]; kernel_rfl) | (rw [if_neg (by decide +kernel)]; exact ⟨rfl, rfl⟩))
    (fun os started H enc _ => lifted os started H enc)
theorem plain (f : FuncId) (fn : Func) (hf : Tryz.pinned.checked.prog.funcNamed "moonpool/moonpooltop.TopBusOnce" = some f) (hfn : Tryz.pinned.checked.prog.funcs[f]? = some fn) :
    true = Tryz.pinned.checked.prog.looks [] ∧ ∀ (j : Nat) t, fn.params[j]? = some t → Tryz.pinned.checked.prog.wantsStandIn t = false := by
  obtain rfl : f = 4 := Option.some.inj ((show Tryz.prog.funcNamed "moonpool/moonpooltop.TopBusOnce" = some 4 by kernel_rfl).symm.trans hf) |>.symm
  obtain rfl : fn = Tryz.f4 := (Option.some.inj (Tryz.func4.symm.trans hfn)).symm
  refine ⟨by kernel_rfl, fun j t ht => ?_⟩
  rw [Tryz.params4 ] at ht
  have hm : t ∈ [52, 53, 58 ] := by simpa using Array.mem_of_getElem? ht
  have hall : ([52, 53, 58 ].all fun u => !Tryz.prog.wantsStandIn u) = true := by kernel_rfl
  exact (show Tryz.prog.wantsStandIn t = false by simpa using List.all_eq_true.1 hall t hm)
/-- The tied card. -/
theorem card : Rows.TopBusOnceCardSaid :=
  Claim7.holds_tied_plain_at .later [] _ _ _ _ said (fun _ h => by cases h) (by kernel_rfl) (fun _ h => by cases h) topBusOnce_row_tie rfl ⟨rfl, rfl⟩ (by kernel_rfl) rfl plain (by kernel_rfl)
#print axioms card
end Go.Proofs.YtbdgblnccjpahaaGreatDoor.topBusOnce
