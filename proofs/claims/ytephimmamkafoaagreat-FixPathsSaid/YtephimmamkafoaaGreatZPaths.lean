/-
  moonpoollaw05.FixPaths answers true at every input, and its arguments read behind the call as they read before. Conditions: none but those of the given statement.
-/
import Derived.Test.YtephimmamkafoaaGreatUH6
import Derived.Test.YtephimmamkafoaaGreatUH9
set_option linter.unusedSimpArgs false
set_option linter.unusedVariables false
namespace Go.Proofs.YtephimmamkafoaaGreat
open Go.ChangeShapes Go.WideShapes Go.ChangeAt Go.RowKit
theorem own : ownKnob Tryz.prog.godebug = none := by kernel_rfl
theorem laidOut : laidOutB Tryz.prog = true := by kernel_rfl
set_option maxRecDepth 100000 in
theorem lifted (os : Os) (started : os.Started) (H : Type) (enc : TypeId × Value → H) :
    ReturnsInHanded {} Tryz.checked os 5 .any (Rows.fixPathsSpec.pre6 enc Tryz.prog Tryz.f5 Rows.fixPathsRow.domain false) (Rows.fixPathsSpec.post enc Tryz.prog Tryz.f5 false true false false) := by
  refine returnsInHanded_of_change (C := Tryz.checked) own started (by kernel_rfl) Tryz.func5
    (ChangeSpec.witness6 (enc := enc) (C := Tryz.checked) false ⟨#[], #[.agg #[.int .i64 0, .int .i64 0, .int .i64 0, .int .i64 0, .int .i64 0, .int .i64 0, .slice none 0 0], .agg #[.int .i64 0, .int .i64 0, .int .i64 0, .int .i64 0, .int .i64 0, .int .i64 0], .agg #[.slice none 0 0, .slice none 0 0]], []⟩ 8 (by kernel_rfl) (by kernel_rfl) (by kernel_rfl) (by kernel_rfl)) ?_
  intro W base args ds gs before hval0 hW hcnd _
  have hval : ∀ (j : Nat) t v, Tryz.f5.params[j]? = some t → args[j]? = some v → Value.okWide Tryz.prog W .any base t v := hval0
  have hW' := hW
  obtain ⟨p, q, hA0, hV, rfl, hfz, hnd⟩ := hW
  have hA : DataW.TrodAll enc Tryz.prog W 0 (fun _ => true) true Tryz.f5.params.toList args.toList ds p := hA0
  rw [Tryz.params5 ] at hA hval
  obtain ⟨v0, vs0, d0, ds0, p0, q0, hargs, rfl, rfl, h0, r0⟩ := trodAll_cons hA
  obtain ⟨v1, vs1, d1, ds1, p1, q1, rfl, rfl, rfl, h1, r1⟩ := trodAll_cons r0
  obtain ⟨v2, vs2, d2, ds2, p2, q2, rfl, rfl, rfl, h2, r2⟩ := trodAll_cons r1
  obtain ⟨rfl, rfl, rfl⟩ := trodAll_nil r2
  obtain rfl : args = #[v0, v1, v2] := by cases args; simp_all
  obtain ⟨rfl, rfl⟩ := trodVars_none hV
  have lt0 : ∀ x ∈ p0, x.block < W.heap.size := by obtain ⟨m, hm⟩ := h0; exact DataW.trod_lt m _ _ _ hm
  have lt1 : ∀ x ∈ p1, x.block < W.heap.size := by obtain ⟨m, hm⟩ := h1; exact DataW.trod_lt m _ _ _ hm
  have lt2 : ∀ x ∈ p2, x.block < W.heap.size := by obtain ⟨m, hm⟩ := h2; exact DataW.trod_lt m _ _ _ hm
  obtain ⟨c0, e0⟩ := agg_of Tryz.underlying28 (hval 0 _ v0 rfl rfl)
  obtain ⟨c1, e1⟩ := agg_of Tryz.underlying25 (hval 1 _ v1 rfl rfl)
  obtain ⟨c2, e2⟩ := agg_of Tryz.underlying61 (hval 2 _ v2 rfl rfl)
  subst e0 e1 e2
  obtain ⟨m0, f0⟩ := h0
  obtain ⟨m1, f1⟩ := h1
  obtain ⟨m2, f2⟩ := h2
  obtain ⟨n, A, c, g0, hnc, hsl, hnm⟩ := rd_Nt f0
  obtain ⟨b, g1⟩ := rd_Bx f1
  obtain ⟨l, t, A', c', AP, cp, g2, hsl2, ht2⟩ := rd_Wk f2
  have h0 : DataW.Trod enc Tryz.prog W 0 (fun _ => true) true 28 (.agg c0) d0 p0 := ⟨m0, f0⟩
  have h1 : DataW.Trod enc Tryz.prog W 0 (fun _ => true) true 25 (.agg c1) d1 p1 := ⟨m1, f1⟩
  have h2 : DataW.Trod enc Tryz.prog W 0 (fun _ => true) true 61 (.agg c2) d2 p2 := ⟨m2, f2⟩
  have a0 := agg_cells g0
  have a1 := agg_cells g1
  have a2 := agg_cells g2
  rw [a0] at h0
  rw [a1] at h1
  rw [a2] at h2
  clear hA0 hval0 f0 f1 f2 g0 g1 g2
  rw [a0, a1, a2] at hW' ⊢
  refine (l_FixPaths n b l t A A' AP c c' cp W hsl hnc hnm hsl2 ht2).mono fun e W' ⟨he, bel⟩ => ?_
  subst he
  exact ⟨_, rfl, _, _, _, [], _, [], hW', trodAll_mk1 (shut_bool Tryz.underlying4 _), (trodAll_cons_mk (Below.trod laidOut (by kernel_rfl) (of_decide_eq_true (by kernel_rfl)) h0 bel lt0) (trodAll_cons_mk (Below.trod laidOut (by kernel_rfl) (of_decide_eq_true (by kernel_rfl)) h1 bel lt1)
    (trodAll_cons_mk (Below.trod laidOut (by kernel_rfl) (of_decide_eq_true (by kernel_rfl)) h2 bel lt2) trodAll_mk0))), rfl, bel.frame _, fun h => by cases h⟩
theorem fixPaths_holds : Rows.FixPathsSaid :=
  OpenClaim.holds_of_wide 5 Tryz.f5 rfl rfl rfl rfl rfl rfl rfl ⟨rfl, rfl, rfl, rfl, rfl⟩ rfl rfl rfl rfl rfl (by kernel_rfl) Tryz.func5 (by kernel_rfl)
    (of_decide_eq_true (by kernel_rfl)) (by unfold Func.isWrapper; first | (rw [if_pos (by decide +kernel)]; kernel_rfl) | (rw [if_neg (by decide +kernel)]; exact ⟨rfl, rfl⟩))
    (fun os started H enc _ => lifted os started H enc)
#print axioms fixPaths_holds
end Go.Proofs.YtephimmamkafoaaGreat
