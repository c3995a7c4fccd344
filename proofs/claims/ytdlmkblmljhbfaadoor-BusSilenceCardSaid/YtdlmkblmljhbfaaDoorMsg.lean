/-
  Walks: the error of a message, its frame.
-/
import Derived.Test.YtdlmkblmljhbfaaDoorFrm
namespace Go.Proofs.YtdlmkblmljhbfaaDoor
set_option linter.unusedSimpArgs false
set_option linter.unusedVariables false
open Go.RowKit Go.Shelf
attribute [local go_sem] bl_al bl_drew bl_drewN bl_refl bx_al bx_drew bx_drewN bx_refl
set_option maxRecDepth 20000
/-- Numbers in the middle of a block. -/
theorem Blk.sub {w : World} {g off : Nat} {t : TypeId} {cs : Array Value} {l : List Int} (h : Blk w g t cs) (hl : ∀ k x, l[k]? = some x → cs[off + k]? = some (.int .i64 x)) : Sl cI 1 w (some ⟨g, off, none⟩) l := fun k x hx =>
  ⟨g, off, rfl, fun j v hv => by
    have hj : j = 0 := by
      have := (List.getElem?_eq_some_iff.1 hv).1
      simp [cI] at this; omega
    subst hj
    have hv' : v = .int .i64 x := by simpa [cI] using hv.symm
    subst hv'
    rw [h.cell]
    simpa using hl k x hx⟩
set_option maxHeartbeats 4000000 in
theorem c_CheckMessage (m : Ms) (w : World) : Calls Tryd.prog 22 #[vMs m] w (Ret (.int .i64 (msE m)) w) := by
  have hr : Hid (msE m = fstE [unl ((inR m.src 0 15 && inR m.kind 0 3) && byteB m.num) 2, bytesE [m.d0, m.d1, m.d2, m.d3]]) := rfl
  obtain ⟨m0, m1, m2, m3, m4, m5, m6⟩ := m
  dsimp only at hr
  cases hA : inR m0 0 15
  all_goals cases hB : inR m2 0 3
  all_goals
    rw [hA, hB] at hr
    simp only [Bool.false_and, Bool.true_and] at hr
    go_enter Tryd.func22, Tryd.ntmps22
    go_upto_region 2 with (first | (go_at_call 74; (with_reducible refine (c_within _ _ _ _).mono ?_); rintro e w3 ⟨rfl, rfl⟩) | (go_at_call 81; (with_reducible refine (c_isByte _ _).mono ?_); rintro e w3 ⟨rfl, rfl⟩))
    first
    | apply absB1 (w0 := w) (g0 := w.heap.size)
    | apply absTB1 (w0 := w) (g0 := w.heap.size)
    | apply absIB1 (w0 := w) (g0 := w.heap.size)
    iterate 2 (focus ((with_reducible (repeat' (first | assumption | apply jA | apply jB | apply jC | apply jD | apply jE | apply jF | apply hb3 | apply jG | apply jH | apply jI | apply jJ | apply jK | apply hb3x | (apply jL; first | (simp; done) | rfl) | apply jM | apply jN | apply jO | apply jP | apply jQ | apply jR | apply jS | apply jT (hb := hb3 _ (jA _)) | omega | (simp; done) | (simp; omega) | (dsimp only; omega)))); done))
    intro wa hb0' k0'
    (try simp only [List.setIfInBounds_toArray, List.set_cons_zero, List.set_cons_succ] at k0')
    try clear hb3
    try clear hb0
    try clear k0
    have hb0 := hb0'; clear hb0'
    have k0 := k0'; clear k0'
    have Lk0 := k0.later
    have Fk0 := k0.laterF
    have Qk0 := k0.lt
    have hcb : Hid (∀ W : World, Below wa.heap.size wa W → Calls Tryd.prog 82 #[.slice (some ⟨w.heap.size, 3, none⟩) 4 4] W (Ret (.int .i64 (bytesE [m3, m4, m5, m6])) W)) := fun (W : World) (hb : Below wa.heap.size wa W) => c_bytesErr [m3, m4, m5, m6] (some ⟨w.heap.size, 3, none⟩) 4 W (by simp) ((k0.sub (l := [m3, m4, m5, m6]) (fun k x hx => by match k, hx with | 0, hx | 1, hx | 2, hx | 3, hx => simpa using hx)).below hb)
    refine wp_any (w0 := wa) ⟨[], [], [some 17, some 18, some 19, some 20, some 21, some 22, some 23, some 2], [[], [0], [], [2], [0, 1, 2, 3], [0, 1, 2, 3, 4], [0, 1, 2, 3, 4, 5], [0, 1, 2, 3, 4, 5, 6]], [[], [0], [], [2], [3], [1, 4], [5], [5, 6]]⟩ (fun _ => []) (by kernel_rfl) (by kernel_rfl) (by (with_reducible (repeat' (first | assumption | apply jA | apply jB | apply jC | apply jD | apply jE | apply jF | apply hb3 | omega | (simp; done) | (simp; omega) | (dsimp only; omega))))) (fun u => by simp only [putD, Act.put, List.setIfInBounds_toArray, List.set_cons_zero, List.set_cons_succ, Nat.zero_add, Nat.reduceAdd]; rfl) ?_
    apply RGW.on (i := 0) rfl
    · (simp only [gA, gB, gC] <;> rfl)
    · intro γ u W hcur hd
      clear hd
      (try dsimp only)
      refine ⟨rfl, ?_⟩
      go_simp <;> (try go_bits) <;> with_reducible rfl
    · exact fun _ _ _ => rfl
    · rfl
    dsimp only [nA, cA]
    apply RGW.call (i := 1) rfl
    · (simp only [gA, gB, gC] <;> rfl)
    · intro γ u W hcur hd
      obtain ⟨⟨h0, -, -⟩, -⟩ := hd
      dsimp only at h0
      (try simp only [h0])
      refine ⟨rfl, fun K hK => ?_⟩
      go_simp
      first
      | (go_at_call 78; (with_reducible refine (c_unless _ _ _).mono ?_); rintro e w3 ⟨rfl, rfl⟩)
      | (go_at_call 82; (with_reducible refine (hcb.out _ (by (with_reducible (repeat' (first | assumption | apply jA | apply jB | apply jC | apply jD | apply jE | apply jF | apply hb3 | omega | (simp; done) | (simp; omega) | (dsimp only; omega)))))).mono ?_); rintro e w3 ⟨rfl, hb3⟩; replace hb3 := bl_tt hb3)
      | (go_at_call 77; (with_reducible refine (c_first2 (by (with_reducible (repeat' (first | assumption | (apply jL; first | (simp; done) | rfl) | apply jM | apply jN | apply jO | apply jP | apply jQ | apply jR | apply jS | apply jT (hb := hb3 _ (jA _)) | omega | (simp; done) | (simp; omega) | (dsimp only; omega)))))).mono ?_); rintro e w3 ⟨rfl, rfl⟩)
      (try dsimp only)
      exact hK.out _ _ rfl (by (with_reducible (repeat' (first | assumption | apply jA | apply jB | apply jC | apply jD | apply jE | apply jF | apply hb3 | omega | (simp; done) | (simp; omega) | (dsimp only; omega)))))
    · exact fun _ _ _ => rfl
    · rfl
    dsimp only [nA, cA]
    apply RGW.on (i := 2) rfl
    · (simp only [gA, gB, gC] <;> rfl)
    · intro γ u W hcur hd
      clear hd
      (try dsimp only)
      refine ⟨rfl, ?_⟩
      go_simp <;> (try go_bits) <;> with_reducible rfl
    · exact fun _ _ _ => rfl
    · rfl
    dsimp only [nA, cA]
    apply RGW.on (i := 3) rfl
    · (simp only [gA, gB, gC] <;> rfl)
    · intro γ u W hcur hd
      obtain ⟨⟨h2, -, -⟩, -⟩ := hd
      dsimp only at h2
      (try simp only [h2])
      refine ⟨rfl, ?_⟩
      go_simp <;> (try go_bits) <;> with_reducible rfl
    · exact fun _ _ _ => rfl
    · rfl
    dsimp only [nA, cA]
    apply RGW.call (i := 4) rfl
    · (simp only [gA, gB, gC] <;> rfl)
    · intro γ u W hcur hd
      obtain ⟨⟨h3, -, -⟩, -⟩ := hd
      dsimp only at h3
      (try simp only [h3])
      refine ⟨rfl, fun K hK => ?_⟩
      go_simp
      first
      | (go_at_call 78; (with_reducible refine (c_unless _ _ _).mono ?_); rintro e w3 ⟨rfl, rfl⟩)
      | (go_at_call 82; (with_reducible refine (hcb.out _ (by (with_reducible (repeat' (first | assumption | apply jA | apply jB | apply jC | apply jD | apply jE | apply jF | apply hb3 | omega | (simp; done) | (simp; omega) | (dsimp only; omega)))))).mono ?_); rintro e w3 ⟨rfl, hb3⟩; replace hb3 := bl_tt hb3)
      | (go_at_call 77; (with_reducible refine (c_first2 (by (with_reducible (repeat' (first | assumption | (apply jL; first | (simp; done) | rfl) | apply jM | apply jN | apply jO | apply jP | apply jQ | apply jR | apply jS | apply jT (hb := hb3 _ (jA _)) | omega | (simp; done) | (simp; omega) | (dsimp only; omega)))))).mono ?_); rintro e w3 ⟨rfl, rfl⟩)
      (try dsimp only)
      exact hK.out _ _ rfl (by (with_reducible (repeat' (first | assumption | apply jA | apply jB | apply jC | apply jD | apply jE | apply jF | apply hb3 | omega | (simp; done) | (simp; omega) | (dsimp only; omega)))))
    · exact fun _ _ _ => rfl
    · rfl
    dsimp only [nA, cA]
    apply RGW.bslice (i := 5) rfl
    · (simp only [gA, gB, gC] <;> rfl)
    · intro γ u W hcur hd
      obtain ⟨⟨h1, -, -⟩, ⟨h4, -, -⟩, -⟩ := hd
      dsimp only at h1 h4
      (try simp only [h1, h4])
      refine ⟨rfl, fun K hK => ?_⟩
      go_simp
      exact hK.out _ _ rfl rfl
    · exact fun _ _ _ => rfl
    · rfl
    · rfl
    dsimp only [nA, cA]
    apply RGW.call (i := 6) rfl
    · (simp only [gA, gB, gC] <;> rfl)
    · intro γ u W hcur hd
      obtain ⟨⟨h5, r5, -⟩, -⟩ := hd
      dsimp only at h5 r5
      have L5 := r5.cell
      (try simp only [h5])
      refine ⟨rfl, fun K hK => ?_⟩
      go_simp
      first
      | (go_at_call 78; (with_reducible refine (c_unless _ _ _).mono ?_); rintro e w3 ⟨rfl, rfl⟩)
      | (go_at_call 82; (with_reducible refine (hcb.out _ (by (with_reducible (repeat' (first | assumption | apply jA | apply jB | apply jC | apply jD | apply jE | apply jF | apply hb3 | omega | (simp; done) | (simp; omega) | (dsimp only; omega)))))).mono ?_); rintro e w3 ⟨rfl, hb3⟩; replace hb3 := bl_tt hb3)
      | (go_at_call 77; (with_reducible refine (c_first2 (by (with_reducible (repeat' (first | assumption | (apply jL; first | (simp; done) | rfl) | apply jM | apply jN | apply jO | apply jP | apply jQ | apply jR | apply jS | apply jT (hb := hb3 _ (jA _)) | omega | (simp; done) | (simp; omega) | (dsimp only; omega)))))).mono ?_); rintro e w3 ⟨rfl, rfl⟩)
      (try dsimp only)
      exact hK.out _ _ rfl (by (with_reducible (repeat' (first | assumption | apply jA | apply jB | apply jC | apply jD | apply jE | apply jF | apply hb3 | omega | (simp; done) | (simp; omega) | (dsimp only; omega)))))
    · first
      | exact fun _ _ _ => rfl
      | intro γ γ' hg
        try dsimp only
        have e5 := hg 5 (by decide)
        simp only [e5]
    · rfl
    dsimp only [nA, cA]
    apply RGW.on (i := 7) rfl
    · (simp only [gA, gB, gC] <;> rfl)
    · intro γ u W hcur hd
      obtain ⟨⟨h5, r5, -⟩, ⟨h6, -, -⟩, -⟩ := hd
      dsimp only at h5 h6 r5
      have L5 := r5.cell
      (try simp only [h5, h6])
      refine ⟨rfl, ?_⟩
      go_simp <;> (try go_bits) <;> with_reducible rfl
    · first
      | exact fun _ _ _ => rfl
      | intro γ γ' hg
        try dsimp only
        have e5 := hg 5 (by decide)
        simp only [e5]
    · rfl
    dsimp only [nA, cA]
    refine RGW.fin (fun γ u wb hwb hd hdis => ?_)
    obtain ⟨⟨h0, -, -⟩, ⟨h1, -, -⟩, ⟨h2, -, -⟩, ⟨h3, -, -⟩, ⟨h4, -, -⟩, ⟨h5, r5, b5⟩, ⟨h6, -, -⟩, ⟨h7, -, -⟩, -⟩ := hd
    dsimp only at h0 h1 h2 h3 h4 h5 h6 h7 r5 b5
    clear hdis
    simp only [h0, h1, h2, h3, h4, h5, h6, h7]
    clear h7 h6 h5 h4 h3 h2 h1 h0
    replace b5 := b5 _ (List.mem_singleton.2 rfl)
    generalize hγ5 : (γ 5).n = g5 at *
    clear hγ5
    clear u
    simp only [List.map_nil]
    refine PlanW.done ?_
    have hb3 := bl_tt hwb
    go_wp2
    go_ret
    exact ⟨by rw [hr.out] <;> rfl, by (with_reducible (repeat' (first | assumption | apply jA | apply jB | apply jC | apply jD | apply jE | apply jF | apply hb3 | omega | (simp; done) | (simp; omega) | (dsimp only; omega))))⟩
end Go.Proofs.YtdlmkblmljhbfaaDoor
