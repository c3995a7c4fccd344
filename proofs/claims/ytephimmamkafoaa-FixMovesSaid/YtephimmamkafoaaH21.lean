/-
  Walk: the law of moves.
-/
import Derived.Test.YtephimmamkafoaaG15
import Derived.Test.YtephimmamkafoaaH16
import Derived.Test.YtephimmamkafoaaH18
import Derived.Test.YtephimmamkafoaaH19
import Derived.Test.YtephimmamkafoaaH20
import Derived.Test.YtephimmamkafoaaG13
namespace Go.Proofs.Ytephimmamkafoaa
set_option linter.unusedSimpArgs false
set_option linter.unusedVariables false
open Go.RowKit Go.Shelf
attribute [local go_sem] bl_al bl_drew bl_drewN bl_refl bx_al bx_drew bx_drewN bx_refl
set_option maxRecDepth 20000
theorem bne_ne {x : Int} (h : x ≠ 0) : (x != 0) = true := by simp [h]
theorem beq_ne {x : Int} (h : x ≠ 0) : (x == 0) = false := by simp [h]
theorem fst_ne2 {x : Int} {l : List Int} (h : x ≠ 0) : fstE (x :: l) = x := by simp [fstE, h]
set_option maxHeartbeats 4000000 in
theorem r_same (g : Bx) (w : World) : Calls Try.prog 51 #[vBx (if g.ordered then g else bx0), .int .i64 (if g.ordered then 0 else 12), vBx g] w (Ret (.bool true) w) := by
  have hie := Lib.hid fun W : World => r_IsEmpty g W
  cases h : g.ordered
  all_goals
    rw [h] at hie
    clear h
    simp only [Bool.false_eq_true, if_false, if_true]
    try dsimp only [bx0]
    go_enter Try.func51, Try.ntmps51
    go_upto_region 1 with fail
    apply absB2 (w0 := w) (g0 := w.heap.size) (g1 := w.heap.size + 1)
    iterate 3 (focus ((with_reducible (repeat' (first | assumption | apply jA | apply jB | apply jC | apply jD | apply jE | apply jF | apply hb3 | apply jG | apply jH | apply jI | apply jJ | apply jK | apply hb3x | (apply jL; first | (simp; done) | rfl) | apply jM | apply jN | apply jO | apply jP | apply jQ | apply jR | apply jS | apply jT (hb := hb3 _ (jA _)) | omega | (simp; done) | (simp; omega) | (dsimp only; omega)))); done))
    intro wa hb0' k0' k1'
    (try simp only [List.setIfInBounds_toArray, List.set_cons_zero, List.set_cons_succ] at k0' k1')
    try clear hb3
    try clear hb0
    try clear k0
    try clear k1
    have hb0 := hb0'; clear hb0'
    have k0 := k0'; clear k0'
    have k1 := k1'; clear k1'
    have Lk0 := k0.later
    have Fk0 := k0.laterF
    have Qk0 := k0.lt
    have Lk1 := k1.later
    have Fk1 := k1.laterF
    have Qk1 := k1.lt
    go_wp2_with (go_at_call 75; (with_reducible refine (hie.out _).mono ?_); rintro e w3 ⟨rfl, hb3⟩; replace hb3 := bl_tt hb3; have hv := hb3 wa (by (with_reducible (repeat' (first | assumption | apply jA | apply jB | apply jC | apply jD | apply jE | apply jF | apply hb3 | omega | (simp; done) | (simp; omega) | (dsimp only; omega))))))
    go_ret
    exact ⟨by simp, bl_tr hb0 hv⟩
theorem mv_ok' {m : Mv} (h : mvErr m = 0) : m.ok := mv_ok h
set_option maxHeartbeats 16000000 in
theorem l_FixMoves (n : Nt) (b : Bx) (m : Mv) (i : Int) (A : Option Addr) (c : Nat) (w : World) (hs : Sl cBc 4 w A n.bs) (hc : n.bs.length ≤ c) (hnm : ∀ b ∈ n.bs, b.name.size ≤ maxLen) :
    Calls Try.prog 8 #[vNt n.world (.slice A n.bs.length c), vBx b, .agg #[.int .i64 m.ticks, .int .i64 m.speed.x.lo, .int .i64 m.speed.x.hi, .int .i64 m.speed.y.lo, .int .i64 m.speed.y.hi, .int .i64 m.speed.z.lo, .int .i64 m.speed.z.hi, .int .i64 i]] w (Ret (.bool true) w) := by
  have hfw := Lib.hid fun W : World => r_few n A none c 0 0 W
  obtain ⟨F, hF⟩ : ∃ F, (decide (n.bs.length ≤ 8) && decide (0 ≤ 10)) = F := ⟨_, rfl⟩
  rw [hF] at hfw
  cases F
  · clear hF hs hc hnm
    generalize n.bs.length = nl at *
    go_enter Try.func8, Try.ntmps8
    go_upto_region 3 with (go_at_call 10; (with_reducible refine (r_awake _).mono ?_); rintro e w3 ⟨rfl, hb3⟩; replace hb3 := bl_tt hb3)
    apply absB3 (w0 := w) (g0 := w.heap.size) (g1 := w.heap.size + 1) (g2 := w.heap.size + 2)
    iterate 4 (focus ((with_reducible (repeat' (first | assumption | apply jA | apply jB | apply jC | apply jD | apply jE | apply jF | apply hb3 | apply jG | apply jH | apply jI | apply jJ | apply jK | apply hb3x | (apply jL; first | (simp; done) | rfl) | apply jM | apply jN | apply jO | apply jP | apply jQ | apply jR | apply jS | apply jT (hb := hb3 _ (jA _)) | omega | (simp; done) | (simp; omega) | (dsimp only; omega)))); done))
    intro wa hb0' k0' k1' k2'
    (try simp only [List.setIfInBounds_toArray, List.set_cons_zero, List.set_cons_succ] at k0' k1' k2')
    try clear hb3
    try clear hb0
    try clear k0
    try clear k1
    try clear k2
    have hb0 := hb0'; clear hb0'
    have k0 := k0'; clear k0'
    have k1 := k1'; clear k1'
    have k2 := k2'; clear k2'
    have Lk0 := k0.later
    have Fk0 := k0.laterF
    have Qk0 := k0.lt
    have Lk1 := k1.later
    have Fk1 := k1.laterF
    have Qk1 := k1.lt
    have Lk2 := k2.later
    have Fk2 := k2.laterF
    have Qk2 := k2.lt
    go_wp2_with (go_at_call 11; (with_reducible refine (hfw.out _).mono ?_); rintro e w3 ⟨rfl, hb3⟩; replace hb3 := bl_tt hb3)
    go_ret
    exact ⟨rfl, hb3 _ hb0⟩
  · simp only [Bool.and_eq_true, decide_eq_true_eq] at hF
    have hn : NtIn n A c w := ⟨by omega, hc, hnm, hs⟩
    have hN := Lib.hid hn
    have hcp := Lib.hid fun (W : World) (hb : Below w.heap.size w W) => r_CopyNet n A c W (hn.below hb)
    have hca := Lib.hid fun (W : World) (A : Option Addr) (c : Nat) (h : NtIn n A c W) => c_Carried n b m A c W h
    have hcb := Lib.hid fun (W : World) (A : Option Addr) (c : Nat) (h : NtIn n A c W) => c_CarriedBack n b m A c W h
    have hsq := Lib.hid fun (W : World) (A : Option Addr) (c : Nat) (h : NtIn n A c W) => c_SquaresIn n i b A c W h
    have hne := Lib.hid fun (W : World) (hb : Below w.heap.size w W) => r_NetErr n A c W (hn.below hb)
    have hbe := Lib.hid fun (W : World) (hb : Below w.heap.size w W) => r_BoxErr n b A c W (hn.below hb)
    have hme := Lib.hid fun (W : World) => r_MoveErr m W
    have hwi := Lib.hid fun (W : World) => r_Within i 0 ((n.bs.length : Int) - 1) W
    have fN : Hid (netErr n ≠ 0 → sqinE n i b = netErr n ∧ sqinS n i b = ⟨0, 0⟩ ∧ boxErr n b = netErr n) := fun h0 => by
      have e : sqinE n i b = netErr n := fst_ne2 h0
      exact ⟨e, by rw [sqinS, if_neg (by rw [e]; exact h0)], fst_ne2 h0⟩
    have fM : Hid (netErr n = 0 → inR i 0 ((n.bs.length : Int) - 1) = false → sqinE n i b = 6 ∧ sqinS n i b = ⟨0, 0⟩) := fun h0 h1 => by
      have e : sqinE n i b = 6 := by rw [sqinE, h0, h1]; rfl
      exact ⟨e, by rw [sqinS, if_neg (by rw [e]; decide)]⟩
    have fB : Hid (netErr n = 0 → inR i 0 ((n.bs.length : Int) - 1) = true → boxErr n b ≠ 0 → sqinE n i b = boxErr n b ∧ sqinS n i b = ⟨0, 0⟩) := fun h0 h1 h2 => by
      have e : sqinE n i b = boxErr n b := by
        rw [sqinE, h0, h1]
        simp [fstE, unl, h2]
      exact ⟨e, by rw [sqinS, if_neg (by rw [e]; exact h2)]⟩
    have fS : Hid (netErr n = 0 → inR i 0 ((n.bs.length : Int) - 1) = true → boxErr n b = 0 → sqinE n i b = 0 ∧ ∃ (k : Nat) (x : Bc), i = (k : Int) ∧ k < n.bs.length ∧ n.bs[k]? = some x ∧ ∀ W : World, Calls Try.prog 48 #[vPl x.pl, vBx b] W (Ret (vRg (sqinS n i b)) W)) := fun h0 h1 h2 => by
      have e : sqinE n i b = 0 := by rw [sqinE, h0, h1, h2]; rfl
      have hr := inR_iff.1 h1
      have hk : i.toNat < n.bs.length := by omega
      refine ⟨e, i.toNat, n.bs[i.toNat]'hk, by omega, hk, List.getElem?_eq_getElem hk, fun W => ?_⟩
      have hx := List.getElem?_eq_getElem hk
      have e2 : bcAt n.bs i = (n.bs[i.toNat]'hk).pl := by rw [bcAt, hx]; rfl
      rw [sqinS, if_pos e, e2]
      exact r_Squares _ b W (bc_in h0 hx) (box_ok h2)
    have fE : Hid (boxErr n b ≠ 0 → movedS n b m (carried n.world b m) = (bx0, boxErr n b) ∧ movedS n b m (back n.world b m) = (bx0, boxErr n b)) := fun h => by
      have e : movedE n b m = boxErr n b := fst_ne2 h
      exact ⟨by rw [movedS, if_neg (by rw [e]; exact h), e], by rw [movedS, if_neg (by rw [e]; exact h), e]⟩
    have fE2 : Hid (boxErr n b = 0 → mvErr m ≠ 0 → movedS n b m (carried n.world b m) = (bx0, mvErr m) ∧ movedS n b m (back n.world b m) = (bx0, mvErr m)) := fun h0 h => by
      have e : movedE n b m = mvErr m := by
        rw [movedE, h0]
        simp [fstE, h]
      exact ⟨by rw [movedS, if_neg (by rw [e]; exact h), e], by rw [movedS, if_neg (by rw [e]; exact h), e]⟩
    have fG : Hid (boxErr n b = 0 → mvErr m = 0 → (∀ W : World, Calls Try.prog 51 #[vBx (movedS n b m (carried n.world b m)).1, .int .i64 (movedS n b m (carried n.world b m)).2, vBx (carried n.world b m)] W (Ret (.bool true) W)) ∧ (∀ W : World, Calls Try.prog 51 #[vBx (movedS n b m (back n.world b m)).1, .int .i64 (movedS n b m (back n.world b m)).2, vBx (back n.world b m)] W (Ret (.bool true) W))
        ∧ (∀ W : World, Calls Try.prog 49 #[vNt n.world (.slice A n.bs.length c), vBx b, vMv m] W (Ret (vBx (carried n.world b m)) W)) ∧ ∀ W : World, Calls Try.prog 50 #[vNt n.world (.slice A n.bs.length c), vBx b, vMv m] W (Ret (vBx (back n.world b m)) W)) := fun h0 h => by
      have e : movedE n b m = 0 := by rw [movedE, h0, h]; rfl
      have key : ∀ (g : Bx) (W : World), Calls Try.prog 51 #[vBx (movedS n b m g).1, .int .i64 (movedS n b m g).2, vBx g] W (Ret (.bool true) W) := fun g W => by
        have := r_same g W
        rw [movedS, if_pos e]
        cases h : g.ordered <;> simpa [h] using this
      exact ⟨key _, key _, fun W => r_Carried n.world b m _ W (box_ok h0).in (mv_ok h), fun W => r_CarriedBack n.world b m _ W (box_ok h0).in (mv_ok h)⟩
    have hnl : n.bs.length ≤ 8 := by omega
    clear hF hs hc hnm hn
    generalize movedS n b m (carried n.world b m) = P at *
    generalize movedS n b m (back n.world b m) = Q at *
    generalize carried n.world b m = cg at *
    generalize back n.world b m = bg at *
    generalize sqinS n i b = sr at *
    generalize sqinE n i b = se at *
    obtain ⟨slo, shi⟩ := sr
    obtain ⟨pb, pe⟩ := P
    obtain ⟨qb, qe⟩ := Q
    generalize inR i 0 ((n.bs.length : Int) - 1) = hit at *
    generalize netErr n = ne at *
    generalize boxErr n b = be at *
    generalize mvErr m = me at *
    generalize n.bs.length = nl at *
    simp only [Prod.mk.injEq] at fE fE2
    dsimp only at hca hcb fG
    go_enter Try.func8, Try.ntmps8
    go_upto_region 3 with (go_at_call 10; (with_reducible refine (r_awake _).mono ?_); rintro e w3 ⟨rfl, hb3⟩; replace hb3 := bl_tt hb3)
    apply absB3 (w0 := w) (g0 := w.heap.size) (g1 := w.heap.size + 1) (g2 := w.heap.size + 2)
    iterate 4 (focus ((with_reducible (repeat' (first | assumption | apply jA | apply jB | apply jC | apply jD | apply jE | apply jF | apply hb3 | apply jG | apply jH | apply jI | apply jJ | apply jK | apply hb3x | (apply jL; first | (simp; done) | rfl) | apply jM | apply jN | apply jO | apply jP | apply jQ | apply jR | apply jS | apply jT (hb := hb3 _ (jA _)) | omega | (simp; done) | (simp; omega) | (dsimp only; omega)))); done))
    intro wa hb0' k0' k1' k2'
    (try simp only [List.setIfInBounds_toArray, List.set_cons_zero, List.set_cons_succ] at k0' k1' k2')
    try clear hb3
    try clear hb0
    try clear k0
    try clear k1
    try clear k2
    have hb0 := hb0'; clear hb0'
    have k0 := k0'; clear k0'
    have k1 := k1'; clear k1'
    have k2 := k2'; clear k2'
    have Lk0 := k0.later
    have Fk0 := k0.laterF
    have Qk0 := k0.lt
    have Lk1 := k1.later
    have Fk1 := k1.laterF
    have Qk1 := k1.lt
    have Lk2 := k2.later
    have Fk2 := k2.laterF
    have Qk2 := k2.lt
    go_upto_region 5 with (go_at_call 11; (with_reducible refine (hfw.out _).mono ?_); rintro e w3 ⟨rfl, hb3⟩; replace hb3 := bl_tt hb3)
    apply absB3 (w0 := w) (g0 := w.heap.size) (g1 := w.heap.size + 1) (g2 := w.heap.size + 2)
    iterate 4 (focus ((with_reducible (repeat' (first | assumption | apply jA | apply jB | apply jC | apply jD | apply jE | apply jF | apply hb3 | apply jG | apply jH | apply jI | apply jJ | apply jK | apply hb3x | (apply jL; first | (simp; done) | rfl) | apply jM | apply jN | apply jO | apply jP | apply jQ | apply jR | apply jS | apply jT (hb := hb3 _ (jA _)) | omega | (simp; done) | (simp; omega) | (dsimp only; omega)))); done))
    intro wb hb0' k0' k1' k2'
    (try simp only [List.setIfInBounds_toArray, List.set_cons_zero, List.set_cons_succ] at k0' k1' k2')
    try clear hb3
    try clear Lk0
    try clear Fk0
    try clear Qk0
    try clear Lk1
    try clear Fk1
    try clear Qk1
    try clear Lk2
    try clear Fk2
    try clear Qk2
    try clear hb0
    try clear k0
    try clear k1
    try clear k2
    have hb0 := hb0'; clear hb0'
    have k0 := k0'; clear k0'
    have k1 := k1'; clear k1'
    have k2 := k2'; clear k2'
    have Lk0 := k0.later
    have Fk0 := k0.laterF
    have Qk0 := k0.lt
    have Lk1 := k1.later
    have Fk1 := k1.laterF
    have Qk1 := k1.lt
    have Lk2 := k2.later
    have Fk2 := k2.laterF
    have Qk2 := k2.lt
    refine wp_any (w0 := wb) ⟨[10, 11], [8], [some 22, some 23, some 24, some 25, some 26, some 27, some 21, some 28, some 29, some 7, none, none], [[], [0], [], [], [3], [0, 1, 2, 3, 4], [0, 1, 2, 3, 4, 5], [0, 1, 2, 3, 4, 5, 6], [0, 1, 2, 3, 4, 5, 6], [], [0, 1, 2, 3, 4, 5, 6, 7, 9], [0, 1, 2, 3, 4, 5, 6, 7, 8, 9, 10]], [[], [0], [], [], [3], [1, 2, 4], [1, 5], [1, 6], [1, 6], [], [], []]⟩ (fun γ => [(γ 9).n]) (by kernel_rfl) (by kernel_rfl) (by (with_reducible (repeat' (first | assumption | apply jA | apply jB | apply jC | apply jD | apply jE | apply jF | apply hb3 | omega | (simp; done) | (simp; omega) | (dsimp only; omega))))) (fun u => by simp only [putD, Act.put, List.setIfInBounds_toArray, List.set_cons_zero, List.set_cons_succ, Nat.zero_add, Nat.reduceAdd]; rfl) ?_
    apply RGW.on (i := 0) rfl
    · (simp only [gA, gB, gC] <;> rfl)
    · intro γ u W hcur hd
      clear hd
      (try dsimp only)
      refine ⟨rfl, ?_⟩
      go_simp <;> (try go_bits) <;> with_reducible rfl
    · exact fun _ _ _ => rfl
    · rfl
    dsimp only [nA, cA]
    apply RGW.gh (⟨fun γ => vNt n.world (.slice (γ 1).A nl (γ 1).c), fun γ W => NtIn n (γ 1).A (γ 1).c W, fun _ => []⟩) (i := 1) rfl
    · (simp only [gA, gB, gC] <;> rfl)
    · intro γ u W hcur hd
      obtain ⟨⟨h0, -, -⟩, -⟩ := hd
      dsimp only at h0
      (try simp only [h0])
      refine ⟨rfl, fun K hK => ?_⟩
      go_simp
      (go_at_call 13; (with_reducible refine (hcp.out _ (bl_tr hb0 hcur)).mono ?_); rintro e w3 ⟨Ax, cx, rfl, hb3, hox⟩; dsimp only; exact hK.out ⟨0, undef, Ax, cx⟩ _ _ (by simp [up]) hb3 (by simpa [up] using hox) (by simp))
    · intro γ γ' hg
      try dsimp only
      have e1 := hg 1 (by decide)
      simp only [e1]
      try exact ⟨trivial, fun _ h => h⟩
    · intro γ W W' hbl hR
      first | exact hR.below hbl | exact own_below hR hbl | exact trivial | exact ⟨hR.1.below hbl, hR.2⟩
    · rfl
    dsimp only [nA, cA]
    apply RGW.on (i := 2) rfl
    · (simp only [gA, gB, gC] <;> rfl)
    · intro γ u W hcur hd
      clear hd
      (try dsimp only)
      refine ⟨rfl, ?_⟩
      go_simp <;> (try go_bits) <;> with_reducible rfl
    · exact fun _ _ _ => rfl
    · rfl
    dsimp only [nA, cA]
    apply RGW.on (i := 3) rfl
    · (simp only [gA, gB, gC] <;> rfl)
    · intro γ u W hcur hd
      clear hd
      (try dsimp only)
      refine ⟨rfl, ?_⟩
      go_simp <;> (try go_bits) <;> with_reducible rfl
    · exact fun _ _ _ => rfl
    · rfl
    dsimp only [nA, cA]
    apply RGW.on (i := 4) rfl
    · (simp only [gA, gB, gC] <;> rfl)
    · intro γ u W hcur hd
      obtain ⟨⟨h3, -, -⟩, -⟩ := hd
      dsimp only at h3
      (try simp only [h3])
      refine ⟨rfl, ?_⟩
      go_simp <;> (try go_bits) <;> with_reducible rfl
    · exact fun _ _ _ => rfl
    · rfl
    dsimp only [nA, cA]
    apply RGW.call (i := 5) rfl
    · (simp only [gA, gB, gC] <;> rfl)
    · intro γ u W hcur hd
      obtain ⟨⟨h1, r1, -⟩, ⟨h2, -, -⟩, ⟨h4, -, -⟩, -⟩ := hd
      dsimp only at h1 h2 h4 r1
      (try simp only [h1, h2, h4])
      refine ⟨rfl, fun K hK => ?_⟩
      go_simp
      (go_at_call 34; (with_reducible refine (hca.out _ _ _ r1).mono ?_); rintro e w3 ⟨rfl, hb3⟩; replace hb3 := bl_tt hb3)
      (try dsimp only)
      exact hK.out _ _ rfl (by (with_reducible (repeat' (first | assumption | apply jA | apply jB | apply jC | apply jD | apply jE | apply jF | apply hb3 | omega | (simp; done) | (simp; omega) | (dsimp only; omega)))))
    · exact fun _ _ _ => rfl
    · rfl
    dsimp only [nA, cA]
    apply RGW.on (i := 6) rfl
    · (simp only [gA, gB, gC] <;> rfl)
    · intro γ u W hcur hd
      obtain ⟨⟨h1, r1, -⟩, ⟨h5, -, -⟩, -⟩ := hd
      dsimp only at h1 h5 r1
      (try simp only [h1, h5])
      refine ⟨rfl, ?_⟩
      go_simp <;> (try go_bits) <;> with_reducible rfl
    · exact fun _ _ _ => rfl
    · rfl
    dsimp only [nA, cA]
    apply RGW.on (i := 7) rfl
    · (simp only [gA, gB, gC] <;> rfl)
    · intro γ u W hcur hd
      obtain ⟨⟨h1, r1, -⟩, ⟨h6, -, -⟩, -⟩ := hd
      dsimp only at h1 h6 r1
      (try simp only [h1, h6])
      refine ⟨rfl, ?_⟩
      go_simp <;> (try go_bits) <;> with_reducible rfl
    · exact fun _ _ _ => rfl
    · rfl
    dsimp only [nA, cA]
    apply RGW.onL (i := 8) rfl
    · (simp only [gA, gB, gC] <;> rfl)
    · intro γ u Wm W hcur hd hX
      obtain ⟨⟨h1, r1, -⟩, ⟨h6, -, -⟩, -⟩ := hd
      dsimp only at h1 h6 r1
      (try simp only [h1, h6])
      refine ⟨rfl, ?_⟩
      go_simp <;> (try go_bits) <;> with_reducible rfl
    · exact fun _ _ _ => rfl
    dsimp only [nA, cA]
    apply RGW.alloc (i := 9) rfl
    · (simp only [gA, gB, gC] <;> rfl)
    · intro γ u W hcur hd
      clear hd
      (try dsimp only)
      refine ⟨rfl, fun K hK => ?_⟩
      go_simp
      exact hK.out _ _ rfl rfl
    · exact fun _ _ _ => rfl
    · rfl
    · rfl
    dsimp only [nA, cA]
    refine RGW.skip (i := 10) rfl rfl ?_
    dsimp only [nA, cA]
    refine RGW.skip (i := 11) rfl rfl ?_
    dsimp only [nA, cA]
    refine RGW.fin (fun γ u wc hwc hd hdis => ?_)
    obtain ⟨⟨h0, -, -⟩, ⟨h1, r1, b1⟩, ⟨h2, -, -⟩, ⟨h3, -, -⟩, ⟨h4, -, -⟩, ⟨h5, -, -⟩, ⟨h6, -, -⟩, ⟨h7, -, -⟩, ⟨h8, -, -⟩, ⟨h9, r9, b9⟩, -⟩ := hd
    dsimp only at h0 h1 h2 h3 h4 h5 h6 h7 h8 h9 r1 r9 b1 b9
    clear hdis
    simp only [h0, h1, h2, h3, h4, h5, h6, h7, h8, h9]
    clear h9 h8 h7 h6 h5 h4 h3 h2 h1 h0
    replace b9 := b9 _ (List.mem_singleton.2 rfl)
    generalize hγ9 : (γ 9).n = g9 at *
    clear hγ9
    clear u
    simp only [List.map_cons, List.map_nil]
    apply PlanW.step
    · (simp only [gA, gB, gC] <;> rfl)
    · rfl
    intro K hK
    refine wp_store_keep (X := [g9]) (w0 := wc) rfl rfl rfl (by with_reducible first | exact bx_refl _ _ | assumption) (by with_reducible first | assumption | (apply Blk.below (hb := hwc); assumption)) (by simp) (by kernel_rfl) (by rfl) (by simp [Value.oneCell']) (fun hres1 hcur => ?_)
    refine hK.out _ _ hcur (fun _ => ?_)
    clear hK K
    try simp only [Act.put, List.setIfInBounds_toArray, List.set_cons_zero, List.set_cons_succ]
    apply PlanW.step
    · (simp only [gA, gB, gC] <;> rfl)
    · rfl
    intro K hK
    go_simp
    refine hK.out _ _ (by (with_reducible (repeat' (first | assumption | apply jG | apply jH | apply jI | apply jJ | apply jK | apply hb3x | omega | (simp; done) | (simp; omega) | (dsimp only; omega))))) (fun hcur => ?_)
    clear hK K
    try simp only [Act.put, List.setIfInBounds_toArray, List.set_cons_zero, List.set_cons_succ]
    refine PlanW.done ?_
    have hb3 := bl_tt hwc
    clear r1
    generalize g9 = gk3 at *
    apply absTB4 (w0 := w) (g0 := w.heap.size) (g1 := w.heap.size + 1) (g2 := w.heap.size + 2) (g3 := gk3)
    iterate 5 (focus ((with_reducible (repeat' (first | assumption | apply jA | apply jB | apply jC | apply jD | apply jE | apply jF | apply hb3 | apply jG | apply jH | apply jI | apply jJ | apply jK | apply hb3x | (apply jL; first | (simp; done) | rfl) | apply jM | apply jN | apply jO | apply jP | apply jQ | apply jR | apply jS | apply jT (hb := hb3 _ (jA _)) | omega | (simp; done) | (simp; omega) | (dsimp only; omega)))); done))
    intro wc2 hb0' k0' k1' k2' k3'
    (try simp only [List.setIfInBounds_toArray, List.set_cons_zero, List.set_cons_succ] at k0' k1' k2' k3')
    try clear hb3
    try clear Lk0
    try clear Fk0
    try clear Qk0
    try clear Lk1
    try clear Fk1
    try clear Qk1
    try clear Lk2
    try clear Fk2
    try clear Qk2
    try clear hb0
    try clear k0
    try clear k1
    try clear k2
    try clear k3
    have hb0 := hb0'; clear hb0'
    have k0 := k0'; clear k0'
    have k1 := k1'; clear k1'
    have k2 := k2'; clear k2'
    have k3 := k3'; clear k3'
    have Lk0 := k0.later
    have Fk0 := k0.laterF
    have Qk0 := k0.lt
    have Lk1 := k1.later
    have Fk1 := k1.laterF
    have Qk1 := k1.lt
    have Lk2 := k2.later
    have Fk2 := k2.laterF
    have Qk2 := k2.lt
    have Lk3 := k3.later
    have Fk3 := k3.laterF
    have Qk3 := k3.lt
    go_upto_region 6 with fail
    refine wp_any (w0 := wc2) ⟨[10, 11], [8], [some 31, some 32, some 33, some 34, some 35, some 36, some 30, some 37, some 38, some 9, none, none], [[], [0], [], [], [3], [0, 1, 2, 3, 4], [0, 1, 2, 3, 4, 5], [0, 1, 2, 3, 4, 5, 6], [0, 1, 2, 3, 4, 5, 6], [], [0, 1, 2, 3, 4, 5, 6, 7, 9], [0, 1, 2, 3, 4, 5, 6, 7, 8, 9, 10]], [[], [0], [], [], [3], [1, 2, 4], [1, 5], [1, 6], [1, 6], [], [], []]⟩ (fun γ => [(γ 9).n]) (by kernel_rfl) (by kernel_rfl) (by (with_reducible (repeat' (first | assumption | apply jA | apply jB | apply jC | apply jD | apply jE | apply jF | apply hb3 | omega | (simp; done) | (simp; omega) | (dsimp only; omega))))) (fun u => by simp only [putD, Act.put, List.setIfInBounds_toArray, List.set_cons_zero, List.set_cons_succ, Nat.zero_add, Nat.reduceAdd]; rfl) ?_
    apply RGW.on (i := 0) rfl
    · (simp only [gA, gB, gC] <;> rfl)
    · intro γ u W hcur hd
      clear hd
      (try dsimp only)
      refine ⟨rfl, ?_⟩
      go_simp <;> (try go_bits) <;> with_reducible rfl
    · exact fun _ _ _ => rfl
    · rfl
    dsimp only [nA, cA]
    apply RGW.gh (⟨fun γ => vNt n.world (.slice (γ 1).A nl (γ 1).c), fun γ W => NtIn n (γ 1).A (γ 1).c W, fun _ => []⟩) (i := 1) rfl
    · (simp only [gA, gB, gC] <;> rfl)
    · intro γ u W hcur hd
      obtain ⟨⟨h0, -, -⟩, -⟩ := hd
      dsimp only at h0
      (try simp only [h0])
      refine ⟨rfl, fun K hK => ?_⟩
      go_simp
      (go_at_call 13; (with_reducible refine (hcp.out _ (bl_tr hb0 hcur)).mono ?_); rintro e w3 ⟨Ax, cx, rfl, hb3, hox⟩; dsimp only; exact hK.out ⟨0, undef, Ax, cx⟩ _ _ (by simp [up]) hb3 (by simpa [up] using hox) (by simp))
    · intro γ γ' hg
      try dsimp only
      have e1 := hg 1 (by decide)
      simp only [e1]
      try exact ⟨trivial, fun _ h => h⟩
    · intro γ W W' hbl hR
      first | exact hR.below hbl | exact own_below hR hbl | exact trivial | exact ⟨hR.1.below hbl, hR.2⟩
    · rfl
    dsimp only [nA, cA]
    apply RGW.on (i := 2) rfl
    · (simp only [gA, gB, gC] <;> rfl)
    · intro γ u W hcur hd
      clear hd
      (try dsimp only)
      refine ⟨rfl, ?_⟩
      go_simp <;> (try go_bits) <;> with_reducible rfl
    · exact fun _ _ _ => rfl
    · rfl
    dsimp only [nA, cA]
    apply RGW.on (i := 3) rfl
    · (simp only [gA, gB, gC] <;> rfl)
    · intro γ u W hcur hd
      clear hd
      (try dsimp only)
      refine ⟨rfl, ?_⟩
      go_simp <;> (try go_bits) <;> with_reducible rfl
    · exact fun _ _ _ => rfl
    · rfl
    dsimp only [nA, cA]
    apply RGW.on (i := 4) rfl
    · (simp only [gA, gB, gC] <;> rfl)
    · intro γ u W hcur hd
      obtain ⟨⟨h3, -, -⟩, -⟩ := hd
      dsimp only at h3
      (try simp only [h3])
      refine ⟨rfl, ?_⟩
      go_simp <;> (try go_bits) <;> with_reducible rfl
    · exact fun _ _ _ => rfl
    · rfl
    dsimp only [nA, cA]
    apply RGW.call (i := 5) rfl
    · (simp only [gA, gB, gC] <;> rfl)
    · intro γ u W hcur hd
      obtain ⟨⟨h1, r1, -⟩, ⟨h2, -, -⟩, ⟨h4, -, -⟩, -⟩ := hd
      dsimp only at h1 h2 h4 r1
      (try simp only [h1, h2, h4])
      refine ⟨rfl, fun K hK => ?_⟩
      go_simp
      (go_at_call 35; (with_reducible refine (hcb.out _ _ _ r1).mono ?_); rintro e w3 ⟨rfl, hb3⟩; replace hb3 := bl_tt hb3)
      (try dsimp only)
      exact hK.out _ _ rfl (by (with_reducible (repeat' (first | assumption | apply jA | apply jB | apply jC | apply jD | apply jE | apply jF | apply hb3 | omega | (simp; done) | (simp; omega) | (dsimp only; omega)))))
    · exact fun _ _ _ => rfl
    · rfl
    dsimp only [nA, cA]
    apply RGW.on (i := 6) rfl
    · (simp only [gA, gB, gC] <;> rfl)
    · intro γ u W hcur hd
      obtain ⟨⟨h1, r1, -⟩, ⟨h5, -, -⟩, -⟩ := hd
      dsimp only at h1 h5 r1
      (try simp only [h1, h5])
      refine ⟨rfl, ?_⟩
      go_simp <;> (try go_bits) <;> with_reducible rfl
    · exact fun _ _ _ => rfl
    · rfl
    dsimp only [nA, cA]
    apply RGW.on (i := 7) rfl
    · (simp only [gA, gB, gC] <;> rfl)
    · intro γ u W hcur hd
      obtain ⟨⟨h1, r1, -⟩, ⟨h6, -, -⟩, -⟩ := hd
      dsimp only at h1 h6 r1
      (try simp only [h1, h6])
      refine ⟨rfl, ?_⟩
      go_simp <;> (try go_bits) <;> with_reducible rfl
    · exact fun _ _ _ => rfl
    · rfl
    dsimp only [nA, cA]
    apply RGW.onL (i := 8) rfl
    · (simp only [gA, gB, gC] <;> rfl)
    · intro γ u Wm W hcur hd hX
      obtain ⟨⟨h1, r1, -⟩, ⟨h6, -, -⟩, -⟩ := hd
      dsimp only at h1 h6 r1
      (try simp only [h1, h6])
      refine ⟨rfl, ?_⟩
      go_simp <;> (try go_bits) <;> with_reducible rfl
    · exact fun _ _ _ => rfl
    dsimp only [nA, cA]
    apply RGW.alloc (i := 9) rfl
    · (simp only [gA, gB, gC] <;> rfl)
    · intro γ u W hcur hd
      clear hd
      (try dsimp only)
      refine ⟨rfl, fun K hK => ?_⟩
      go_simp
      exact hK.out _ _ rfl rfl
    · exact fun _ _ _ => rfl
    · rfl
    · rfl
    dsimp only [nA, cA]
    refine RGW.skip (i := 10) rfl rfl ?_
    dsimp only [nA, cA]
    refine RGW.skip (i := 11) rfl rfl ?_
    dsimp only [nA, cA]
    refine RGW.fin (fun γ u wd hwd hd hdis => ?_)
    obtain ⟨⟨h0, -, -⟩, ⟨h1, r1, b1⟩, ⟨h2, -, -⟩, ⟨h3, -, -⟩, ⟨h4, -, -⟩, ⟨h5, -, -⟩, ⟨h6, -, -⟩, ⟨h7, -, -⟩, ⟨h8, -, -⟩, ⟨h9, r9, b9⟩, -⟩ := hd
    dsimp only at h0 h1 h2 h3 h4 h5 h6 h7 h8 h9 r1 r9 b1 b9
    clear hdis
    simp only [h0, h1, h2, h3, h4, h5, h6, h7, h8, h9]
    clear h9 h8 h7 h6 h5 h4 h3 h2 h1 h0
    replace b9 := b9 _ (List.mem_singleton.2 rfl)
    generalize hγ9 : (γ 9).n = g9 at *
    clear hγ9
    clear u
    simp only [List.map_cons, List.map_nil]
    apply PlanW.step
    · (simp only [gA, gB, gC] <;> rfl)
    · rfl
    intro K hK
    refine wp_store_keep (X := [g9]) (w0 := wd) rfl rfl rfl (by with_reducible first | exact bx_refl _ _ | assumption) (by with_reducible first | assumption | (apply Blk.below (hb := hwd); assumption)) (by simp) (by kernel_rfl) (by rfl) (by simp [Value.oneCell']) (fun hres1 hcur => ?_)
    refine hK.out _ _ hcur (fun _ => ?_)
    clear hK K
    try simp only [Act.put, List.setIfInBounds_toArray, List.set_cons_zero, List.set_cons_succ]
    apply PlanW.step
    · (simp only [gA, gB, gC] <;> rfl)
    · rfl
    intro K hK
    go_simp
    refine hK.out _ _ (by (with_reducible (repeat' (first | assumption | apply jG | apply jH | apply jI | apply jJ | apply jK | apply hb3x | omega | (simp; done) | (simp; omega) | (dsimp only; omega))))) (fun hcur => ?_)
    clear hK K
    try simp only [Act.put, List.setIfInBounds_toArray, List.set_cons_zero, List.set_cons_succ]
    refine PlanW.done ?_
    have hb3 := bl_tt hwd
    clear r1
    generalize g9 = gk4 at *
    apply absTB5 (w0 := w) (g0 := w.heap.size) (g1 := w.heap.size + 1) (g2 := w.heap.size + 2) (g3 := gk3) (g4 := gk4)
    iterate 6 (focus ((with_reducible (repeat' (first | assumption | apply jA | apply jB | apply jC | apply jD | apply jE | apply jF | apply hb3 | apply jG | apply jH | apply jI | apply jJ | apply jK | apply hb3x | (apply jL; first | (simp; done) | rfl) | apply jM | apply jN | apply jO | apply jP | apply jQ | apply jR | apply jS | apply jT (hb := hb3 _ (jA _)) | omega | (simp; done) | (simp; omega) | (dsimp only; omega)))); done))
    intro wd2 hb0' k0' k1' k2' k3' k4'
    (try simp only [List.setIfInBounds_toArray, List.set_cons_zero, List.set_cons_succ] at k0' k1' k2' k3' k4')
    try clear hb3
    try clear Lk0
    try clear Fk0
    try clear Qk0
    try clear Lk1
    try clear Fk1
    try clear Qk1
    try clear Lk2
    try clear Fk2
    try clear Qk2
    try clear Lk3
    try clear Fk3
    try clear Qk3
    try clear hb0
    try clear k0
    try clear k1
    try clear k2
    try clear k3
    try clear k4
    have hb0 := hb0'; clear hb0'
    have k0 := k0'; clear k0'
    have k1 := k1'; clear k1'
    have k2 := k2'; clear k2'
    have k3 := k3'; clear k3'
    have k4 := k4'; clear k4'
    have Lk0 := k0.later
    have Fk0 := k0.laterF
    have Qk0 := k0.lt
    have Lk1 := k1.later
    have Fk1 := k1.laterF
    have Qk1 := k1.lt
    have Lk2 := k2.later
    have Fk2 := k2.laterF
    have Qk2 := k2.lt
    have Lk3 := k3.later
    have Fk3 := k3.laterF
    have Qk3 := k3.lt
    have Lk4 := k4.later
    have Fk4 := k4.laterF
    have Qk4 := k4.lt
    go_upto_region 7 with fail
    refine wp_any (w0 := wd2) ⟨[10, 11], [8], [some 40, some 41, some 42, some 43, some 44, some 45, some 39, some 46, some 47, some 11, none, none], [[], [0], [], [2], [], [0, 1, 2, 3, 4], [0, 1, 2, 3, 4, 5], [0, 1, 2, 3, 4, 5, 6], [0, 1, 2, 3, 4, 5, 6], [], [0, 1, 2, 3, 4, 5, 6, 7, 9], [0, 1, 2, 3, 4, 5, 6, 7, 8, 9, 10]], [[], [0], [], [2], [], [1, 3, 4], [1, 5], [1, 6], [1, 6], [], [], []]⟩ (fun γ => [(γ 9).n]) (by kernel_rfl) (by kernel_rfl) (by (with_reducible (repeat' (first | assumption | apply jA | apply jB | apply jC | apply jD | apply jE | apply jF | apply hb3 | omega | (simp; done) | (simp; omega) | (dsimp only; omega))))) (fun u => by simp only [putD, Act.put, List.setIfInBounds_toArray, List.set_cons_zero, List.set_cons_succ, Nat.zero_add, Nat.reduceAdd]; rfl) ?_
    apply RGW.on (i := 0) rfl
    · (simp only [gA, gB, gC] <;> rfl)
    · intro γ u W hcur hd
      clear hd
      (try dsimp only)
      refine ⟨rfl, ?_⟩
      go_simp <;> (try go_bits) <;> with_reducible rfl
    · exact fun _ _ _ => rfl
    · rfl
    dsimp only [nA, cA]
    apply RGW.gh (⟨fun γ => vNt n.world (.slice (γ 1).A nl (γ 1).c), fun γ W => NtIn n (γ 1).A (γ 1).c W, fun _ => []⟩) (i := 1) rfl
    · (simp only [gA, gB, gC] <;> rfl)
    · intro γ u W hcur hd
      obtain ⟨⟨h0, -, -⟩, -⟩ := hd
      dsimp only at h0
      (try simp only [h0])
      refine ⟨rfl, fun K hK => ?_⟩
      go_simp
      (go_at_call 13; (with_reducible refine (hcp.out _ (bl_tr hb0 hcur)).mono ?_); rintro e w3 ⟨Ax, cx, rfl, hb3, hox⟩; dsimp only; exact hK.out ⟨0, undef, Ax, cx⟩ _ _ (by simp [up]) hb3 (by simpa [up] using hox) (by simp))
    · intro γ γ' hg
      try dsimp only
      have e1 := hg 1 (by decide)
      simp only [e1]
      try exact ⟨trivial, fun _ h => h⟩
    · intro γ W W' hbl hR
      first | exact hR.below hbl | exact own_below hR hbl | exact trivial | exact ⟨hR.1.below hbl, hR.2⟩
    · rfl
    dsimp only [nA, cA]
    apply RGW.on (i := 2) rfl
    · (simp only [gA, gB, gC] <;> rfl)
    · intro γ u W hcur hd
      clear hd
      (try dsimp only)
      refine ⟨rfl, ?_⟩
      go_simp <;> (try go_bits) <;> with_reducible rfl
    · exact fun _ _ _ => rfl
    · rfl
    dsimp only [nA, cA]
    apply RGW.on (i := 3) rfl
    · (simp only [gA, gB, gC] <;> rfl)
    · intro γ u W hcur hd
      obtain ⟨⟨h2, -, -⟩, -⟩ := hd
      dsimp only at h2
      (try simp only [h2])
      refine ⟨rfl, ?_⟩
      go_simp <;> (try go_bits) <;> with_reducible rfl
    · exact fun _ _ _ => rfl
    · rfl
    dsimp only [nA, cA]
    apply RGW.on (i := 4) rfl
    · (simp only [gA, gB, gC] <;> rfl)
    · intro γ u W hcur hd
      clear hd
      (try dsimp only)
      refine ⟨rfl, ?_⟩
      go_simp <;> (try go_bits) <;> with_reducible rfl
    · exact fun _ _ _ => rfl
    · rfl
    dsimp only [nA, cA]
    apply RGW.call (i := 5) rfl
    · (simp only [gA, gB, gC] <;> rfl)
    · intro γ u W hcur hd
      obtain ⟨⟨h1, r1, -⟩, ⟨h3, -, -⟩, ⟨h4, -, -⟩, -⟩ := hd
      dsimp only at h1 h3 h4 r1
      (try simp only [h1, h3, h4])
      refine ⟨rfl, fun K hK => ?_⟩
      go_simp
      (go_at_call 46; (with_reducible refine (hsq.out _ _ _ r1).mono ?_); rintro e w3 ⟨rfl, hb3⟩; replace hb3 := bl_tt hb3)
      (try dsimp only)
      exact hK.out _ _ rfl (by (with_reducible (repeat' (first | assumption | apply jA | apply jB | apply jC | apply jD | apply jE | apply jF | apply hb3 | omega | (simp; done) | (simp; omega) | (dsimp only; omega)))))
    · exact fun _ _ _ => rfl
    · rfl
    dsimp only [nA, cA]
    apply RGW.on (i := 6) rfl
    · (simp only [gA, gB, gC] <;> rfl)
    · intro γ u W hcur hd
      obtain ⟨⟨h1, r1, -⟩, ⟨h5, -, -⟩, -⟩ := hd
      dsimp only at h1 h5 r1
      (try simp only [h1, h5])
      refine ⟨rfl, ?_⟩
      go_simp <;> (try go_bits) <;> with_reducible rfl
    · exact fun _ _ _ => rfl
    · rfl
    dsimp only [nA, cA]
    apply RGW.on (i := 7) rfl
    · (simp only [gA, gB, gC] <;> rfl)
    · intro γ u W hcur hd
      obtain ⟨⟨h1, r1, -⟩, ⟨h6, -, -⟩, -⟩ := hd
      dsimp only at h1 h6 r1
      (try simp only [h1, h6])
      refine ⟨rfl, ?_⟩
      go_simp <;> (try go_bits) <;> with_reducible rfl
    · exact fun _ _ _ => rfl
    · rfl
    dsimp only [nA, cA]
    apply RGW.onL (i := 8) rfl
    · (simp only [gA, gB, gC] <;> rfl)
    · intro γ u Wm W hcur hd hX
      obtain ⟨⟨h1, r1, -⟩, ⟨h6, -, -⟩, -⟩ := hd
      dsimp only at h1 h6 r1
      (try simp only [h1, h6])
      refine ⟨rfl, ?_⟩
      go_simp <;> (try go_bits) <;> with_reducible rfl
    · exact fun _ _ _ => rfl
    dsimp only [nA, cA]
    apply RGW.alloc (i := 9) rfl
    · (simp only [gA, gB, gC] <;> rfl)
    · intro γ u W hcur hd
      clear hd
      (try dsimp only)
      refine ⟨rfl, fun K hK => ?_⟩
      go_simp
      exact hK.out _ _ rfl rfl
    · exact fun _ _ _ => rfl
    · rfl
    · rfl
    dsimp only [nA, cA]
    refine RGW.skip (i := 10) rfl rfl ?_
    dsimp only [nA, cA]
    refine RGW.skip (i := 11) rfl rfl ?_
    dsimp only [nA, cA]
    refine RGW.fin (fun γ u we hwe hd hdis => ?_)
    obtain ⟨⟨h0, -, -⟩, ⟨h1, r1, b1⟩, ⟨h2, -, -⟩, ⟨h3, -, -⟩, ⟨h4, -, -⟩, ⟨h5, -, -⟩, ⟨h6, -, -⟩, ⟨h7, -, -⟩, ⟨h8, -, -⟩, ⟨h9, r9, b9⟩, -⟩ := hd
    dsimp only at h0 h1 h2 h3 h4 h5 h6 h7 h8 h9 r1 r9 b1 b9
    clear hdis
    simp only [h0, h1, h2, h3, h4, h5, h6, h7, h8, h9]
    clear h9 h8 h7 h6 h5 h4 h3 h2 h1 h0
    replace b9 := b9 _ (List.mem_singleton.2 rfl)
    generalize hγ9 : (γ 9).n = g9 at *
    clear hγ9
    clear u
    simp only [List.map_cons, List.map_nil]
    apply PlanW.step
    · (simp only [gA, gB, gC] <;> rfl)
    · rfl
    intro K hK
    refine wp_store_keep (X := [g9]) (w0 := we) rfl rfl rfl (by with_reducible first | exact bx_refl _ _ | assumption) (by with_reducible first | assumption | (apply Blk.below (hb := hwe); assumption)) (by simp) (by kernel_rfl) (by rfl) (by simp [Value.oneCell']) (fun hres1 hcur => ?_)
    refine hK.out _ _ hcur (fun _ => ?_)
    clear hK K
    try simp only [Act.put, List.setIfInBounds_toArray, List.set_cons_zero, List.set_cons_succ]
    apply PlanW.step
    · (simp only [gA, gB, gC] <;> rfl)
    · rfl
    intro K hK
    go_simp
    refine hK.out _ _ (by (with_reducible (repeat' (first | assumption | apply jG | apply jH | apply jI | apply jJ | apply jK | apply hb3x | omega | (simp; done) | (simp; omega) | (dsimp only; omega))))) (fun hcur => ?_)
    clear hK K
    try simp only [Act.put, List.setIfInBounds_toArray, List.set_cons_zero, List.set_cons_succ]
    refine PlanW.done ?_
    have hb3 := bl_tt hwe
    clear r1
    generalize g9 = gk5 at *
    apply absTB6 (w0 := w) (g0 := w.heap.size) (g1 := w.heap.size + 1) (g2 := w.heap.size + 2) (g3 := gk3) (g4 := gk4) (g5 := gk5)
    iterate 7 (focus ((with_reducible (repeat' (first | assumption | apply jA | apply jB | apply jC | apply jD | apply jE | apply jF | apply hb3 | apply jG | apply jH | apply jI | apply jJ | apply jK | apply hb3x | (apply jL; first | (simp; done) | rfl) | apply jM | apply jN | apply jO | apply jP | apply jQ | apply jR | apply jS | apply jT (hb := hb3 _ (jA _)) | omega | (simp; done) | (simp; omega) | (dsimp only; omega)))); done))
    intro we2 hb0' k0' k1' k2' k3' k4' k5'
    (try simp only [List.setIfInBounds_toArray, List.set_cons_zero, List.set_cons_succ] at k0' k1' k2' k3' k4' k5')
    try clear hb3
    try clear Lk0
    try clear Fk0
    try clear Qk0
    try clear Lk1
    try clear Fk1
    try clear Qk1
    try clear Lk2
    try clear Fk2
    try clear Qk2
    try clear Lk3
    try clear Fk3
    try clear Qk3
    try clear Lk4
    try clear Fk4
    try clear Qk4
    try clear hb0
    try clear k0
    try clear k1
    try clear k2
    try clear k3
    try clear k4
    try clear k5
    have hb0 := hb0'; clear hb0'
    have k0 := k0'; clear k0'
    have k1 := k1'; clear k1'
    have k2 := k2'; clear k2'
    have k3 := k3'; clear k3'
    have k4 := k4'; clear k4'
    have k5 := k5'; clear k5'
    have Lk0 := k0.later
    have Fk0 := k0.laterF
    have Qk0 := k0.lt
    have Lk1 := k1.later
    have Fk1 := k1.laterF
    have Qk1 := k1.lt
    have Lk2 := k2.later
    have Fk2 := k2.laterF
    have Qk2 := k2.lt
    have Lk3 := k3.later
    have Fk3 := k3.laterF
    have Qk3 := k3.lt
    have Lk4 := k4.later
    have Fk4 := k4.laterF
    have Qk4 := k4.lt
    have Lk5 := k5.later
    have Fk5 := k5.laterF
    have Qk5 := k5.lt
    go_upto_region 9 with (go_at_call 40; (with_reducible refine (hne.out _ (bl_tr hb0 (by (with_reducible (repeat' (first | assumption | apply jA | apply jB | apply jC | apply jD | apply jE | apply jF | apply hb3 | omega | (simp; done) | (simp; omega) | (dsimp only; omega))))))).mono ?_); rintro e w3 ⟨rfl, hb3⟩; replace hb3 := bl_tt hb3)
    apply absB6 (w0 := w) (g0 := w.heap.size) (g1 := w.heap.size + 1) (g2 := w.heap.size + 2) (g3 := gk3) (g4 := gk4) (g5 := gk5)
    iterate 7 (focus ((with_reducible (repeat' (first | assumption | apply jA | apply jB | apply jC | apply jD | apply jE | apply jF | apply hb3 | apply jG | apply jH | apply jI | apply jJ | apply jK | apply hb3x | (apply jL; first | (simp; done) | rfl) | apply jM | apply jN | apply jO | apply jP | apply jQ | apply jR | apply jS | apply jT (hb := hb3 _ (jA _)) | omega | (simp; done) | (simp; omega) | (dsimp only; omega)))); done))
    intro x1 hb0' k0' k1' k2' k3' k4' k5'
    (try simp only [List.setIfInBounds_toArray, List.set_cons_zero, List.set_cons_succ] at k0' k1' k2' k3' k4' k5')
    try clear hb3
    try clear Lk0
    try clear Fk0
    try clear Qk0
    try clear Lk1
    try clear Fk1
    try clear Qk1
    try clear Lk2
    try clear Fk2
    try clear Qk2
    try clear Lk3
    try clear Fk3
    try clear Qk3
    try clear Lk4
    try clear Fk4
    try clear Qk4
    try clear Lk5
    try clear Fk5
    try clear Qk5
    try clear hb0
    try clear k0
    try clear k1
    try clear k2
    try clear k3
    try clear k4
    try clear k5
    have hb0 := hb0'; clear hb0'
    have k0 := k0'; clear k0'
    have k1 := k1'; clear k1'
    have k2 := k2'; clear k2'
    have k3 := k3'; clear k3'
    have k4 := k4'; clear k4'
    have k5 := k5'; clear k5'
    have Lk0 := k0.later
    have Fk0 := k0.laterF
    have Qk0 := k0.lt
    have Lk1 := k1.later
    have Fk1 := k1.laterF
    have Qk1 := k1.lt
    have Lk2 := k2.later
    have Fk2 := k2.laterF
    have Qk2 := k2.lt
    have Lk3 := k3.later
    have Fk3 := k3.laterF
    have Qk3 := k3.lt
    have Lk4 := k4.later
    have Fk4 := k4.laterF
    have Qk4 := k4.lt
    have Lk5 := k5.later
    have Fk5 := k5.laterF
    have Qk5 := k5.lt
    by_cases h0 : ne = 0
    · subst h0
      cases hit
      · go_upto_region 13 with (go_at_call 47; (with_reducible refine (hwi.out _).mono ?_); rintro e w3 ⟨rfl, rfl⟩)
        apply absB6 (w0 := w) (g0 := w.heap.size) (g1 := w.heap.size + 1) (g2 := w.heap.size + 2) (g3 := gk3) (g4 := gk4) (g5 := gk5)
        iterate 7 (focus ((with_reducible (repeat' (first | assumption | apply jA | apply jB | apply jC | apply jD | apply jE | apply jF | apply hb3 | apply jG | apply jH | apply jI | apply jJ | apply jK | apply hb3x | (apply jL; first | (simp; done) | rfl) | apply jM | apply jN | apply jO | apply jP | apply jQ | apply jR | apply jS | apply jT (hb := hb3 _ (jA _)) | omega | (simp; done) | (simp; omega) | (dsimp only; omega)))); done))
        intro x2 hb0' k0' k1' k2' k3' k4' k5'
        (try simp only [List.setIfInBounds_toArray, List.set_cons_zero, List.set_cons_succ] at k0' k1' k2' k3' k4' k5')
        try clear hb3
        try clear Lk0
        try clear Fk0
        try clear Qk0
        try clear Lk1
        try clear Fk1
        try clear Qk1
        try clear Lk2
        try clear Fk2
        try clear Qk2
        try clear Lk3
        try clear Fk3
        try clear Qk3
        try clear Lk4
        try clear Fk4
        try clear Qk4
        try clear Lk5
        try clear Fk5
        try clear Qk5
        try clear hb0
        try clear k0
        try clear k1
        try clear k2
        try clear k3
        try clear k4
        try clear k5
        have hb0 := hb0'; clear hb0'
        have k0 := k0'; clear k0'
        have k1 := k1'; clear k1'
        have k2 := k2'; clear k2'
        have k3 := k3'; clear k3'
        have k4 := k4'; clear k4'
        have k5 := k5'; clear k5'
        have Lk0 := k0.later
        have Fk0 := k0.laterF
        have Qk0 := k0.lt
        have Lk1 := k1.later
        have Fk1 := k1.laterF
        have Qk1 := k1.lt
        have Lk2 := k2.later
        have Fk2 := k2.laterF
        have Qk2 := k2.lt
        have Lk3 := k3.later
        have Fk3 := k3.laterF
        have Qk3 := k3.lt
        have Lk4 := k4.later
        have Fk4 := k4.laterF
        have Qk4 := k4.lt
        have Lk5 := k5.later
        have Fk5 := k5.laterF
        have Qk5 := k5.lt
        obtain ⟨rfl, hz⟩ := fM.out (by simp) (by simp)
        cases hz
        clear fN fM fB fS hsq
        refine wp_any (w0 := x2) ⟨[], [], [some 67, some 68, some 69, some 70, some 71, some 72, some 73, some 74, some 75, some 76, some 77, some 78, some 79, some 80, some 81, some 82, some 83, some 84, some 85, some 86, some 87, some 88, some 89, some 90, some 91, some 92, some 93, some 94, some 95, some 96, some 97, some 98, some 99], [[], [0], [0, 1], [0, 1, 2], [0, 1, 2], [0, 1, 2, 3, 4], [0, 1, 2, 3, 4, 5], [0, 1, 2, 3, 4, 5, 6], [0, 1, 2, 3, 4, 5, 6], [0, 1, 2, 3, 4, 5, 6, 7, 8], [0, 1, 2, 3, 4, 5, 6, 7, 8, 9], [0, 1, 2, 3, 4, 5, 6, 7, 8, 9, 10], [0, 1, 2, 3, 4, 5, 6, 7, 8, 9, 10, 11], [0, 1, 2, 3, 4, 5, 6, 7, 8, 9, 10, 11, 12], [0, 1, 2, 3, 4, 5, 6, 7, 8, 9, 10, 11, 12, 13], [0, 1, 2, 3, 4, 5, 6, 7, 8, 9, 10, 11, 12, 13, 14], [0, 1, 2, 3, 4, 5, 6, 7, 8, 9, 10, 11, 12, 13, 14, 15], [0, 1, 2, 3, 4, 5, 6, 7, 8, 9, 10, 11, 12, 13, 14, 15, 16], [0, 1, 2, 3, 4, 5, 6, 7, 8, 9, 10, 11, 12, 13, 14, 15, 16, 17], [0, 1, 2, 3, 4, 5, 6, 7, 8, 9, 10, 11, 12, 13, 14, 15, 16, 17, 18], [0, 1, 2, 3, 4, 5, 6, 7, 8, 9, 10, 11, 12, 13, 14, 15, 16, 17, 18], [0, 1, 2, 3, 4, 5, 6, 7, 8, 9, 10, 11, 12, 13, 14, 15, 16, 17, 18, 20], [0, 1, 2, 3, 4, 5, 6, 7, 8, 9, 10, 11, 12, 13, 14, 15, 16, 17, 18], [0, 1, 2, 3, 4, 5, 6, 7, 8, 9, 10, 11, 12, 13, 14, 15, 16, 17, 18, 22], [0, 1, 2, 3, 4, 5, 6, 7, 8, 9, 10, 11, 12, 13, 14, 15, 16, 17, 18, 20, 21, 22, 23], [0, 1, 2, 3, 4, 5, 6, 7, 8, 9, 10, 11, 12, 13, 14, 15, 16, 17, 18, 20, 21, 22, 23, 24], [0, 1, 2, 3, 4, 5, 6, 7, 8, 9, 10, 11, 12, 13, 14, 15, 16, 17, 18, 20, 21, 22, 23, 24, 25], [0, 1, 2, 3, 4, 5, 6, 7, 8, 9, 10, 11, 12, 13, 14, 15, 16, 17, 18], [0, 1, 2, 3, 4, 5, 6, 7, 8, 9, 10, 11, 12, 13, 14, 15, 16, 17, 18, 20, 21, 22, 23, 24, 25, 26, 27], [0, 1, 2, 3, 4, 5, 6, 7, 8, 9, 10, 11, 12, 13, 14, 15, 16, 17, 18, 19, 20, 21, 22, 23, 24, 25, 26, 27, 28], [0, 1, 2, 3, 4, 5, 6, 7, 8, 9, 10, 11, 12, 13, 14, 15, 16, 17, 18, 19, 20, 21, 22, 23, 24, 25, 26, 27, 28, 29], [0, 1, 2, 3, 4, 5, 6, 7, 8, 9, 10, 11, 12, 13, 14, 15, 16, 17, 18, 19, 20, 21, 22, 23, 24, 25, 26, 27, 28, 29, 30], [0, 1, 2, 3, 4, 5, 6, 7, 8, 9, 10, 11, 12, 13, 14, 15, 16, 17, 18, 19, 20, 21, 22, 23, 24, 25, 26, 27, 28, 29, 30, 31]], [[], [0], [1], [2], [2], [2, 3, 4], [2, 5], [6], [6], [6, 7, 8], [2, 6, 9], [2, 10], [11], [12], [12, 13], [12, 14], [15], [15, 16], [15, 17], [18], [18], [18, 20], [18], [18, 22], [18, 21, 23], [18, 24], [18, 25], [18], [18, 26, 27], [18, 19, 28], [15, 18, 29], [12, 15, 30], [12, 31]]⟩ (fun _ => []) (by kernel_rfl) (by kernel_rfl) (by (with_reducible (repeat' (first | assumption | apply jA | apply jB | apply jC | apply jD | apply jE | apply jF | apply hb3 | omega | (simp; done) | (simp; omega) | (dsimp only; omega))))) (fun u => by simp only [putD, Act.put, List.setIfInBounds_toArray, List.set_cons_zero, List.set_cons_succ, Nat.zero_add, Nat.reduceAdd]; rfl) ?_
        apply RGW.on (i := 0) rfl
        · (simp only [gA, gB, gC] <;> rfl)
        · intro γ u W hcur hd
          clear hd
          (try dsimp only)
          refine ⟨rfl, ?_⟩
          go_simp <;> (try go_bits) <;> with_reducible rfl
        · exact fun _ _ _ => rfl
        · rfl
        dsimp only [nA, cA]
        apply RGW.on (i := 1) rfl
        · (simp only [gA, gB, gC] <;> rfl)
        · intro γ u W hcur hd
          obtain ⟨⟨h0, -, -⟩, -⟩ := hd
          dsimp only at h0
          (try simp only [h0])
          refine ⟨rfl, ?_⟩
          go_simp <;> (try go_bits) <;> with_reducible rfl
        · exact fun _ _ _ => rfl
        · rfl
        dsimp only [nA, cA]
        apply RGW.on (i := 2) rfl
        · (simp only [gA, gB, gC] <;> rfl)
        · intro γ u W hcur hd
          obtain ⟨⟨h1, -, -⟩, -⟩ := hd
          dsimp only at h1
          (try simp only [h1])
          refine ⟨rfl, ?_⟩
          go_simp <;> (try go_bits) <;> with_reducible rfl
        · exact fun _ _ _ => rfl
        · rfl
        dsimp only [nA, cA]
        apply RGW.on (i := 3) rfl
        · (simp only [gA, gB, gC] <;> rfl)
        · intro γ u W hcur hd
          obtain ⟨⟨h2, -, -⟩, -⟩ := hd
          dsimp only at h2
          (try simp only [h2])
          refine ⟨?_, ?_⟩
          · (simp [Region.wanted, yielded, undef, *]; done)
          go_simp <;> (try go_bits) <;> with_reducible rfl
        · exact fun _ _ _ => rfl
        · rfl
        dsimp only [nA, cA]
        apply RGW.on (i := 4) rfl
        · (simp only [gA, gB, gC] <;> rfl)
        · intro γ u W hcur hd
          obtain ⟨⟨h2, -, -⟩, -⟩ := hd
          dsimp only at h2
          (try simp only [h2])
          refine ⟨?_, ?_⟩
          · (simp [Region.wanted, yielded, undef, *]; done)
          go_simp <;> (try go_bits) <;> with_reducible rfl
        · exact fun _ _ _ => rfl
        · rfl
        dsimp only [nA, cA]
        apply RGW.on (i := 5) rfl
        · (simp only [gA, gB, gC] <;> rfl)
        · intro γ u W hcur hd
          obtain ⟨⟨h2, -, -⟩, ⟨h3, -, -⟩, ⟨h4, -, -⟩, -⟩ := hd
          dsimp only at h2 h3 h4
          (try simp only [h2, h3, h4])
          refine ⟨?_, ?_⟩
          · (simp [Region.wanted, yielded, undef, *]; done)
          go_simp <;> (try go_bits) <;> with_reducible rfl
        · exact fun _ _ _ => rfl
        · rfl
        dsimp only [nA, cA]
        apply RGW.on (i := 6) rfl
        · (simp only [gA, gB, gC] <;> rfl)
        · intro γ u W hcur hd
          obtain ⟨⟨h2, -, -⟩, ⟨h5, -, -⟩, -⟩ := hd
          dsimp only at h2 h5
          (try simp only [h2, h5])
          refine ⟨?_, ?_⟩
          · (simp [Region.wanted, yielded, undef, *]; done)
          go_simp <;> (try go_bits) <;> with_reducible rfl
        · exact fun _ _ _ => rfl
        · rfl
        dsimp only [nA, cA]
        apply RGW.on (i := 7) rfl
        · (simp only [gA, gB, gC] <;> rfl)
        · intro γ u W hcur hd
          obtain ⟨⟨h6, -, -⟩, -⟩ := hd
          dsimp only at h6
          (try simp only [h6])
          refine ⟨?_, ?_⟩
          · (simp [Region.wanted, yielded, undef, *]; done)
          go_simp <;> (try go_bits) <;> with_reducible rfl
        · exact fun _ _ _ => rfl
        · rfl
        dsimp only [nA, cA]
        apply RGW.on (i := 8) rfl
        · (simp only [gA, gB, gC] <;> rfl)
        · intro γ u W hcur hd
          obtain ⟨⟨h6, -, -⟩, -⟩ := hd
          dsimp only at h6
          (try simp only [h6])
          refine ⟨?_, ?_⟩
          · (simp [Region.wanted, yielded, undef, *]; done)
          go_simp <;> (try go_bits) <;> with_reducible rfl
        · exact fun _ _ _ => rfl
        · rfl
        dsimp only [nA, cA]
        apply RGW.on (i := 9) rfl
        · (simp only [gA, gB, gC] <;> rfl)
        · intro γ u W hcur hd
          obtain ⟨⟨h6, -, -⟩, ⟨h7, -, -⟩, ⟨h8, -, -⟩, -⟩ := hd
          dsimp only at h6 h7 h8
          (try simp only [h6, h7, h8])
          refine ⟨?_, ?_⟩
          · (simp [Region.wanted, yielded, undef, *]; done)
          go_simp <;> (try go_bits) <;> with_reducible rfl
        · exact fun _ _ _ => rfl
        · rfl
        dsimp only [nA, cA]
        apply RGW.on (i := 10) rfl
        · (simp only [gA, gB, gC] <;> rfl)
        · intro γ u W hcur hd
          obtain ⟨⟨h2, -, -⟩, ⟨h6, -, -⟩, ⟨h9, -, -⟩, -⟩ := hd
          dsimp only at h2 h6 h9
          (try simp only [h2, h6, h9])
          refine ⟨?_, ?_⟩
          · (simp [Region.wanted, yielded, undef, *]; done)
          go_simp <;> (try go_bits) <;> with_reducible rfl
        · exact fun _ _ _ => rfl
        · rfl
        dsimp only [nA, cA]
        apply RGW.on (i := 11) rfl
        · (simp only [gA, gB, gC] <;> rfl)
        · intro γ u W hcur hd
          obtain ⟨⟨h2, -, -⟩, ⟨h10, -, -⟩, -⟩ := hd
          dsimp only at h2 h10
          (try simp only [h2, h10])
          refine ⟨rfl, ?_⟩
          go_simp <;> (try go_bits) <;> with_reducible rfl
        · exact fun _ _ _ => rfl
        · rfl
        dsimp only [nA, cA]
        apply RGW.on (i := 12) rfl
        · (simp only [gA, gB, gC] <;> rfl)
        · intro γ u W hcur hd
          obtain ⟨⟨h11, -, -⟩, -⟩ := hd
          dsimp only at h11
          (try simp only [h11])
          refine ⟨rfl, ?_⟩
          go_simp <;> (try go_bits) <;> with_reducible rfl
        · exact fun _ _ _ => rfl
        · rfl
        dsimp only [nA, cA]
        apply RGW.on (i := 13) rfl
        · (simp only [gA, gB, gC] <;> rfl)
        · intro γ u W hcur hd
          obtain ⟨⟨h12, -, -⟩, -⟩ := hd
          dsimp only at h12
          (try simp only [h12])
          refine ⟨?_, ?_⟩
          · (simp [Region.wanted, yielded, undef, *]; done)
          go_simp <;> (try go_bits) <;> with_reducible rfl
        · exact fun _ _ _ => rfl
        · rfl
        dsimp only [nA, cA]
        apply RGW.on (i := 14) rfl
        · (simp only [gA, gB, gC] <;> rfl)
        · intro γ u W hcur hd
          obtain ⟨⟨h12, -, -⟩, ⟨h13, -, -⟩, -⟩ := hd
          dsimp only at h12 h13
          (try simp only [h12, h13])
          refine ⟨?_, ?_⟩
          · (simp [Region.wanted, yielded, undef, *]; done)
          go_simp <;> (try go_bits) <;> with_reducible rfl
        · exact fun _ _ _ => rfl
        · rfl
        dsimp only [nA, cA]
        apply RGW.on (i := 15) rfl
        · (simp only [gA, gB, gC] <;> rfl)
        · intro γ u W hcur hd
          obtain ⟨⟨h12, -, -⟩, ⟨h14, -, -⟩, -⟩ := hd
          dsimp only at h12 h14
          (try simp only [h12, h14])
          refine ⟨?_, ?_⟩
          · (simp [Region.wanted, yielded, undef, *]; done)
          go_simp <;> (try go_bits) <;> with_reducible rfl
        · exact fun _ _ _ => rfl
        · rfl
        dsimp only [nA, cA]
        apply RGW.off (i := 16) rfl
        · (simp only [gA, gB, gC] <;> rfl)
        · intro γ u W hcur hd
          obtain ⟨⟨h15, -, -⟩, -⟩ := hd
          dsimp only at h15
          (try simp only [h15])
          simp [Region.wanted, yielded, undef, *]
        · rfl
        dsimp only [nA, cA]
        apply RGW.off (i := 17) rfl
        · (simp only [gA, gB, gC] <;> rfl)
        · intro γ u W hcur hd
          obtain ⟨⟨h15, -, -⟩, ⟨h16, -, -⟩, -⟩ := hd
          dsimp only at h15 h16
          (try simp only [h15, h16])
          simp [Region.wanted, yielded, undef, *]
        · rfl
        dsimp only [nA, cA]
        apply RGW.off (i := 18) rfl
        · (simp only [gA, gB, gC] <;> rfl)
        · intro γ u W hcur hd
          obtain ⟨⟨h15, -, -⟩, ⟨h17, -, -⟩, -⟩ := hd
          dsimp only at h15 h17
          (try simp only [h15, h17])
          simp [Region.wanted, yielded, undef, *]
        · rfl
        dsimp only [nA, cA]
        apply RGW.off (i := 19) rfl
        · (simp only [gA, gB, gC] <;> rfl)
        · intro γ u W hcur hd
          obtain ⟨⟨h18, -, -⟩, -⟩ := hd
          dsimp only at h18
          (try simp only [h18])
          simp [Region.wanted, yielded, undef, *]
        · rfl
        dsimp only [nA, cA]
        apply RGW.off (i := 20) rfl
        · (simp only [gA, gB, gC] <;> rfl)
        · intro γ u W hcur hd
          obtain ⟨⟨h18, -, -⟩, -⟩ := hd
          dsimp only at h18
          (try simp only [h18])
          simp [Region.wanted, yielded, undef, *]
        · rfl
        dsimp only [nA, cA]
        apply RGW.off (i := 21) rfl
        · (simp only [gA, gB, gC] <;> rfl)
        · intro γ u W hcur hd
          obtain ⟨⟨h18, -, -⟩, ⟨h20, -, -⟩, -⟩ := hd
          dsimp only at h18 h20
          (try simp only [h18, h20])
          simp [Region.wanted, yielded, undef, *]
        · rfl
        dsimp only [nA, cA]
        apply RGW.off (i := 22) rfl
        · (simp only [gA, gB, gC] <;> rfl)
        · intro γ u W hcur hd
          obtain ⟨⟨h18, -, -⟩, -⟩ := hd
          dsimp only at h18
          (try simp only [h18])
          simp [Region.wanted, yielded, undef, *]
        · rfl
        dsimp only [nA, cA]
        apply RGW.off (i := 23) rfl
        · (simp only [gA, gB, gC] <;> rfl)
        · intro γ u W hcur hd
          obtain ⟨⟨h18, -, -⟩, ⟨h22, -, -⟩, -⟩ := hd
          dsimp only at h18 h22
          (try simp only [h18, h22])
          simp [Region.wanted, yielded, undef, *]
        · rfl
        dsimp only [nA, cA]
        apply RGW.off (i := 24) rfl
        · (simp only [gA, gB, gC] <;> rfl)
        · intro γ u W hcur hd
          obtain ⟨⟨h18, -, -⟩, ⟨h21, -, -⟩, ⟨h23, -, -⟩, -⟩ := hd
          dsimp only at h18 h21 h23
          (try simp only [h18, h21, h23])
          simp [Region.wanted, yielded, undef, *]
        · rfl
        dsimp only [nA, cA]
        apply RGW.off (i := 25) rfl
        · (simp only [gA, gB, gC] <;> rfl)
        · intro γ u W hcur hd
          obtain ⟨⟨h18, -, -⟩, ⟨h24, -, -⟩, -⟩ := hd
          dsimp only at h18 h24
          (try simp only [h18, h24])
          simp [Region.wanted, yielded, undef, *]
        · rfl
        dsimp only [nA, cA]
        apply RGW.off (i := 26) rfl
        · (simp only [gA, gB, gC] <;> rfl)
        · intro γ u W hcur hd
          obtain ⟨⟨h18, -, -⟩, ⟨h25, -, -⟩, -⟩ := hd
          dsimp only at h18 h25
          (try simp only [h18, h25])
          simp [Region.wanted, yielded, undef, *]
        · rfl
        dsimp only [nA, cA]
        apply RGW.off (i := 27) rfl
        · (simp only [gA, gB, gC] <;> rfl)
        · intro γ u W hcur hd
          obtain ⟨⟨h18, -, -⟩, -⟩ := hd
          dsimp only at h18
          (try simp only [h18])
          simp [Region.wanted, yielded, undef, *]
        · rfl
        dsimp only [nA, cA]
        apply RGW.off (i := 28) rfl
        · (simp only [gA, gB, gC] <;> rfl)
        · intro γ u W hcur hd
          obtain ⟨⟨h18, -, -⟩, ⟨h26, -, -⟩, ⟨h27, -, -⟩, -⟩ := hd
          dsimp only at h18 h26 h27
          (try simp only [h18, h26, h27])
          simp [Region.wanted, yielded, undef, *]
        · rfl
        dsimp only [nA, cA]
        apply RGW.off (i := 29) rfl
        · (simp only [gA, gB, gC] <;> rfl)
        · intro γ u W hcur hd
          obtain ⟨⟨h18, -, -⟩, ⟨h19, -, -⟩, ⟨h28, -, -⟩, -⟩ := hd
          dsimp only at h18 h19 h28
          (try simp only [h18, h19, h28])
          simp [Region.wanted, yielded, undef, *]
        · rfl
        dsimp only [nA, cA]
        apply RGW.off (i := 30) rfl
        · (simp only [gA, gB, gC] <;> rfl)
        · intro γ u W hcur hd
          obtain ⟨⟨h15, -, -⟩, ⟨h18, -, -⟩, ⟨h29, -, -⟩, -⟩ := hd
          dsimp only at h15 h18 h29
          (try simp only [h15, h18, h29])
          simp [Region.wanted, yielded, undef, *]
        · rfl
        dsimp only [nA, cA]
        apply RGW.on (i := 31) rfl
        · (simp only [gA, gB, gC] <;> rfl)
        · intro γ u W hcur hd
          obtain ⟨⟨h12, -, -⟩, ⟨h15, -, -⟩, ⟨h30, -, -⟩, -⟩ := hd
          dsimp only at h12 h15 h30
          (try simp only [h12, h15, h30])
          refine ⟨?_, ?_⟩
          · (simp [Region.wanted, yielded, undef, *]; done)
          go_simp <;> (try go_bits) <;> with_reducible rfl
        · exact fun _ _ _ => rfl
        · rfl
        dsimp only [nA, cA]
        apply RGW.on (i := 32) rfl
        · (simp only [gA, gB, gC] <;> rfl)
        · intro γ u W hcur hd
          obtain ⟨⟨h12, -, -⟩, ⟨h31, -, -⟩, -⟩ := hd
          dsimp only at h12 h31
          (try simp only [h12, h31])
          refine ⟨rfl, ?_⟩
          go_simp <;> (try go_bits) <;> with_reducible rfl
        · exact fun _ _ _ => rfl
        · rfl
        dsimp only [nA, cA]
        refine RGW.fin (fun γ u x2b hx2b hd hdis => ?_)
        obtain ⟨⟨h0, -, -⟩, ⟨h1, -, -⟩, ⟨h2, -, -⟩, ⟨h3, -, -⟩, ⟨h4, -, -⟩, ⟨h5, -, -⟩, ⟨h6, -, -⟩, ⟨h7, -, -⟩, ⟨h8, -, -⟩, ⟨h9, -, -⟩, ⟨h10, -, -⟩, ⟨h11, -, -⟩, ⟨h12, -, -⟩, ⟨h13, -, -⟩, ⟨h14, -, -⟩, ⟨h15, -, -⟩, ⟨h16, -, -⟩, ⟨h17, -, -⟩, ⟨h18, -, -⟩, ⟨h19, -, -⟩, ⟨h20, -, -⟩, ⟨h21, -, -⟩, ⟨h22, -, -⟩, ⟨h23, -, -⟩, ⟨h24, -, -⟩, ⟨h25, -, -⟩, ⟨h26, -, -⟩, ⟨h27, -, -⟩, ⟨h28, -, -⟩, ⟨h29, -, -⟩, ⟨h30, -, -⟩, ⟨h31, -, -⟩, ⟨h32, -, -⟩, -⟩ := hd
        dsimp only at h0 h1 h2 h3 h4 h5 h6 h7 h8 h9 h10 h11 h12 h13 h14 h15 h16 h17 h18 h19 h20 h21 h22 h23 h24 h25 h26 h27 h28 h29 h30 h31 h32
        clear hdis
        simp only [h0, h1, h2, h3, h4, h5, h6, h7, h8, h9, h10, h11, h12, h13, h14, h15, h16, h17, h18, h19, h20, h21, h22, h23, h24, h25, h26, h27, h28, h29, h30, h31, h32]
        clear h32 h31 h30 h29 h28 h27 h26 h25 h24 h23 h22 h21 h20 h19 h18 h17 h16 h15 h14 h13 h12 h11 h10 h9 h8 h7 h6 h5 h4 h3 h2 h1 h0
        clear u
        simp only [List.map_nil]
        refine PlanW.done ?_
        have hb3 := bl_tt hx2b
        apply absTB6 (w0 := w) (g0 := w.heap.size) (g1 := w.heap.size + 1) (g2 := w.heap.size + 2) (g3 := gk3) (g4 := gk4) (g5 := gk5)
        iterate 7 (focus ((with_reducible (repeat' (first | assumption | apply jA | apply jB | apply jC | apply jD | apply jE | apply jF | apply hb3 | apply jG | apply jH | apply jI | apply jJ | apply jK | apply hb3x | (apply jL; first | (simp; done) | rfl) | apply jM | apply jN | apply jO | apply jP | apply jQ | apply jR | apply jS | apply jT (hb := hb3 _ (jA _)) | omega | (simp; done) | (simp; omega) | (dsimp only; omega)))); done))
        intro x2c hb0' k0' k1' k2' k3' k4' k5'
        (try simp only [List.setIfInBounds_toArray, List.set_cons_zero, List.set_cons_succ] at k0' k1' k2' k3' k4' k5')
        try clear hb3
        try clear Lk0
        try clear Fk0
        try clear Qk0
        try clear Lk1
        try clear Fk1
        try clear Qk1
        try clear Lk2
        try clear Fk2
        try clear Qk2
        try clear Lk3
        try clear Fk3
        try clear Qk3
        try clear Lk4
        try clear Fk4
        try clear Qk4
        try clear Lk5
        try clear Fk5
        try clear Qk5
        try clear hb0
        try clear k0
        try clear k1
        try clear k2
        try clear k3
        try clear k4
        try clear k5
        have hb0 := hb0'; clear hb0'
        have k0 := k0'; clear k0'
        have k1 := k1'; clear k1'
        have k2 := k2'; clear k2'
        have k3 := k3'; clear k3'
        have k4 := k4'; clear k4'
        have k5 := k5'; clear k5'
        have Lk0 := k0.later
        have Fk0 := k0.laterF
        have Qk0 := k0.lt
        have Lk1 := k1.later
        have Fk1 := k1.laterF
        have Qk1 := k1.lt
        have Lk2 := k2.later
        have Fk2 := k2.laterF
        have Qk2 := k2.lt
        have Lk3 := k3.later
        have Fk3 := k3.laterF
        have Qk3 := k3.lt
        have Lk4 := k4.later
        have Fk4 := k4.laterF
        have Qk4 := k4.lt
        have Lk5 := k5.later
        have Fk5 := k5.laterF
        have Qk5 := k5.lt
        by_cases hb : be = 0
        · subst hb
          go_upto_region 16 with (go_at_call 17; (with_reducible refine (hbe.out _ (bl_tr hb0 (by (with_reducible (repeat' (first | assumption | apply jA | apply jB | apply jC | apply jD | apply jE | apply jF | apply hb3 | omega | (simp; done) | (simp; omega) | (dsimp only; omega))))))).mono ?_); rintro e w3 ⟨rfl, hb3⟩; replace hb3 := bl_tt hb3)
          apply absB6 (w0 := w) (g0 := w.heap.size) (g1 := w.heap.size + 1) (g2 := w.heap.size + 2) (g3 := gk3) (g4 := gk4) (g5 := gk5)
          iterate 7 (focus ((with_reducible (repeat' (first | assumption | apply jA | apply jB | apply jC | apply jD | apply jE | apply jF | apply hb3 | apply jG | apply jH | apply jI | apply jJ | apply jK | apply hb3x | (apply jL; first | (simp; done) | rfl) | apply jM | apply jN | apply jO | apply jP | apply jQ | apply jR | apply jS | apply jT (hb := hb3 _ (jA _)) | omega | (simp; done) | (simp; omega) | (dsimp only; omega)))); done))
          intro y1 hb0' k0' k1' k2' k3' k4' k5'
          (try simp only [List.setIfInBounds_toArray, List.set_cons_zero, List.set_cons_succ] at k0' k1' k2' k3' k4' k5')
          try clear hb3
          try clear Lk0
          try clear Fk0
          try clear Qk0
          try clear Lk1
          try clear Fk1
          try clear Qk1
          try clear Lk2
          try clear Fk2
          try clear Qk2
          try clear Lk3
          try clear Fk3
          try clear Qk3
          try clear Lk4
          try clear Fk4
          try clear Qk4
          try clear Lk5
          try clear Fk5
          try clear Qk5
          try clear hb0
          try clear k0
          try clear k1
          try clear k2
          try clear k3
          try clear k4
          try clear k5
          have hb0 := hb0'; clear hb0'
          have k0 := k0'; clear k0'
          have k1 := k1'; clear k1'
          have k2 := k2'; clear k2'
          have k3 := k3'; clear k3'
          have k4 := k4'; clear k4'
          have k5 := k5'; clear k5'
          have Lk0 := k0.later
          have Fk0 := k0.laterF
          have Qk0 := k0.lt
          have Lk1 := k1.later
          have Fk1 := k1.laterF
          have Qk1 := k1.lt
          have Lk2 := k2.later
          have Fk2 := k2.laterF
          have Qk2 := k2.lt
          have Lk3 := k3.later
          have Fk3 := k3.laterF
          have Qk3 := k3.lt
          have Lk4 := k4.later
          have Fk4 := k4.laterF
          have Qk4 := k4.lt
          have Lk5 := k5.later
          have Fk5 := k5.laterF
          have Qk5 := k5.lt
          go_upto_region 18 with (go_at_call 29; (with_reducible refine (hme.out _).mono ?_); rintro e w3 ⟨rfl, hb3⟩; replace hb3 := bl_tt hb3)
          apply absB6 (w0 := w) (g0 := w.heap.size) (g1 := w.heap.size + 1) (g2 := w.heap.size + 2) (g3 := gk3) (g4 := gk4) (g5 := gk5)
          iterate 7 (focus ((with_reducible (repeat' (first | assumption | apply jA | apply jB | apply jC | apply jD | apply jE | apply jF | apply hb3 | apply jG | apply jH | apply jI | apply jJ | apply jK | apply hb3x | (apply jL; first | (simp; done) | rfl) | apply jM | apply jN | apply jO | apply jP | apply jQ | apply jR | apply jS | apply jT (hb := hb3 _ (jA _)) | omega | (simp; done) | (simp; omega) | (dsimp only; omega)))); done))
          intro y2 hb0' k0' k1' k2' k3' k4' k5'
          (try simp only [List.setIfInBounds_toArray, List.set_cons_zero, List.set_cons_succ] at k0' k1' k2' k3' k4' k5')
          try clear hb3
          try clear Lk0
          try clear Fk0
          try clear Qk0
          try clear Lk1
          try clear Fk1
          try clear Qk1
          try clear Lk2
          try clear Fk2
          try clear Qk2
          try clear Lk3
          try clear Fk3
          try clear Qk3
          try clear Lk4
          try clear Fk4
          try clear Qk4
          try clear Lk5
          try clear Fk5
          try clear Qk5
          try clear hb0
          try clear k0
          try clear k1
          try clear k2
          try clear k3
          try clear k4
          try clear k5
          have hb0 := hb0'; clear hb0'
          have k0 := k0'; clear k0'
          have k1 := k1'; clear k1'
          have k2 := k2'; clear k2'
          have k3 := k3'; clear k3'
          have k4 := k4'; clear k4'
          have k5 := k5'; clear k5'
          have Lk0 := k0.later
          have Fk0 := k0.laterF
          have Qk0 := k0.lt
          have Lk1 := k1.later
          have Fk1 := k1.laterF
          have Qk1 := k1.lt
          have Lk2 := k2.later
          have Fk2 := k2.laterF
          have Qk2 := k2.lt
          have Lk3 := k3.later
          have Fk3 := k3.laterF
          have Qk3 := k3.lt
          have Lk4 := k4.later
          have Fk4 := k4.laterF
          have Qk4 := k4.lt
          have Lk5 := k5.later
          have Fk5 := k5.laterF
          have Qk5 := k5.lt
          by_cases hm : me = 0
          · subst hm
            obtain ⟨hs1, hs2, hrc, hrb⟩ := fG.out (by simp) (by simp)
            clear fE fE2 fG
            replace hrc := Lib.hid hrc
            replace hrb := Lib.hid hrb
            replace hs1 := Lib.hid hs1
            replace hs2 := Lib.hid hs2
            go_upto_region 20 with fail
            apply absB6 (w0 := w) (g0 := w.heap.size) (g1 := w.heap.size + 1) (g2 := w.heap.size + 2) (g3 := gk3) (g4 := gk4) (g5 := gk5)
            iterate 7 (focus ((with_reducible (repeat' (first | assumption | apply jA | apply jB | apply jC | apply jD | apply jE | apply jF | apply hb3 | apply jG | apply jH | apply jI | apply jJ | apply jK | apply hb3x | (apply jL; first | (simp; done) | rfl) | apply jM | apply jN | apply jO | apply jP | apply jQ | apply jR | apply jS | apply jT (hb := hb3 _ (jA _)) | omega | (simp; done) | (simp; omega) | (dsimp only; omega)))); done))
            intro y3 hb0' k0' k1' k2' k3' k4' k5'
            (try simp only [List.setIfInBounds_toArray, List.set_cons_zero, List.set_cons_succ] at k0' k1' k2' k3' k4' k5')
            try clear hb3
            try clear Lk0
            try clear Fk0
            try clear Qk0
            try clear Lk1
            try clear Fk1
            try clear Qk1
            try clear Lk2
            try clear Fk2
            try clear Qk2
            try clear Lk3
            try clear Fk3
            try clear Qk3
            try clear Lk4
            try clear Fk4
            try clear Qk4
            try clear Lk5
            try clear Fk5
            try clear Qk5
            try clear hb0
            try clear k0
            try clear k1
            try clear k2
            try clear k3
            try clear k4
            try clear k5
            have hb0 := hb0'; clear hb0'
            have k0 := k0'; clear k0'
            have k1 := k1'; clear k1'
            have k2 := k2'; clear k2'
            have k3 := k3'; clear k3'
            have k4 := k4'; clear k4'
            have k5 := k5'; clear k5'
            have Lk0 := k0.later
            have Fk0 := k0.laterF
            have Qk0 := k0.lt
            have Lk1 := k1.later
            have Fk1 := k1.laterF
            have Qk1 := k1.lt
            have Lk2 := k2.later
            have Fk2 := k2.laterF
            have Qk2 := k2.lt
            have Lk3 := k3.later
            have Fk3 := k3.laterF
            have Qk3 := k3.lt
            have Lk4 := k4.later
            have Fk4 := k4.laterF
            have Qk4 := k4.lt
            have Lk5 := k5.later
            have Fk5 := k5.laterF
            have Qk5 := k5.lt
            refine wp_any (w0 := y3) ⟨[12, 13], [], [some 128, some 129, some 130, some 131, some 132, some 133, some 134, some 135, some 136, some 137, some 14, some 15, none, none], [[], [], [], [2], [0, 1, 2, 3], [], [], [], [7], [0, 1, 2, 3, 4, 5, 6, 7, 8], [], [], [0, 1, 2, 3, 4, 5, 6, 7, 8, 9, 10, 11], [0, 1, 2, 3, 4, 5, 6, 7, 8, 9, 10, 11, 12]], [[], [], [], [2], [0, 1, 3], [], [], [], [7], [5, 6, 8], [], [], [], []]⟩ (fun γ => [(γ 10).n, (γ 11).n]) (by kernel_rfl) (by kernel_rfl) (by (with_reducible (repeat' (first | assumption | apply jA | apply jB | apply jC | apply jD | apply jE | apply jF | apply hb3 | omega | (simp; done) | (simp; omega) | (dsimp only; omega))))) (fun u => by simp only [putD, Act.put, List.setIfInBounds_toArray, List.set_cons_zero, List.set_cons_succ, Nat.zero_add, Nat.reduceAdd]; rfl) ?_
            apply RGW.on (i := 0) rfl
            · (simp only [gA, gB, gC] <;> rfl)
            · intro γ u W hcur hd
              clear hd
              (try dsimp only)
              refine ⟨rfl, ?_⟩
              go_simp <;> (try go_bits) <;> with_reducible rfl
            · exact fun _ _ _ => rfl
            · rfl
            dsimp only [nA, cA]
            apply RGW.on (i := 1) rfl
            · (simp only [gA, gB, gC] <;> rfl)
            · intro γ u W hcur hd
              clear hd
              (try dsimp only)
              refine ⟨rfl, ?_⟩
              go_simp <;> (try go_bits) <;> with_reducible rfl
            · exact fun _ _ _ => rfl
            · rfl
            dsimp only [nA, cA]
            apply RGW.on (i := 2) rfl
            · (simp only [gA, gB, gC] <;> rfl)
            · intro γ u W hcur hd
              clear hd
              (try dsimp only)
              refine ⟨rfl, ?_⟩
              go_simp <;> (try go_bits) <;> with_reducible rfl
            · exact fun _ _ _ => rfl
            · rfl
            dsimp only [nA, cA]
            apply RGW.on (i := 3) rfl
            · (simp only [gA, gB, gC] <;> rfl)
            · intro γ u W hcur hd
              obtain ⟨⟨h2, -, -⟩, -⟩ := hd
              dsimp only at h2
              (try simp only [h2])
              refine ⟨rfl, ?_⟩
              go_simp <;> (try go_bits) <;> with_reducible rfl
            · exact fun _ _ _ => rfl
            · rfl
            dsimp only [nA, cA]
            apply RGW.call (i := 4) rfl
            · (simp only [gA, gB, gC] <;> rfl)
            · intro γ u W hcur hd
              obtain ⟨⟨h0, -, -⟩, ⟨h1, -, -⟩, ⟨h3, -, -⟩, -⟩ := hd
              dsimp only at h0 h1 h3
              (try simp only [h0, h1, h3])
              refine ⟨rfl, fun K hK => ?_⟩
              go_simp
              (go_at_call 49; (with_reducible refine (hrc.out _).mono ?_); rintro e w3 ⟨rfl, hb3⟩; replace hb3 := bl_tt hb3)
              (try dsimp only)
              exact hK.out _ _ rfl (by (with_reducible (repeat' (first | assumption | apply jA | apply jB | apply jC | apply jD | apply jE | apply jF | apply hb3 | omega | (simp; done) | (simp; omega) | (dsimp only; omega)))))
            · exact fun _ _ _ => rfl
            · rfl
            dsimp only [nA, cA]
            apply RGW.on (i := 5) rfl
            · (simp only [gA, gB, gC] <;> rfl)
            · intro γ u W hcur hd
              clear hd
              (try dsimp only)
              refine ⟨rfl, ?_⟩
              go_simp <;> (try go_bits) <;> with_reducible rfl
            · exact fun _ _ _ => rfl
            · rfl
            dsimp only [nA, cA]
            apply RGW.on (i := 6) rfl
            · (simp only [gA, gB, gC] <;> rfl)
            · intro γ u W hcur hd
              clear hd
              (try dsimp only)
              refine ⟨rfl, ?_⟩
              go_simp <;> (try go_bits) <;> with_reducible rfl
            · exact fun _ _ _ => rfl
            · rfl
            dsimp only [nA, cA]
            apply RGW.on (i := 7) rfl
            · (simp only [gA, gB, gC] <;> rfl)
            · intro γ u W hcur hd
              clear hd
              (try dsimp only)
              refine ⟨rfl, ?_⟩
              go_simp <;> (try go_bits) <;> with_reducible rfl
            · exact fun _ _ _ => rfl
            · rfl
            dsimp only [nA, cA]
            apply RGW.on (i := 8) rfl
            · (simp only [gA, gB, gC] <;> rfl)
            · intro γ u W hcur hd
              obtain ⟨⟨h7, -, -⟩, -⟩ := hd
              dsimp only at h7
              (try simp only [h7])
              refine ⟨rfl, ?_⟩
              go_simp <;> (try go_bits) <;> with_reducible rfl
            · exact fun _ _ _ => rfl
            · rfl
            dsimp only [nA, cA]
            apply RGW.call (i := 9) rfl
            · (simp only [gA, gB, gC] <;> rfl)
            · intro γ u W hcur hd
              obtain ⟨⟨h5, -, -⟩, ⟨h6, -, -⟩, ⟨h8, -, -⟩, -⟩ := hd
              dsimp only at h5 h6 h8
              (try simp only [h5, h6, h8])
              refine ⟨rfl, fun K hK => ?_⟩
              go_simp
              (go_at_call 50; (with_reducible refine (hrb.out _).mono ?_); rintro e w3 ⟨rfl, hb3⟩; replace hb3 := bl_tt hb3)
              (try dsimp only)
              exact hK.out _ _ rfl (by (with_reducible (repeat' (first | assumption | apply jA | apply jB | apply jC | apply jD | apply jE | apply jF | apply hb3 | omega | (simp; done) | (simp; omega) | (dsimp only; omega)))))
            · exact fun _ _ _ => rfl
            · rfl
            dsimp only [nA, cA]
            apply RGW.alloc (i := 10) rfl
            · (simp only [gA, gB, gC] <;> rfl)
            · intro γ u W hcur hd
              clear hd
              (try dsimp only)
              refine ⟨rfl, fun K hK => ?_⟩
              go_simp
              exact hK.out _ _ rfl rfl
            · exact fun _ _ _ => rfl
            · rfl
            · rfl
            dsimp only [nA, cA]
            apply RGW.alloc (i := 11) rfl
            · (simp only [gA, gB, gC] <;> rfl)
            · intro γ u W hcur hd
              clear hd
              (try dsimp only)
              refine ⟨rfl, fun K hK => ?_⟩
              go_simp
              exact hK.out _ _ rfl rfl
            · exact fun _ _ _ => rfl
            · rfl
            · rfl
            dsimp only [nA, cA]
            refine RGW.skip (i := 12) rfl rfl ?_
            dsimp only [nA, cA]
            refine RGW.skip (i := 13) rfl rfl ?_
            dsimp only [nA, cA]
            refine RGW.fin (fun γ u y4 hy4 hd hdis => ?_)
            obtain ⟨⟨h0, -, -⟩, ⟨h1, -, -⟩, ⟨h2, -, -⟩, ⟨h3, -, -⟩, ⟨h4, -, -⟩, ⟨h5, -, -⟩, ⟨h6, -, -⟩, ⟨h7, -, -⟩, ⟨h8, -, -⟩, ⟨h9, -, -⟩, ⟨h10, r10, b10⟩, ⟨h11, r11, b11⟩, -⟩ := hd
            dsimp only at h0 h1 h2 h3 h4 h5 h6 h7 h8 h9 h10 h11 r10 r11 b10 b11
            have n10_11 := hdis 10 11 rfl rfl (Nat.lt_of_lt_of_eq (by decide : 10 < 14) (by kernel_rfl)) (Nat.lt_of_lt_of_eq (by decide : 11 < 14) (by kernel_rfl)) (by decide) _ (List.mem_singleton.2 rfl) _ (List.mem_singleton.2 rfl)
            clear hdis
            simp only [h0, h1, h2, h3, h4, h5, h6, h7, h8, h9, h10, h11]
            clear h11 h10 h9 h8 h7 h6 h5 h4 h3 h2 h1 h0
            replace b10 := b10 _ (List.mem_singleton.2 rfl)
            generalize hγ10 : (γ 10).n = g10 at *
            clear hγ10
            replace b11 := b11 _ (List.mem_singleton.2 rfl)
            generalize hγ11 : (γ 11).n = g11 at *
            clear hγ11
            clear u
            simp only [List.map_cons, List.map_nil]
            apply PlanW.step
            · (simp only [gA, gB, gC] <;> rfl)
            · rfl
            intro K hK
            refine wp_store_keep (X := [g10, g11]) (w0 := y4) rfl rfl rfl (by with_reducible first | exact bx_refl _ _ | assumption) (by with_reducible first | assumption | (apply Blk.below (hb := hy4); assumption)) (by simp) (by kernel_rfl) (by rfl) (by simp [Value.oneCell']) (fun hres1 hcur => ?_)
            refine hK.out _ _ hcur (fun _ => ?_)
            clear hK K
            try simp only [Act.put, List.setIfInBounds_toArray, List.set_cons_zero, List.set_cons_succ]
            apply PlanW.step
            · (simp only [gA, gB, gC] <;> rfl)
            · rfl
            intro K hK
            refine wp_store_keep (X := [g10, g11]) (w0 := y4) rfl rfl rfl (by with_reducible first | exact bx_refl _ _ | assumption) (by with_reducible first | assumption | (apply Blk.below (hb := hy4); assumption)) (by simp) (by kernel_rfl) (by rfl) (by simp [Value.oneCell']) (fun hres2 hcur => ?_)
            refine hK.out _ _ hcur (fun _ => ?_)
            clear hK K
            try simp only [Act.put, List.setIfInBounds_toArray, List.set_cons_zero, List.set_cons_succ]
            refine PlanW.done ?_
            have hb3 := bl_tt hy4
            apply absTB8 (w0 := w) (g0 := w.heap.size) (g1 := w.heap.size + 1) (g2 := w.heap.size + 2) (g3 := gk3) (g4 := gk4) (g5 := gk5) (g6 := g10) (g7 := g11)
            iterate 9 (focus ((with_reducible (repeat' (first | assumption | apply jA | apply jB | apply jC | apply jD | apply jE | apply jF | apply hb3 | apply jG | apply jH | apply jI | apply jJ | apply jK | apply hb3x | (apply jL; first | (simp; done) | rfl) | apply jM | apply jN | apply jO | apply jP | apply jQ | apply jR | apply jS | apply jT (hb := hb3 _ (jA _)) | omega | (simp; done) | (simp; omega) | (dsimp only; omega)))); done))
            intro y5 hb0' k0' k1' k2' k3' k4' k5' k6' k7'
            (try simp only [List.setIfInBounds_toArray, List.set_cons_zero, List.set_cons_succ] at k0' k1' k2' k3' k4' k5' k6' k7')
            try clear hb3
            try clear Lk0
            try clear Fk0
            try clear Qk0
            try clear Lk1
            try clear Fk1
            try clear Qk1
            try clear Lk2
            try clear Fk2
            try clear Qk2
            try clear Lk3
            try clear Fk3
            try clear Qk3
            try clear Lk4
            try clear Fk4
            try clear Qk4
            try clear Lk5
            try clear Fk5
            try clear Qk5
            try clear hb0
            try clear k0
            try clear k1
            try clear k2
            try clear k3
            try clear k4
            try clear k5
            try clear k6
            try clear k7
            have hb0 := hb0'; clear hb0'
            have k0 := k0'; clear k0'
            have k1 := k1'; clear k1'
            have k2 := k2'; clear k2'
            have k3 := k3'; clear k3'
            have k4 := k4'; clear k4'
            have k5 := k5'; clear k5'
            have k6 := k6'; clear k6'
            have k7 := k7'; clear k7'
            have Lk0 := k0.later
            have Fk0 := k0.laterF
            have Qk0 := k0.lt
            have Lk1 := k1.later
            have Fk1 := k1.laterF
            have Qk1 := k1.lt
            have Lk2 := k2.later
            have Fk2 := k2.laterF
            have Qk2 := k2.lt
            have Lk3 := k3.later
            have Fk3 := k3.laterF
            have Qk3 := k3.lt
            have Lk4 := k4.later
            have Fk4 := k4.laterF
            have Qk4 := k4.lt
            have Lk5 := k5.later
            have Fk5 := k5.laterF
            have Qk5 := k5.lt
            have Lk6 := k6.later
            have Fk6 := k6.laterF
            have Qk6 := k6.lt
            have Lk7 := k7.later
            have Fk7 := k7.laterF
            have Qk7 := k7.lt
            have hb3 := fun (w : World) (h : Below w.heap.size w y5) => h
            go_wp2_with (go_at_call 51; (with_reducible first | refine (hs1.out _).mono ?_ | refine (hs2.out _).mono ?_); rintro e w3 ⟨rfl, hb4⟩; replace hb3 := fun w h => bl_tt hb4 w (hb3 w h); have hv := hb3 y5 (by (with_reducible (repeat' (first | assumption | apply jA | apply jB | apply jC | apply jD | apply jE | apply jF | apply hb3 | omega | (simp; done) | (simp; omega) | (dsimp only; omega))))))
            go_ret
            exact ⟨rfl, bl_tr hb0 hv⟩
          · obtain ⟨⟨rfl, rfl⟩, rfl, rfl⟩ := fE2.out (by simp) hm
            clear fE fE2 fG
            have hm' := bne_ne hm
            replace hm := Lib.hid hm
            go_wp2
            go_ret
            exact ⟨by simp, hb0⟩
        · obtain ⟨⟨rfl, rfl⟩, rfl, rfl⟩ := fE.out hb
          clear fE fE2 fG
          have hb' := bne_ne hb
          replace hb := Lib.hid hb
          go_upto_region 16 with (go_at_call 17; (with_reducible refine (hbe.out _ (bl_tr hb0 (by (with_reducible (repeat' (first | assumption | apply jA | apply jB | apply jC | apply jD | apply jE | apply jF | apply hb3 | omega | (simp; done) | (simp; omega) | (dsimp only; omega))))))).mono ?_); rintro e w3 ⟨rfl, hb3⟩; replace hb3 := bl_tt hb3)
          apply absB6 (w0 := w) (g0 := w.heap.size) (g1 := w.heap.size + 1) (g2 := w.heap.size + 2) (g3 := gk3) (g4 := gk4) (g5 := gk5)
          iterate 7 (focus ((with_reducible (repeat' (first | assumption | apply jA | apply jB | apply jC | apply jD | apply jE | apply jF | apply hb3 | apply jG | apply jH | apply jI | apply jJ | apply jK | apply hb3x | (apply jL; first | (simp; done) | rfl) | apply jM | apply jN | apply jO | apply jP | apply jQ | apply jR | apply jS | apply jT (hb := hb3 _ (jA _)) | omega | (simp; done) | (simp; omega) | (dsimp only; omega)))); done))
          intro y1 hb0' k0' k1' k2' k3' k4' k5'
          (try simp only [List.setIfInBounds_toArray, List.set_cons_zero, List.set_cons_succ] at k0' k1' k2' k3' k4' k5')
          try clear hb3
          try clear Lk0
          try clear Fk0
          try clear Qk0
          try clear Lk1
          try clear Fk1
          try clear Qk1
          try clear Lk2
          try clear Fk2
          try clear Qk2
          try clear Lk3
          try clear Fk3
          try clear Qk3
          try clear Lk4
          try clear Fk4
          try clear Qk4
          try clear Lk5
          try clear Fk5
          try clear Qk5
          try clear Lk6
          try clear Fk6
          try clear Qk6
          try clear Lk7
          try clear Fk7
          try clear Qk7
          try clear hb0
          try clear k0
          try clear k1
          try clear k2
          try clear k3
          try clear k4
          try clear k5
          have hb0 := hb0'; clear hb0'
          have k0 := k0'; clear k0'
          have k1 := k1'; clear k1'
          have k2 := k2'; clear k2'
          have k3 := k3'; clear k3'
          have k4 := k4'; clear k4'
          have k5 := k5'; clear k5'
          have Lk0 := k0.later
          have Fk0 := k0.laterF
          have Qk0 := k0.lt
          have Lk1 := k1.later
          have Fk1 := k1.laterF
          have Qk1 := k1.lt
          have Lk2 := k2.later
          have Fk2 := k2.laterF
          have Qk2 := k2.lt
          have Lk3 := k3.later
          have Fk3 := k3.laterF
          have Qk3 := k3.lt
          have Lk4 := k4.later
          have Fk4 := k4.laterF
          have Qk4 := k4.lt
          have Lk5 := k5.later
          have Fk5 := k5.laterF
          have Qk5 := k5.lt
          go_wp2
          go_ret
          exact ⟨by simp, hb0⟩
      · go_upto_region 12 with (go_at_call 47; (with_reducible refine (hwi.out _).mono ?_); rintro e w3 ⟨rfl, rfl⟩)
        apply absB6 (w0 := w) (g0 := w.heap.size) (g1 := w.heap.size + 1) (g2 := w.heap.size + 2) (g3 := gk3) (g4 := gk4) (g5 := gk5)
        iterate 7 (focus ((with_reducible (repeat' (first | assumption | apply jA | apply jB | apply jC | apply jD | apply jE | apply jF | apply hb3 | apply jG | apply jH | apply jI | apply jJ | apply jK | apply hb3x | (apply jL; first | (simp; done) | rfl) | apply jM | apply jN | apply jO | apply jP | apply jQ | apply jR | apply jS | apply jT (hb := hb3 _ (jA _)) | omega | (simp; done) | (simp; omega) | (dsimp only; omega)))); done))
        intro x2 hb0' k0' k1' k2' k3' k4' k5'
        (try simp only [List.setIfInBounds_toArray, List.set_cons_zero, List.set_cons_succ] at k0' k1' k2' k3' k4' k5')
        try clear hb3
        try clear Lk0
        try clear Fk0
        try clear Qk0
        try clear Lk1
        try clear Fk1
        try clear Qk1
        try clear Lk2
        try clear Fk2
        try clear Qk2
        try clear Lk3
        try clear Fk3
        try clear Qk3
        try clear Lk4
        try clear Fk4
        try clear Qk4
        try clear Lk5
        try clear Fk5
        try clear Qk5
        try clear hb0
        try clear k0
        try clear k1
        try clear k2
        try clear k3
        try clear k4
        try clear k5
        have hb0 := hb0'; clear hb0'
        have k0 := k0'; clear k0'
        have k1 := k1'; clear k1'
        have k2 := k2'; clear k2'
        have k3 := k3'; clear k3'
        have k4 := k4'; clear k4'
        have k5 := k5'; clear k5'
        have Lk0 := k0.later
        have Fk0 := k0.laterF
        have Qk0 := k0.lt
        have Lk1 := k1.later
        have Fk1 := k1.laterF
        have Qk1 := k1.lt
        have Lk2 := k2.later
        have Fk2 := k2.laterF
        have Qk2 := k2.lt
        have Lk3 := k3.later
        have Fk3 := k3.laterF
        have Qk3 := k3.lt
        have Lk4 := k4.later
        have Fk4 := k4.laterF
        have Qk4 := k4.lt
        have Lk5 := k5.later
        have Fk5 := k5.laterF
        have Qk5 := k5.lt
        go_upto_region 13 with (go_at_call 17; (with_reducible refine (hbe.out _ (bl_tr hb0 (by (with_reducible (repeat' (first | assumption | apply jA | apply jB | apply jC | apply jD | apply jE | apply jF | apply hb3 | omega | (simp; done) | (simp; omega) | (dsimp only; omega))))))).mono ?_); rintro e w3 ⟨rfl, hb3⟩; replace hb3 := bl_tt hb3)
        apply absB6 (w0 := w) (g0 := w.heap.size) (g1 := w.heap.size + 1) (g2 := w.heap.size + 2) (g3 := gk3) (g4 := gk4) (g5 := gk5)
        iterate 7 (focus ((with_reducible (repeat' (first | assumption | apply jA | apply jB | apply jC | apply jD | apply jE | apply jF | apply hb3 | apply jG | apply jH | apply jI | apply jJ | apply jK | apply hb3x | (apply jL; first | (simp; done) | rfl) | apply jM | apply jN | apply jO | apply jP | apply jQ | apply jR | apply jS | apply jT (hb := hb3 _ (jA _)) | omega | (simp; done) | (simp; omega) | (dsimp only; omega)))); done))
        intro x3 hb0' k0' k1' k2' k3' k4' k5'
        (try simp only [List.setIfInBounds_toArray, List.set_cons_zero, List.set_cons_succ] at k0' k1' k2' k3' k4' k5')
        try clear hb3
        try clear Lk0
        try clear Fk0
        try clear Qk0
        try clear Lk1
        try clear Fk1
        try clear Qk1
        try clear Lk2
        try clear Fk2
        try clear Qk2
        try clear Lk3
        try clear Fk3
        try clear Qk3
        try clear Lk4
        try clear Fk4
        try clear Qk4
        try clear Lk5
        try clear Fk5
        try clear Qk5
        try clear hb0
        try clear k0
        try clear k1
        try clear k2
        try clear k3
        try clear k4
        try clear k5
        have hb0 := hb0'; clear hb0'
        have k0 := k0'; clear k0'
        have k1 := k1'; clear k1'
        have k2 := k2'; clear k2'
        have k3 := k3'; clear k3'
        have k4 := k4'; clear k4'
        have k5 := k5'; clear k5'
        have Lk0 := k0.later
        have Fk0 := k0.laterF
        have Qk0 := k0.lt
        have Lk1 := k1.later
        have Fk1 := k1.laterF
        have Qk1 := k1.lt
        have Lk2 := k2.later
        have Fk2 := k2.laterF
        have Qk2 := k2.lt
        have Lk3 := k3.later
        have Fk3 := k3.laterF
        have Qk3 := k3.lt
        have Lk4 := k4.later
        have Fk4 := k4.laterF
        have Qk4 := k4.lt
        have Lk5 := k5.later
        have Fk5 := k5.laterF
        have Qk5 := k5.lt
        by_cases hb : be = 0
        · obtain ⟨rfl, k, x, rfl, hkl, hx, hq⟩ := fS.out (by simp) (by simp) hb
          clear fN fM fB fS hsq
          obtain ⟨b', off, hA, hc⟩ := hN.out.sl k x hx
          have c1 := later (kcell hb0 (hc 1 _ rfl))
          have c2 := later (kcell hb0 (hc 2 _ rfl))
          have c3 := later (kcell hb0 (hc 3 _ rfl))
          clear hc hx
          subst hA
          subst hb
          go_wp2
          refine wp_any (w0 := x3) ⟨[], [], [some 67, some 68, some 69, some 70, some 71, some 72, some 73, some 74, some 75, some 76, some 77, some 78, some 79, some 80, some 81, some 82, some 83, some 84, some 85, some 86, some 87, some 88, some 89, some 90, some 91, some 92, some 93, some 94, some 95, some 96, some 97, some 98, some 99], [[], [0], [0, 1], [0, 1, 2], [0, 1, 2], [0, 1, 2, 3, 4], [0, 1, 2, 3, 4, 5], [0, 1, 2, 3, 4, 5, 6], [0, 1, 2, 3, 4, 5, 6], [0, 1, 2, 3, 4, 5, 6, 7, 8], [0, 1, 2, 3, 4, 5, 6, 7, 8, 9], [0, 1, 2, 3, 4, 5, 6, 7, 8, 9, 10], [0, 1, 2, 3, 4, 5, 6, 7, 8, 9, 10, 11], [0, 1, 2, 3, 4, 5, 6, 7, 8, 9, 10, 11, 12], [0, 1, 2, 3, 4, 5, 6, 7, 8, 9, 10, 11, 12, 13], [0, 1, 2, 3, 4, 5, 6, 7, 8, 9, 10, 11, 12, 13, 14], [0, 1, 2, 3, 4, 5, 6, 7, 8, 9, 10, 11, 12, 13, 14, 15], [0, 1, 2, 3, 4, 5, 6, 7, 8, 9, 10, 11, 12, 13, 14, 15, 16], [0, 1, 2, 3, 4, 5, 6, 7, 8, 9, 10, 11, 12, 13, 14, 15, 16, 17], [0, 1, 2, 3, 4, 5, 6, 7, 8, 9, 10, 11, 12, 13, 14, 15, 16, 17, 18], [0, 1, 2, 3, 4, 5, 6, 7, 8, 9, 10, 11, 12, 13, 14, 15, 16, 17, 18], [0, 1, 2, 3, 4, 5, 6, 7, 8, 9, 10, 11, 12, 13, 14, 15, 16, 17, 18, 20], [0, 1, 2, 3, 4, 5, 6, 7, 8, 9, 10, 11, 12, 13, 14, 15, 16, 17, 18], [0, 1, 2, 3, 4, 5, 6, 7, 8, 9, 10, 11, 12, 13, 14, 15, 16, 17, 18, 22], [0, 1, 2, 3, 4, 5, 6, 7, 8, 9, 10, 11, 12, 13, 14, 15, 16, 17, 18, 20, 21, 22, 23], [0, 1, 2, 3, 4, 5, 6, 7, 8, 9, 10, 11, 12, 13, 14, 15, 16, 17, 18, 20, 21, 22, 23, 24], [0, 1, 2, 3, 4, 5, 6, 7, 8, 9, 10, 11, 12, 13, 14, 15, 16, 17, 18, 20, 21, 22, 23, 24, 25], [0, 1, 2, 3, 4, 5, 6, 7, 8, 9, 10, 11, 12, 13, 14, 15, 16, 17, 18], [0, 1, 2, 3, 4, 5, 6, 7, 8, 9, 10, 11, 12, 13, 14, 15, 16, 17, 18, 20, 21, 22, 23, 24, 25, 26, 27], [0, 1, 2, 3, 4, 5, 6, 7, 8, 9, 10, 11, 12, 13, 14, 15, 16, 17, 18, 19, 20, 21, 22, 23, 24, 25, 26, 27, 28], [0, 1, 2, 3, 4, 5, 6, 7, 8, 9, 10, 11, 12, 13, 14, 15, 16, 17, 18, 19, 20, 21, 22, 23, 24, 25, 26, 27, 28, 29], [0, 1, 2, 3, 4, 5, 6, 7, 8, 9, 10, 11, 12, 13, 14, 15, 16, 17, 18, 19, 20, 21, 22, 23, 24, 25, 26, 27, 28, 29, 30], [0, 1, 2, 3, 4, 5, 6, 7, 8, 9, 10, 11, 12, 13, 14, 15, 16, 17, 18, 19, 20, 21, 22, 23, 24, 25, 26, 27, 28, 29, 30, 31]], [[], [0], [1], [2], [2], [2, 3, 4], [2, 5], [6], [6], [6, 7, 8], [2, 6, 9], [2, 10], [11], [12], [12, 13], [12, 14], [15], [15, 16], [15, 17], [18], [18], [18, 20], [18], [18, 22], [18, 21, 23], [18, 24], [18, 25], [18], [18, 26, 27], [18, 19, 28], [15, 18, 29], [12, 15, 30], [12, 31]]⟩ (fun _ => []) (by kernel_rfl) (by kernel_rfl) (by (with_reducible (repeat' (first | assumption | apply jA | apply jB | apply jC | apply jD | apply jE | apply jF | apply hb3 | omega | (simp; done) | (simp; omega) | (dsimp only; omega))))) (fun u => by simp only [putD, Act.put, List.setIfInBounds_toArray, List.set_cons_zero, List.set_cons_succ, Nat.zero_add, Nat.reduceAdd]; rfl) ?_
          apply RGW.on (i := 0) rfl
          · (simp only [gA, gB, gC] <;> rfl)
          · intro γ u W hcur hd
            clear hd
            (try dsimp only)
            refine ⟨rfl, ?_⟩
            go_simp <;> (try go_bits) <;> with_reducible rfl
          · exact fun _ _ _ => rfl
          · rfl
          dsimp only [nA, cA]
          apply RGW.on (i := 1) rfl
          · (simp only [gA, gB, gC] <;> rfl)
          · intro γ u W hcur hd
            obtain ⟨⟨h0, -, -⟩, -⟩ := hd
            dsimp only at h0
            (try simp only [h0])
            refine ⟨rfl, ?_⟩
            go_simp <;> (try go_bits) <;> with_reducible rfl
          · exact fun _ _ _ => rfl
          · rfl
          dsimp only [nA, cA]
          apply RGW.on (i := 2) rfl
          · (simp only [gA, gB, gC] <;> rfl)
          · intro γ u W hcur hd
            obtain ⟨⟨h1, -, -⟩, -⟩ := hd
            dsimp only at h1
            (try simp only [h1])
            refine ⟨rfl, ?_⟩
            go_simp <;> (try go_bits) <;> with_reducible rfl
          · exact fun _ _ _ => rfl
          · rfl
          dsimp only [nA, cA]
          apply RGW.off (i := 3) rfl
          · (simp only [gA, gB, gC] <;> rfl)
          · intro γ u W hcur hd
            obtain ⟨⟨h2, -, -⟩, -⟩ := hd
            dsimp only at h2
            (try simp only [h2])
            simp [Region.wanted, yielded, undef, *]
          · rfl
          dsimp only [nA, cA]
          apply RGW.off (i := 4) rfl
          · (simp only [gA, gB, gC] <;> rfl)
          · intro γ u W hcur hd
            obtain ⟨⟨h2, -, -⟩, -⟩ := hd
            dsimp only at h2
            (try simp only [h2])
            simp [Region.wanted, yielded, undef, *]
          · rfl
          dsimp only [nA, cA]
          apply RGW.off (i := 5) rfl
          · (simp only [gA, gB, gC] <;> rfl)
          · intro γ u W hcur hd
            obtain ⟨⟨h2, -, -⟩, ⟨h3, -, -⟩, ⟨h4, -, -⟩, -⟩ := hd
            dsimp only at h2 h3 h4
            (try simp only [h2, h3, h4])
            simp [Region.wanted, yielded, undef, *]
          · rfl
          dsimp only [nA, cA]
          apply RGW.off (i := 6) rfl
          · (simp only [gA, gB, gC] <;> rfl)
          · intro γ u W hcur hd
            obtain ⟨⟨h2, -, -⟩, ⟨h5, -, -⟩, -⟩ := hd
            dsimp only at h2 h5
            (try simp only [h2, h5])
            simp [Region.wanted, yielded, undef, *]
          · rfl
          dsimp only [nA, cA]
          apply RGW.off (i := 7) rfl
          · (simp only [gA, gB, gC] <;> rfl)
          · intro γ u W hcur hd
            obtain ⟨⟨h6, -, -⟩, -⟩ := hd
            dsimp only at h6
            (try simp only [h6])
            simp [Region.wanted, yielded, undef, *]
          · rfl
          dsimp only [nA, cA]
          apply RGW.off (i := 8) rfl
          · (simp only [gA, gB, gC] <;> rfl)
          · intro γ u W hcur hd
            obtain ⟨⟨h6, -, -⟩, -⟩ := hd
            dsimp only at h6
            (try simp only [h6])
            simp [Region.wanted, yielded, undef, *]
          · rfl
          dsimp only [nA, cA]
          apply RGW.off (i := 9) rfl
          · (simp only [gA, gB, gC] <;> rfl)
          · intro γ u W hcur hd
            obtain ⟨⟨h6, -, -⟩, ⟨h7, -, -⟩, ⟨h8, -, -⟩, -⟩ := hd
            dsimp only at h6 h7 h8
            (try simp only [h6, h7, h8])
            simp [Region.wanted, yielded, undef, *]
          · rfl
          dsimp only [nA, cA]
          apply RGW.off (i := 10) rfl
          · (simp only [gA, gB, gC] <;> rfl)
          · intro γ u W hcur hd
            obtain ⟨⟨h2, -, -⟩, ⟨h6, -, -⟩, ⟨h9, -, -⟩, -⟩ := hd
            dsimp only at h2 h6 h9
            (try simp only [h2, h6, h9])
            simp [Region.wanted, yielded, undef, *]
          · rfl
          dsimp only [nA, cA]
          apply RGW.on (i := 11) rfl
          · (simp only [gA, gB, gC] <;> rfl)
          · intro γ u W hcur hd
            obtain ⟨⟨h2, -, -⟩, ⟨h10, -, -⟩, -⟩ := hd
            dsimp only at h2 h10
            (try simp only [h2, h10])
            refine ⟨rfl, ?_⟩
            go_simp <;> (try go_bits) <;> with_reducible rfl
          · exact fun _ _ _ => rfl
          · rfl
          dsimp only [nA, cA]
          apply RGW.on (i := 12) rfl
          · (simp only [gA, gB, gC] <;> rfl)
          · intro γ u W hcur hd
            obtain ⟨⟨h11, -, -⟩, -⟩ := hd
            dsimp only at h11
            (try simp only [h11])
            refine ⟨rfl, ?_⟩
            go_simp <;> (try go_bits) <;> with_reducible rfl
          · exact fun _ _ _ => rfl
          · rfl
          dsimp only [nA, cA]
          apply RGW.on (i := 13) rfl
          · (simp only [gA, gB, gC] <;> rfl)
          · intro γ u W hcur hd
            obtain ⟨⟨h12, -, -⟩, -⟩ := hd
            dsimp only at h12
            (try simp only [h12])
            refine ⟨?_, ?_⟩
            · (simp [Region.wanted, yielded, undef, *]; done)
            go_simp <;> (try go_bits) <;> with_reducible rfl
          · exact fun _ _ _ => rfl
          · rfl
          dsimp only [nA, cA]
          apply RGW.on (i := 14) rfl
          · (simp only [gA, gB, gC] <;> rfl)
          · intro γ u W hcur hd
            obtain ⟨⟨h12, -, -⟩, ⟨h13, -, -⟩, -⟩ := hd
            dsimp only at h12 h13
            (try simp only [h12, h13])
            refine ⟨?_, ?_⟩
            · (simp [Region.wanted, yielded, undef, *]; done)
            go_simp <;> (try go_bits) <;> with_reducible rfl
          · exact fun _ _ _ => rfl
          · rfl
          dsimp only [nA, cA]
          apply RGW.on (i := 15) rfl
          · (simp only [gA, gB, gC] <;> rfl)
          · intro γ u W hcur hd
            obtain ⟨⟨h12, -, -⟩, ⟨h14, -, -⟩, -⟩ := hd
            dsimp only at h12 h14
            (try simp only [h12, h14])
            refine ⟨?_, ?_⟩
            · (simp [Region.wanted, yielded, undef, *]; done)
            go_simp <;> (try go_bits) <;> with_reducible rfl
          · exact fun _ _ _ => rfl
          · rfl
          dsimp only [nA, cA]
          apply RGW.on (i := 16) rfl
          · (simp only [gA, gB, gC] <;> rfl)
          · intro γ u W hcur hd
            obtain ⟨⟨h15, -, -⟩, -⟩ := hd
            dsimp only at h15
            (try simp only [h15])
            refine ⟨?_, ?_⟩
            · (simp [Region.wanted, yielded, undef, *]; done)
            go_simp <;> (try go_bits) <;> with_reducible rfl
          · exact fun _ _ _ => rfl
          · rfl
          dsimp only [nA, cA]
          apply RGW.on (i := 17) rfl
          · (simp only [gA, gB, gC] <;> rfl)
          · intro γ u W hcur hd
            obtain ⟨⟨h15, -, -⟩, ⟨h16, -, -⟩, -⟩ := hd
            dsimp only at h15 h16
            (try simp only [h15, h16])
            refine ⟨?_, ?_⟩
            · (simp [Region.wanted, yielded, undef, *]; done)
            go_simp <;> (try go_bits) <;> with_reducible rfl
          · exact fun _ _ _ => rfl
          · rfl
          dsimp only [nA, cA]
          apply RGW.on (i := 18) rfl
          · (simp only [gA, gB, gC] <;> rfl)
          · intro γ u W hcur hd
            obtain ⟨⟨h15, -, -⟩, ⟨h17, -, -⟩, -⟩ := hd
            dsimp only at h15 h17
            (try simp only [h15, h17])
            refine ⟨?_, ?_⟩
            · (simp [Region.wanted, yielded, undef, *]; done)
            go_simp <;> (try go_bits) <;> with_reducible rfl
          · exact fun _ _ _ => rfl
          · rfl
          dsimp only [nA, cA]
          apply RGW.on (i := 19) rfl
          · (simp only [gA, gB, gC] <;> rfl)
          · intro γ u W hcur hd
            obtain ⟨⟨h18, -, -⟩, -⟩ := hd
            dsimp only at h18
            (try simp only [h18])
            refine ⟨?_, ?_⟩
            · (simp [Region.wanted, yielded, undef, *]; done)
            go_simp <;> (try go_bits) <;> with_reducible rfl
          · exact fun _ _ _ => rfl
          · rfl
          dsimp only [nA, cA]
          apply RGW.on (i := 20) rfl
          · (simp only [gA, gB, gC] <;> rfl)
          · intro γ u W hcur hd
            obtain ⟨⟨h18, -, -⟩, -⟩ := hd
            dsimp only at h18
            (try simp only [h18])
            refine ⟨?_, ?_⟩
            · (simp [Region.wanted, yielded, undef, *]; done)
            go_simp <;> (try go_bits) <;> with_reducible rfl
          · exact fun _ _ _ => rfl
          · rfl
          dsimp only [nA, cA]
          apply RGW.on (i := 21) rfl
          · (simp only [gA, gB, gC] <;> rfl)
          · intro γ u W hcur hd
            obtain ⟨⟨h18, -, -⟩, ⟨h20, -, -⟩, -⟩ := hd
            dsimp only at h18 h20
            (try simp only [h18, h20])
            refine ⟨?_, ?_⟩
            · (simp [Region.wanted, yielded, undef, *]; done)
            go_simp <;> (try go_bits) <;> with_reducible rfl
          · exact fun _ _ _ => rfl
          · rfl
          dsimp only [nA, cA]
          apply RGW.on (i := 22) rfl
          · (simp only [gA, gB, gC] <;> rfl)
          · intro γ u W hcur hd
            obtain ⟨⟨h18, -, -⟩, -⟩ := hd
            dsimp only at h18
            (try simp only [h18])
            refine ⟨?_, ?_⟩
            · (simp [Region.wanted, yielded, undef, *]; done)
            go_simp <;> (try go_bits) <;> with_reducible rfl
          · exact fun _ _ _ => rfl
          · rfl
          dsimp only [nA, cA]
          apply RGW.on (i := 23) rfl
          · (simp only [gA, gB, gC] <;> rfl)
          · intro γ u W hcur hd
            obtain ⟨⟨h18, -, -⟩, ⟨h22, -, -⟩, -⟩ := hd
            dsimp only at h18 h22
            (try simp only [h18, h22])
            refine ⟨?_, ?_⟩
            · (simp [Region.wanted, yielded, undef, *]; done)
            go_simp <;> (try go_bits) <;> with_reducible rfl
          · exact fun _ _ _ => rfl
          · rfl
          dsimp only [nA, cA]
          apply RGW.on (i := 24) rfl
          · (simp only [gA, gB, gC] <;> rfl)
          · intro γ u W hcur hd
            obtain ⟨⟨h18, -, -⟩, ⟨h21, -, -⟩, ⟨h23, -, -⟩, -⟩ := hd
            dsimp only at h18 h21 h23
            (try simp only [h18, h21, h23])
            refine ⟨?_, ?_⟩
            · (simp [Region.wanted, yielded, undef, *]; done)
            go_simp <;> (try go_bits) <;> with_reducible rfl
          · exact fun _ _ _ => rfl
          · rfl
          dsimp only [nA, cA]
          apply RGW.on (i := 25) rfl
          · (simp only [gA, gB, gC] <;> rfl)
          · intro γ u W hcur hd
            obtain ⟨⟨h18, -, -⟩, ⟨h24, -, -⟩, -⟩ := hd
            dsimp only at h18 h24
            (try simp only [h18, h24])
            refine ⟨?_, ?_⟩
            · (simp [Region.wanted, yielded, undef, *]; done)
            go_simp <;> (try go_bits) <;> with_reducible rfl
          · exact fun _ _ _ => rfl
          · rfl
          dsimp only [nA, cA]
          apply RGW.on (i := 26) rfl
          · (simp only [gA, gB, gC] <;> rfl)
          · intro γ u W hcur hd
            obtain ⟨⟨h18, -, -⟩, ⟨h25, -, -⟩, -⟩ := hd
            dsimp only at h18 h25
            (try simp only [h18, h25])
            refine ⟨?_, ?_⟩
            · (simp [Region.wanted, yielded, undef, *]; done)
            go_simp <;> (try go_bits) <;> with_reducible rfl
          · exact fun _ _ _ => rfl
          · rfl
          dsimp only [nA, cA]
          apply RGW.on (i := 27) rfl
          · (simp only [gA, gB, gC] <;> rfl)
          · intro γ u W hcur hd
            obtain ⟨⟨h18, -, -⟩, -⟩ := hd
            dsimp only at h18
            (try simp only [h18])
            refine ⟨?_, ?_⟩
            · (simp [Region.wanted, yielded, undef, *]; done)
            go_simp <;> (try go_bits) <;> with_reducible rfl
          · exact fun _ _ _ => rfl
          · rfl
          dsimp only [nA, cA]
          apply RGW.call (i := 28) rfl
          · (simp only [gA, gB, gC] <;> rfl)
          · intro γ u W hcur hd
            obtain ⟨⟨h18, -, -⟩, ⟨h26, -, -⟩, ⟨h27, -, -⟩, -⟩ := hd
            dsimp only at h18 h26 h27
            (try simp only [h18, h26, h27])
            refine ⟨?_, fun K hK => ?_⟩
            · (simp [Region.wanted, yielded, undef, *]; done)
            go_simp
            (go_at_call 48; (with_reducible refine (hq _).mono ?_); rintro e w3 ⟨rfl, hb3⟩; replace hb3 := bl_tt hb3)
            (try dsimp only)
            exact hK.out _ _ rfl (by (with_reducible (repeat' (first | assumption | apply jA | apply jB | apply jC | apply jD | apply jE | apply jF | apply hb3 | omega | (simp; done) | (simp; omega) | (dsimp only; omega)))))
          · exact fun _ _ _ => rfl
          · rfl
          dsimp only [nA, cA]
          apply RGW.on (i := 29) rfl
          · (simp only [gA, gB, gC] <;> rfl)
          · intro γ u W hcur hd
            obtain ⟨⟨h18, -, -⟩, ⟨h19, -, -⟩, ⟨h28, -, -⟩, -⟩ := hd
            dsimp only at h18 h19 h28
            (try simp only [h18, h19, h28])
            refine ⟨?_, ?_⟩
            · (simp [Region.wanted, yielded, undef, *]; done)
            go_simp <;> (try go_bits) <;> with_reducible rfl
          · exact fun _ _ _ => rfl
          · rfl
          dsimp only [nA, cA]
          apply RGW.on (i := 30) rfl
          · (simp only [gA, gB, gC] <;> rfl)
          · intro γ u W hcur hd
            obtain ⟨⟨h15, -, -⟩, ⟨h18, -, -⟩, ⟨h29, -, -⟩, -⟩ := hd
            dsimp only at h15 h18 h29
            (try simp only [h15, h18, h29])
            refine ⟨?_, ?_⟩
            · (simp [Region.wanted, yielded, undef, *]; done)
            go_simp <;> (try go_bits) <;> with_reducible rfl
          · exact fun _ _ _ => rfl
          · rfl
          dsimp only [nA, cA]
          apply RGW.on (i := 31) rfl
          · (simp only [gA, gB, gC] <;> rfl)
          · intro γ u W hcur hd
            obtain ⟨⟨h12, -, -⟩, ⟨h15, -, -⟩, ⟨h30, -, -⟩, -⟩ := hd
            dsimp only at h12 h15 h30
            (try simp only [h12, h15, h30])
            refine ⟨?_, ?_⟩
            · (simp [Region.wanted, yielded, undef, *]; done)
            go_simp <;> (try go_bits) <;> with_reducible rfl
          · exact fun _ _ _ => rfl
          · rfl
          dsimp only [nA, cA]
          apply RGW.on (i := 32) rfl
          · (simp only [gA, gB, gC] <;> rfl)
          · intro γ u W hcur hd
            obtain ⟨⟨h12, -, -⟩, ⟨h31, -, -⟩, -⟩ := hd
            dsimp only at h12 h31
            (try simp only [h12, h31])
            refine ⟨rfl, ?_⟩
            go_simp <;> (try go_bits) <;> with_reducible rfl
          · exact fun _ _ _ => rfl
          · rfl
          dsimp only [nA, cA]
          refine RGW.fin (fun γ u x4 hx4 hd hdis => ?_)
          obtain ⟨⟨h0, -, -⟩, ⟨h1, -, -⟩, ⟨h2, -, -⟩, ⟨h3, -, -⟩, ⟨h4, -, -⟩, ⟨h5, -, -⟩, ⟨h6, -, -⟩, ⟨h7, -, -⟩, ⟨h8, -, -⟩, ⟨h9, -, -⟩, ⟨h10, -, -⟩, ⟨h11, -, -⟩, ⟨h12, -, -⟩, ⟨h13, -, -⟩, ⟨h14, -, -⟩, ⟨h15, -, -⟩, ⟨h16, -, -⟩, ⟨h17, -, -⟩, ⟨h18, -, -⟩, ⟨h19, -, -⟩, ⟨h20, -, -⟩, ⟨h21, -, -⟩, ⟨h22, -, -⟩, ⟨h23, -, -⟩, ⟨h24, -, -⟩, ⟨h25, -, -⟩, ⟨h26, -, -⟩, ⟨h27, -, -⟩, ⟨h28, -, -⟩, ⟨h29, -, -⟩, ⟨h30, -, -⟩, ⟨h31, -, -⟩, ⟨h32, -, -⟩, -⟩ := hd
          dsimp only at h0 h1 h2 h3 h4 h5 h6 h7 h8 h9 h10 h11 h12 h13 h14 h15 h16 h17 h18 h19 h20 h21 h22 h23 h24 h25 h26 h27 h28 h29 h30 h31 h32
          clear hdis
          simp only [h0, h1, h2, h3, h4, h5, h6, h7, h8, h9, h10, h11, h12, h13, h14, h15, h16, h17, h18, h19, h20, h21, h22, h23, h24, h25, h26, h27, h28, h29, h30, h31, h32]
          clear h32 h31 h30 h29 h28 h27 h26 h25 h24 h23 h22 h21 h20 h19 h18 h17 h16 h15 h14 h13 h12 h11 h10 h9 h8 h7 h6 h5 h4 h3 h2 h1 h0
          clear u
          simp only [List.map_nil]
          refine PlanW.done ?_
          have hb3 := bl_tt hx4
          clear c1 c2 c3
          apply absTB6 (w0 := w) (g0 := w.heap.size) (g1 := w.heap.size + 1) (g2 := w.heap.size + 2) (g3 := gk3) (g4 := gk4) (g5 := gk5)
          iterate 7 (focus ((with_reducible (repeat' (first | assumption | apply jA | apply jB | apply jC | apply jD | apply jE | apply jF | apply hb3 | apply jG | apply jH | apply jI | apply jJ | apply jK | apply hb3x | (apply jL; first | (simp; done) | rfl) | apply jM | apply jN | apply jO | apply jP | apply jQ | apply jR | apply jS | apply jT (hb := hb3 _ (jA _)) | omega | (simp; done) | (simp; omega) | (dsimp only; omega)))); done))
          intro x5 hb0' k0' k1' k2' k3' k4' k5'
          (try simp only [List.setIfInBounds_toArray, List.set_cons_zero, List.set_cons_succ] at k0' k1' k2' k3' k4' k5')
          try clear hb3
          try clear Lk0
          try clear Fk0
          try clear Qk0
          try clear Lk1
          try clear Fk1
          try clear Qk1
          try clear Lk2
          try clear Fk2
          try clear Qk2
          try clear Lk3
          try clear Fk3
          try clear Qk3
          try clear Lk4
          try clear Fk4
          try clear Qk4
          try clear Lk5
          try clear Fk5
          try clear Qk5
          try clear hb0
          try clear k0
          try clear k1
          try clear k2
          try clear k3
          try clear k4
          try clear k5
          have hb0 := hb0'; clear hb0'
          have k0 := k0'; clear k0'
          have k1 := k1'; clear k1'
          have k2 := k2'; clear k2'
          have k3 := k3'; clear k3'
          have k4 := k4'; clear k4'
          have k5 := k5'; clear k5'
          have Lk0 := k0.later
          have Fk0 := k0.laterF
          have Qk0 := k0.lt
          have Lk1 := k1.later
          have Fk1 := k1.laterF
          have Qk1 := k1.lt
          have Lk2 := k2.later
          have Fk2 := k2.laterF
          have Qk2 := k2.lt
          have Lk3 := k3.later
          have Fk3 := k3.laterF
          have Qk3 := k3.lt
          have Lk4 := k4.later
          have Fk4 := k4.laterF
          have Qk4 := k4.lt
          have Lk5 := k5.later
          have Fk5 := k5.laterF
          have Qk5 := k5.lt
          have hb : (0 : Int) = 0 := rfl
          clear hb
          go_upto_region 16 with (go_at_call 17; (with_reducible refine (hbe.out _ (bl_tr hb0 (by (with_reducible (repeat' (first | assumption | apply jA | apply jB | apply jC | apply jD | apply jE | apply jF | apply hb3 | omega | (simp; done) | (simp; omega) | (dsimp only; omega))))))).mono ?_); rintro e w3 ⟨rfl, hb3⟩; replace hb3 := bl_tt hb3)
          apply absB6 (w0 := w) (g0 := w.heap.size) (g1 := w.heap.size + 1) (g2 := w.heap.size + 2) (g3 := gk3) (g4 := gk4) (g5 := gk5)
          iterate 7 (focus ((with_reducible (repeat' (first | assumption | apply jA | apply jB | apply jC | apply jD | apply jE | apply jF | apply hb3 | apply jG | apply jH | apply jI | apply jJ | apply jK | apply hb3x | (apply jL; first | (simp; done) | rfl) | apply jM | apply jN | apply jO | apply jP | apply jQ | apply jR | apply jS | apply jT (hb := hb3 _ (jA _)) | omega | (simp; done) | (simp; omega) | (dsimp only; omega)))); done))
          intro y1 hb0' k0' k1' k2' k3' k4' k5'
          (try simp only [List.setIfInBounds_toArray, List.set_cons_zero, List.set_cons_succ] at k0' k1' k2' k3' k4' k5')
          try clear hb3
          try clear Lk0
          try clear Fk0
          try clear Qk0
          try clear Lk1
          try clear Fk1
          try clear Qk1
          try clear Lk2
          try clear Fk2
          try clear Qk2
          try clear Lk3
          try clear Fk3
          try clear Qk3
          try clear Lk4
          try clear Fk4
          try clear Qk4
          try clear Lk5
          try clear Fk5
          try clear Qk5
          try clear hb0
          try clear k0
          try clear k1
          try clear k2
          try clear k3
          try clear k4
          try clear k5
          have hb0 := hb0'; clear hb0'
          have k0 := k0'; clear k0'
          have k1 := k1'; clear k1'
          have k2 := k2'; clear k2'
          have k3 := k3'; clear k3'
          have k4 := k4'; clear k4'
          have k5 := k5'; clear k5'
          have Lk0 := k0.later
          have Fk0 := k0.laterF
          have Qk0 := k0.lt
          have Lk1 := k1.later
          have Fk1 := k1.laterF
          have Qk1 := k1.lt
          have Lk2 := k2.later
          have Fk2 := k2.laterF
          have Qk2 := k2.lt
          have Lk3 := k3.later
          have Fk3 := k3.laterF
          have Qk3 := k3.lt
          have Lk4 := k4.later
          have Fk4 := k4.laterF
          have Qk4 := k4.lt
          have Lk5 := k5.later
          have Fk5 := k5.laterF
          have Qk5 := k5.lt
          go_upto_region 18 with (go_at_call 29; (with_reducible refine (hme.out _).mono ?_); rintro e w3 ⟨rfl, hb3⟩; replace hb3 := bl_tt hb3)
          apply absB6 (w0 := w) (g0 := w.heap.size) (g1 := w.heap.size + 1) (g2 := w.heap.size + 2) (g3 := gk3) (g4 := gk4) (g5 := gk5)
          iterate 7 (focus ((with_reducible (repeat' (first | assumption | apply jA | apply jB | apply jC | apply jD | apply jE | apply jF | apply hb3 | apply jG | apply jH | apply jI | apply jJ | apply jK | apply hb3x | (apply jL; first | (simp; done) | rfl) | apply jM | apply jN | apply jO | apply jP | apply jQ | apply jR | apply jS | apply jT (hb := hb3 _ (jA _)) | omega | (simp; done) | (simp; omega) | (dsimp only; omega)))); done))
          intro y2 hb0' k0' k1' k2' k3' k4' k5'
          (try simp only [List.setIfInBounds_toArray, List.set_cons_zero, List.set_cons_succ] at k0' k1' k2' k3' k4' k5')
          try clear hb3
          try clear Lk0
          try clear Fk0
          try clear Qk0
          try clear Lk1
          try clear Fk1
          try clear Qk1
          try clear Lk2
          try clear Fk2
          try clear Qk2
          try clear Lk3
          try clear Fk3
          try clear Qk3
          try clear Lk4
          try clear Fk4
          try clear Qk4
          try clear Lk5
          try clear Fk5
          try clear Qk5
          try clear hb0
          try clear k0
          try clear k1
          try clear k2
          try clear k3
          try clear k4
          try clear k5
          have hb0 := hb0'; clear hb0'
          have k0 := k0'; clear k0'
          have k1 := k1'; clear k1'
          have k2 := k2'; clear k2'
          have k3 := k3'; clear k3'
          have k4 := k4'; clear k4'
          have k5 := k5'; clear k5'
          have Lk0 := k0.later
          have Fk0 := k0.laterF
          have Qk0 := k0.lt
          have Lk1 := k1.later
          have Fk1 := k1.laterF
          have Qk1 := k1.lt
          have Lk2 := k2.later
          have Fk2 := k2.laterF
          have Qk2 := k2.lt
          have Lk3 := k3.later
          have Fk3 := k3.laterF
          have Qk3 := k3.lt
          have Lk4 := k4.later
          have Fk4 := k4.laterF
          have Qk4 := k4.lt
          have Lk5 := k5.later
          have Fk5 := k5.laterF
          have Qk5 := k5.lt
          by_cases hm : me = 0
          · subst hm
            obtain ⟨hs1, hs2, hrc, hrb⟩ := fG.out (by simp) (by simp)
            clear fE fE2 fG
            replace hrc := Lib.hid hrc
            replace hrb := Lib.hid hrb
            replace hs1 := Lib.hid hs1
            replace hs2 := Lib.hid hs2
            go_upto_region 20 with fail
            apply absB6 (w0 := w) (g0 := w.heap.size) (g1 := w.heap.size + 1) (g2 := w.heap.size + 2) (g3 := gk3) (g4 := gk4) (g5 := gk5)
            iterate 7 (focus ((with_reducible (repeat' (first | assumption | apply jA | apply jB | apply jC | apply jD | apply jE | apply jF | apply hb3 | apply jG | apply jH | apply jI | apply jJ | apply jK | apply hb3x | (apply jL; first | (simp; done) | rfl) | apply jM | apply jN | apply jO | apply jP | apply jQ | apply jR | apply jS | apply jT (hb := hb3 _ (jA _)) | omega | (simp; done) | (simp; omega) | (dsimp only; omega)))); done))
            intro y3 hb0' k0' k1' k2' k3' k4' k5'
            (try simp only [List.setIfInBounds_toArray, List.set_cons_zero, List.set_cons_succ] at k0' k1' k2' k3' k4' k5')
            try clear hb3
            try clear Lk0
            try clear Fk0
            try clear Qk0
            try clear Lk1
            try clear Fk1
            try clear Qk1
            try clear Lk2
            try clear Fk2
            try clear Qk2
            try clear Lk3
            try clear Fk3
            try clear Qk3
            try clear Lk4
            try clear Fk4
            try clear Qk4
            try clear Lk5
            try clear Fk5
            try clear Qk5
            try clear hb0
            try clear k0
            try clear k1
            try clear k2
            try clear k3
            try clear k4
            try clear k5
            have hb0 := hb0'; clear hb0'
            have k0 := k0'; clear k0'
            have k1 := k1'; clear k1'
            have k2 := k2'; clear k2'
            have k3 := k3'; clear k3'
            have k4 := k4'; clear k4'
            have k5 := k5'; clear k5'
            have Lk0 := k0.later
            have Fk0 := k0.laterF
            have Qk0 := k0.lt
            have Lk1 := k1.later
            have Fk1 := k1.laterF
            have Qk1 := k1.lt
            have Lk2 := k2.later
            have Fk2 := k2.laterF
            have Qk2 := k2.lt
            have Lk3 := k3.later
            have Fk3 := k3.laterF
            have Qk3 := k3.lt
            have Lk4 := k4.later
            have Fk4 := k4.laterF
            have Qk4 := k4.lt
            have Lk5 := k5.later
            have Fk5 := k5.laterF
            have Qk5 := k5.lt
            refine wp_any (w0 := y3) ⟨[12, 13], [], [some 128, some 129, some 130, some 131, some 132, some 133, some 134, some 135, some 136, some 137, some 14, some 15, none, none], [[], [], [], [2], [0, 1, 2, 3], [], [], [], [7], [0, 1, 2, 3, 4, 5, 6, 7, 8], [], [], [0, 1, 2, 3, 4, 5, 6, 7, 8, 9, 10, 11], [0, 1, 2, 3, 4, 5, 6, 7, 8, 9, 10, 11, 12]], [[], [], [], [2], [0, 1, 3], [], [], [], [7], [5, 6, 8], [], [], [], []]⟩ (fun γ => [(γ 10).n, (γ 11).n]) (by kernel_rfl) (by kernel_rfl) (by (with_reducible (repeat' (first | assumption | apply jA | apply jB | apply jC | apply jD | apply jE | apply jF | apply hb3 | omega | (simp; done) | (simp; omega) | (dsimp only; omega))))) (fun u => by simp only [putD, Act.put, List.setIfInBounds_toArray, List.set_cons_zero, List.set_cons_succ, Nat.zero_add, Nat.reduceAdd]; rfl) ?_
            apply RGW.on (i := 0) rfl
            · (simp only [gA, gB, gC] <;> rfl)
            · intro γ u W hcur hd
              clear hd
              (try dsimp only)
              refine ⟨rfl, ?_⟩
              go_simp <;> (try go_bits) <;> with_reducible rfl
            · exact fun _ _ _ => rfl
            · rfl
            dsimp only [nA, cA]
            apply RGW.on (i := 1) rfl
            · (simp only [gA, gB, gC] <;> rfl)
            · intro γ u W hcur hd
              clear hd
              (try dsimp only)
              refine ⟨rfl, ?_⟩
              go_simp <;> (try go_bits) <;> with_reducible rfl
            · exact fun _ _ _ => rfl
            · rfl
            dsimp only [nA, cA]
            apply RGW.on (i := 2) rfl
            · (simp only [gA, gB, gC] <;> rfl)
            · intro γ u W hcur hd
              clear hd
              (try dsimp only)
              refine ⟨rfl, ?_⟩
              go_simp <;> (try go_bits) <;> with_reducible rfl
            · exact fun _ _ _ => rfl
            · rfl
            dsimp only [nA, cA]
            apply RGW.on (i := 3) rfl
            · (simp only [gA, gB, gC] <;> rfl)
            · intro γ u W hcur hd
              obtain ⟨⟨h2, -, -⟩, -⟩ := hd
              dsimp only at h2
              (try simp only [h2])
              refine ⟨rfl, ?_⟩
              go_simp <;> (try go_bits) <;> with_reducible rfl
            · exact fun _ _ _ => rfl
            · rfl
            dsimp only [nA, cA]
            apply RGW.call (i := 4) rfl
            · (simp only [gA, gB, gC] <;> rfl)
            · intro γ u W hcur hd
              obtain ⟨⟨h0, -, -⟩, ⟨h1, -, -⟩, ⟨h3, -, -⟩, -⟩ := hd
              dsimp only at h0 h1 h3
              (try simp only [h0, h1, h3])
              refine ⟨rfl, fun K hK => ?_⟩
              go_simp
              (go_at_call 49; (with_reducible refine (hrc.out _).mono ?_); rintro e w3 ⟨rfl, hb3⟩; replace hb3 := bl_tt hb3)
              (try dsimp only)
              exact hK.out _ _ rfl (by (with_reducible (repeat' (first | assumption | apply jA | apply jB | apply jC | apply jD | apply jE | apply jF | apply hb3 | omega | (simp; done) | (simp; omega) | (dsimp only; omega)))))
            · exact fun _ _ _ => rfl
            · rfl
            dsimp only [nA, cA]
            apply RGW.on (i := 5) rfl
            · (simp only [gA, gB, gC] <;> rfl)
            · intro γ u W hcur hd
              clear hd
              (try dsimp only)
              refine ⟨rfl, ?_⟩
              go_simp <;> (try go_bits) <;> with_reducible rfl
            · exact fun _ _ _ => rfl
            · rfl
            dsimp only [nA, cA]
            apply RGW.on (i := 6) rfl
            · (simp only [gA, gB, gC] <;> rfl)
            · intro γ u W hcur hd
              clear hd
              (try dsimp only)
              refine ⟨rfl, ?_⟩
              go_simp <;> (try go_bits) <;> with_reducible rfl
            · exact fun _ _ _ => rfl
            · rfl
            dsimp only [nA, cA]
            apply RGW.on (i := 7) rfl
            · (simp only [gA, gB, gC] <;> rfl)
            · intro γ u W hcur hd
              clear hd
              (try dsimp only)
              refine ⟨rfl, ?_⟩
              go_simp <;> (try go_bits) <;> with_reducible rfl
            · exact fun _ _ _ => rfl
            · rfl
            dsimp only [nA, cA]
            apply RGW.on (i := 8) rfl
            · (simp only [gA, gB, gC] <;> rfl)
            · intro γ u W hcur hd
              obtain ⟨⟨h7, -, -⟩, -⟩ := hd
              dsimp only at h7
              (try simp only [h7])
              refine ⟨rfl, ?_⟩
              go_simp <;> (try go_bits) <;> with_reducible rfl
            · exact fun _ _ _ => rfl
            · rfl
            dsimp only [nA, cA]
            apply RGW.call (i := 9) rfl
            · (simp only [gA, gB, gC] <;> rfl)
            · intro γ u W hcur hd
              obtain ⟨⟨h5, -, -⟩, ⟨h6, -, -⟩, ⟨h8, -, -⟩, -⟩ := hd
              dsimp only at h5 h6 h8
              (try simp only [h5, h6, h8])
              refine ⟨rfl, fun K hK => ?_⟩
              go_simp
              (go_at_call 50; (with_reducible refine (hrb.out _).mono ?_); rintro e w3 ⟨rfl, hb3⟩; replace hb3 := bl_tt hb3)
              (try dsimp only)
              exact hK.out _ _ rfl (by (with_reducible (repeat' (first | assumption | apply jA | apply jB | apply jC | apply jD | apply jE | apply jF | apply hb3 | omega | (simp; done) | (simp; omega) | (dsimp only; omega)))))
            · exact fun _ _ _ => rfl
            · rfl
            dsimp only [nA, cA]
            apply RGW.alloc (i := 10) rfl
            · (simp only [gA, gB, gC] <;> rfl)
            · intro γ u W hcur hd
              clear hd
              (try dsimp only)
              refine ⟨rfl, fun K hK => ?_⟩
              go_simp
              exact hK.out _ _ rfl rfl
            · exact fun _ _ _ => rfl
            · rfl
            · rfl
            dsimp only [nA, cA]
            apply RGW.alloc (i := 11) rfl
            · (simp only [gA, gB, gC] <;> rfl)
            · intro γ u W hcur hd
              clear hd
              (try dsimp only)
              refine ⟨rfl, fun K hK => ?_⟩
              go_simp
              exact hK.out _ _ rfl rfl
            · exact fun _ _ _ => rfl
            · rfl
            · rfl
            dsimp only [nA, cA]
            refine RGW.skip (i := 12) rfl rfl ?_
            dsimp only [nA, cA]
            refine RGW.skip (i := 13) rfl rfl ?_
            dsimp only [nA, cA]
            refine RGW.fin (fun γ u y4 hy4 hd hdis => ?_)
            obtain ⟨⟨h0, -, -⟩, ⟨h1, -, -⟩, ⟨h2, -, -⟩, ⟨h3, -, -⟩, ⟨h4, -, -⟩, ⟨h5, -, -⟩, ⟨h6, -, -⟩, ⟨h7, -, -⟩, ⟨h8, -, -⟩, ⟨h9, -, -⟩, ⟨h10, r10, b10⟩, ⟨h11, r11, b11⟩, -⟩ := hd
            dsimp only at h0 h1 h2 h3 h4 h5 h6 h7 h8 h9 h10 h11 r10 r11 b10 b11
            have n10_11 := hdis 10 11 rfl rfl (Nat.lt_of_lt_of_eq (by decide : 10 < 14) (by kernel_rfl)) (Nat.lt_of_lt_of_eq (by decide : 11 < 14) (by kernel_rfl)) (by decide) _ (List.mem_singleton.2 rfl) _ (List.mem_singleton.2 rfl)
            clear hdis
            simp only [h0, h1, h2, h3, h4, h5, h6, h7, h8, h9, h10, h11]
            clear h11 h10 h9 h8 h7 h6 h5 h4 h3 h2 h1 h0
            replace b10 := b10 _ (List.mem_singleton.2 rfl)
            generalize hγ10 : (γ 10).n = g10 at *
            clear hγ10
            replace b11 := b11 _ (List.mem_singleton.2 rfl)
            generalize hγ11 : (γ 11).n = g11 at *
            clear hγ11
            clear u
            simp only [List.map_cons, List.map_nil]
            apply PlanW.step
            · (simp only [gA, gB, gC] <;> rfl)
            · rfl
            intro K hK
            refine wp_store_keep (X := [g10, g11]) (w0 := y4) rfl rfl rfl (by with_reducible first | exact bx_refl _ _ | assumption) (by with_reducible first | assumption | (apply Blk.below (hb := hy4); assumption)) (by simp) (by kernel_rfl) (by rfl) (by simp [Value.oneCell']) (fun hres1 hcur => ?_)
            refine hK.out _ _ hcur (fun _ => ?_)
            clear hK K
            try simp only [Act.put, List.setIfInBounds_toArray, List.set_cons_zero, List.set_cons_succ]
            apply PlanW.step
            · (simp only [gA, gB, gC] <;> rfl)
            · rfl
            intro K hK
            refine wp_store_keep (X := [g10, g11]) (w0 := y4) rfl rfl rfl (by with_reducible first | exact bx_refl _ _ | assumption) (by with_reducible first | assumption | (apply Blk.below (hb := hy4); assumption)) (by simp) (by kernel_rfl) (by rfl) (by simp [Value.oneCell']) (fun hres2 hcur => ?_)
            refine hK.out _ _ hcur (fun _ => ?_)
            clear hK K
            try simp only [Act.put, List.setIfInBounds_toArray, List.set_cons_zero, List.set_cons_succ]
            refine PlanW.done ?_
            have hb3 := bl_tt hy4
            apply absTB8 (w0 := w) (g0 := w.heap.size) (g1 := w.heap.size + 1) (g2 := w.heap.size + 2) (g3 := gk3) (g4 := gk4) (g5 := gk5) (g6 := g10) (g7 := g11)
            iterate 9 (focus ((with_reducible (repeat' (first | assumption | apply jA | apply jB | apply jC | apply jD | apply jE | apply jF | apply hb3 | apply jG | apply jH | apply jI | apply jJ | apply jK | apply hb3x | (apply jL; first | (simp; done) | rfl) | apply jM | apply jN | apply jO | apply jP | apply jQ | apply jR | apply jS | apply jT (hb := hb3 _ (jA _)) | omega | (simp; done) | (simp; omega) | (dsimp only; omega)))); done))
            intro y5 hb0' k0' k1' k2' k3' k4' k5' k6' k7'
            (try simp only [List.setIfInBounds_toArray, List.set_cons_zero, List.set_cons_succ] at k0' k1' k2' k3' k4' k5' k6' k7')
            try clear hb3
            try clear Lk0
            try clear Fk0
            try clear Qk0
            try clear Lk1
            try clear Fk1
            try clear Qk1
            try clear Lk2
            try clear Fk2
            try clear Qk2
            try clear Lk3
            try clear Fk3
            try clear Qk3
            try clear Lk4
            try clear Fk4
            try clear Qk4
            try clear Lk5
            try clear Fk5
            try clear Qk5
            try clear hb0
            try clear k0
            try clear k1
            try clear k2
            try clear k3
            try clear k4
            try clear k5
            try clear k6
            try clear k7
            have hb0 := hb0'; clear hb0'
            have k0 := k0'; clear k0'
            have k1 := k1'; clear k1'
            have k2 := k2'; clear k2'
            have k3 := k3'; clear k3'
            have k4 := k4'; clear k4'
            have k5 := k5'; clear k5'
            have k6 := k6'; clear k6'
            have k7 := k7'; clear k7'
            have Lk0 := k0.later
            have Fk0 := k0.laterF
            have Qk0 := k0.lt
            have Lk1 := k1.later
            have Fk1 := k1.laterF
            have Qk1 := k1.lt
            have Lk2 := k2.later
            have Fk2 := k2.laterF
            have Qk2 := k2.lt
            have Lk3 := k3.later
            have Fk3 := k3.laterF
            have Qk3 := k3.lt
            have Lk4 := k4.later
            have Fk4 := k4.laterF
            have Qk4 := k4.lt
            have Lk5 := k5.later
            have Fk5 := k5.laterF
            have Qk5 := k5.lt
            have Lk6 := k6.later
            have Fk6 := k6.laterF
            have Qk6 := k6.lt
            have Lk7 := k7.later
            have Fk7 := k7.laterF
            have Qk7 := k7.lt
            have hb3 := fun (w : World) (h : Below w.heap.size w y5) => h
            go_wp2_with (go_at_call 51; (with_reducible first | refine (hs1.out _).mono ?_ | refine (hs2.out _).mono ?_); rintro e w3 ⟨rfl, hb4⟩; replace hb3 := fun w h => bl_tt hb4 w (hb3 w h); have hv := hb3 y5 (by (with_reducible (repeat' (first | assumption | apply jA | apply jB | apply jC | apply jD | apply jE | apply jF | apply hb3 | omega | (simp; done) | (simp; omega) | (dsimp only; omega))))))
            go_ret
            exact ⟨rfl, bl_tr hb0 hv⟩
          · obtain ⟨⟨rfl, rfl⟩, rfl, rfl⟩ := fE2.out (by simp) hm
            clear fE fE2 fG
            have hm' := bne_ne hm
            replace hm := Lib.hid hm
            go_wp2
            go_ret
            exact ⟨by simp, hb0⟩
        · obtain ⟨rfl, hz⟩ := fB.out (by simp) (by simp) hb
          cases hz
          clear fN fM fB fS hsq
          have hbb := bne_ne hb
          have hbe' := beq_ne hb
          go_wp2
          refine wp_any (w0 := x3) ⟨[], [], [some 67, some 68, some 69, some 70, some 71, some 72, some 73, some 74, some 75, some 76, some 77, some 78, some 79, some 80, some 81, some 82, some 83, some 84, some 85, some 86, some 87, some 88, some 89, some 90, some 91, some 92, some 93, some 94, some 95, some 96, some 97, some 98, some 99], [[], [0], [0, 1], [0, 1, 2], [0, 1, 2], [0, 1, 2, 3, 4], [0, 1, 2, 3, 4, 5], [0, 1, 2, 3, 4, 5, 6], [0, 1, 2, 3, 4, 5, 6], [0, 1, 2, 3, 4, 5, 6, 7, 8], [0, 1, 2, 3, 4, 5, 6, 7, 8, 9], [0, 1, 2, 3, 4, 5, 6, 7, 8, 9, 10], [0, 1, 2, 3, 4, 5, 6, 7, 8, 9, 10, 11], [0, 1, 2, 3, 4, 5, 6, 7, 8, 9, 10, 11, 12], [0, 1, 2, 3, 4, 5, 6, 7, 8, 9, 10, 11, 12, 13], [0, 1, 2, 3, 4, 5, 6, 7, 8, 9, 10, 11, 12, 13, 14], [0, 1, 2, 3, 4, 5, 6, 7, 8, 9, 10, 11, 12, 13, 14, 15], [0, 1, 2, 3, 4, 5, 6, 7, 8, 9, 10, 11, 12, 13, 14, 15, 16], [0, 1, 2, 3, 4, 5, 6, 7, 8, 9, 10, 11, 12, 13, 14, 15, 16, 17], [0, 1, 2, 3, 4, 5, 6, 7, 8, 9, 10, 11, 12, 13, 14, 15, 16, 17, 18], [0, 1, 2, 3, 4, 5, 6, 7, 8, 9, 10, 11, 12, 13, 14, 15, 16, 17, 18], [0, 1, 2, 3, 4, 5, 6, 7, 8, 9, 10, 11, 12, 13, 14, 15, 16, 17, 18, 20], [0, 1, 2, 3, 4, 5, 6, 7, 8, 9, 10, 11, 12, 13, 14, 15, 16, 17, 18], [0, 1, 2, 3, 4, 5, 6, 7, 8, 9, 10, 11, 12, 13, 14, 15, 16, 17, 18, 22], [0, 1, 2, 3, 4, 5, 6, 7, 8, 9, 10, 11, 12, 13, 14, 15, 16, 17, 18, 20, 21, 22, 23], [0, 1, 2, 3, 4, 5, 6, 7, 8, 9, 10, 11, 12, 13, 14, 15, 16, 17, 18, 20, 21, 22, 23, 24], [0, 1, 2, 3, 4, 5, 6, 7, 8, 9, 10, 11, 12, 13, 14, 15, 16, 17, 18, 20, 21, 22, 23, 24, 25], [0, 1, 2, 3, 4, 5, 6, 7, 8, 9, 10, 11, 12, 13, 14, 15, 16, 17, 18], [0, 1, 2, 3, 4, 5, 6, 7, 8, 9, 10, 11, 12, 13, 14, 15, 16, 17, 18, 20, 21, 22, 23, 24, 25, 26, 27], [0, 1, 2, 3, 4, 5, 6, 7, 8, 9, 10, 11, 12, 13, 14, 15, 16, 17, 18, 19, 20, 21, 22, 23, 24, 25, 26, 27, 28], [0, 1, 2, 3, 4, 5, 6, 7, 8, 9, 10, 11, 12, 13, 14, 15, 16, 17, 18, 19, 20, 21, 22, 23, 24, 25, 26, 27, 28, 29], [0, 1, 2, 3, 4, 5, 6, 7, 8, 9, 10, 11, 12, 13, 14, 15, 16, 17, 18, 19, 20, 21, 22, 23, 24, 25, 26, 27, 28, 29, 30], [0, 1, 2, 3, 4, 5, 6, 7, 8, 9, 10, 11, 12, 13, 14, 15, 16, 17, 18, 19, 20, 21, 22, 23, 24, 25, 26, 27, 28, 29, 30, 31]], [[], [0], [1], [2], [2], [2, 3, 4], [2, 5], [6], [6], [6, 7, 8], [2, 6, 9], [2, 10], [11], [12], [12, 13], [12, 14], [15], [15, 16], [15, 17], [18], [18], [18, 20], [18], [18, 22], [18, 21, 23], [18, 24], [18, 25], [18], [18, 26, 27], [18, 19, 28], [15, 18, 29], [12, 15, 30], [12, 31]]⟩ (fun _ => []) (by kernel_rfl) (by kernel_rfl) (by (with_reducible (repeat' (first | assumption | apply jA | apply jB | apply jC | apply jD | apply jE | apply jF | apply hb3 | omega | (simp; done) | (simp; omega) | (dsimp only; omega))))) (fun u => by simp only [putD, Act.put, List.setIfInBounds_toArray, List.set_cons_zero, List.set_cons_succ, Nat.zero_add, Nat.reduceAdd]; rfl) ?_
          apply RGW.on (i := 0) rfl
          · (simp only [gA, gB, gC] <;> rfl)
          · intro γ u W hcur hd
            clear hd
            (try dsimp only)
            refine ⟨rfl, ?_⟩
            go_simp <;> (try go_bits) <;> with_reducible rfl
          · exact fun _ _ _ => rfl
          · rfl
          dsimp only [nA, cA]
          apply RGW.on (i := 1) rfl
          · (simp only [gA, gB, gC] <;> rfl)
          · intro γ u W hcur hd
            obtain ⟨⟨h0, -, -⟩, -⟩ := hd
            dsimp only at h0
            (try simp only [h0])
            refine ⟨rfl, ?_⟩
            go_simp <;> (try go_bits) <;> with_reducible rfl
          · exact fun _ _ _ => rfl
          · rfl
          dsimp only [nA, cA]
          apply RGW.on (i := 2) rfl
          · (simp only [gA, gB, gC] <;> rfl)
          · intro γ u W hcur hd
            obtain ⟨⟨h1, -, -⟩, -⟩ := hd
            dsimp only at h1
            (try simp only [h1])
            refine ⟨rfl, ?_⟩
            go_simp <;> (try go_bits) <;> with_reducible rfl
          · exact fun _ _ _ => rfl
          · rfl
          dsimp only [nA, cA]
          apply RGW.on (i := 3) rfl
          · (simp only [gA, gB, gC] <;> rfl)
          · intro γ u W hcur hd
            obtain ⟨⟨h2, -, -⟩, -⟩ := hd
            dsimp only at h2
            (try simp only [h2])
            refine ⟨?_, ?_⟩
            · (simp [Region.wanted, yielded, undef, *]; done)
            go_simp <;> (try go_bits) <;> with_reducible rfl
          · exact fun _ _ _ => rfl
          · rfl
          dsimp only [nA, cA]
          apply RGW.on (i := 4) rfl
          · (simp only [gA, gB, gC] <;> rfl)
          · intro γ u W hcur hd
            obtain ⟨⟨h2, -, -⟩, -⟩ := hd
            dsimp only at h2
            (try simp only [h2])
            refine ⟨?_, ?_⟩
            · (simp [Region.wanted, yielded, undef, *]; done)
            go_simp <;> (try go_bits) <;> with_reducible rfl
          · exact fun _ _ _ => rfl
          · rfl
          dsimp only [nA, cA]
          apply RGW.on (i := 5) rfl
          · (simp only [gA, gB, gC] <;> rfl)
          · intro γ u W hcur hd
            obtain ⟨⟨h2, -, -⟩, ⟨h3, -, -⟩, ⟨h4, -, -⟩, -⟩ := hd
            dsimp only at h2 h3 h4
            (try simp only [h2, h3, h4])
            refine ⟨?_, ?_⟩
            · (simp [Region.wanted, yielded, undef, *]; done)
            go_simp <;> (try go_bits) <;> with_reducible rfl
          · exact fun _ _ _ => rfl
          · rfl
          dsimp only [nA, cA]
          apply RGW.on (i := 6) rfl
          · (simp only [gA, gB, gC] <;> rfl)
          · intro γ u W hcur hd
            obtain ⟨⟨h2, -, -⟩, ⟨h5, -, -⟩, -⟩ := hd
            dsimp only at h2 h5
            (try simp only [h2, h5])
            refine ⟨?_, ?_⟩
            · (simp [Region.wanted, yielded, undef, *]; done)
            go_simp <;> (try go_bits) <;> with_reducible rfl
          · exact fun _ _ _ => rfl
          · rfl
          dsimp only [nA, cA]
          apply RGW.on (i := 7) rfl
          · (simp only [gA, gB, gC] <;> rfl)
          · intro γ u W hcur hd
            obtain ⟨⟨h6, -, -⟩, -⟩ := hd
            dsimp only at h6
            (try simp only [h6])
            refine ⟨?_, ?_⟩
            · (simp [Region.wanted, yielded, undef, *]; done)
            go_simp <;> (try go_bits) <;> with_reducible rfl
          · exact fun _ _ _ => rfl
          · rfl
          dsimp only [nA, cA]
          apply RGW.on (i := 8) rfl
          · (simp only [gA, gB, gC] <;> rfl)
          · intro γ u W hcur hd
            obtain ⟨⟨h6, -, -⟩, -⟩ := hd
            dsimp only at h6
            (try simp only [h6])
            refine ⟨?_, ?_⟩
            · (simp [Region.wanted, yielded, undef, *]; done)
            go_simp <;> (try go_bits) <;> with_reducible rfl
          · exact fun _ _ _ => rfl
          · rfl
          dsimp only [nA, cA]
          apply RGW.on (i := 9) rfl
          · (simp only [gA, gB, gC] <;> rfl)
          · intro γ u W hcur hd
            obtain ⟨⟨h6, -, -⟩, ⟨h7, -, -⟩, ⟨h8, -, -⟩, -⟩ := hd
            dsimp only at h6 h7 h8
            (try simp only [h6, h7, h8])
            refine ⟨?_, ?_⟩
            · (simp [Region.wanted, yielded, undef, *]; done)
            go_simp <;> (try go_bits) <;> with_reducible rfl
          · exact fun _ _ _ => rfl
          · rfl
          dsimp only [nA, cA]
          apply RGW.on (i := 10) rfl
          · (simp only [gA, gB, gC] <;> rfl)
          · intro γ u W hcur hd
            obtain ⟨⟨h2, -, -⟩, ⟨h6, -, -⟩, ⟨h9, -, -⟩, -⟩ := hd
            dsimp only at h2 h6 h9
            (try simp only [h2, h6, h9])
            refine ⟨?_, ?_⟩
            · (simp [Region.wanted, yielded, undef, *]; done)
            go_simp <;> (try go_bits) <;> with_reducible rfl
          · exact fun _ _ _ => rfl
          · rfl
          dsimp only [nA, cA]
          apply RGW.on (i := 11) rfl
          · (simp only [gA, gB, gC] <;> rfl)
          · intro γ u W hcur hd
            obtain ⟨⟨h2, -, -⟩, ⟨h10, -, -⟩, -⟩ := hd
            dsimp only at h2 h10
            (try simp only [h2, h10])
            refine ⟨rfl, ?_⟩
            go_simp <;> (try go_bits) <;> with_reducible rfl
          · exact fun _ _ _ => rfl
          · rfl
          dsimp only [nA, cA]
          apply RGW.on (i := 12) rfl
          · (simp only [gA, gB, gC] <;> rfl)
          · intro γ u W hcur hd
            obtain ⟨⟨h11, -, -⟩, -⟩ := hd
            dsimp only at h11
            (try simp only [h11])
            refine ⟨rfl, ?_⟩
            go_simp <;> (try go_bits) <;> with_reducible rfl
          · exact fun _ _ _ => rfl
          · rfl
          dsimp only [nA, cA]
          apply RGW.on (i := 13) rfl
          · (simp only [gA, gB, gC] <;> rfl)
          · intro γ u W hcur hd
            obtain ⟨⟨h12, -, -⟩, -⟩ := hd
            dsimp only at h12
            (try simp only [h12])
            refine ⟨?_, ?_⟩
            · (simp [Region.wanted, yielded, undef, *]; done)
            go_simp <;> (try go_bits) <;> with_reducible rfl
          · exact fun _ _ _ => rfl
          · rfl
          dsimp only [nA, cA]
          apply RGW.on (i := 14) rfl
          · (simp only [gA, gB, gC] <;> rfl)
          · intro γ u W hcur hd
            obtain ⟨⟨h12, -, -⟩, ⟨h13, -, -⟩, -⟩ := hd
            dsimp only at h12 h13
            (try simp only [h12, h13])
            refine ⟨?_, ?_⟩
            · (simp [Region.wanted, yielded, undef, *]; done)
            go_simp <;> (try go_bits) <;> with_reducible rfl
          · exact fun _ _ _ => rfl
          · rfl
          dsimp only [nA, cA]
          apply RGW.on (i := 15) rfl
          · (simp only [gA, gB, gC] <;> rfl)
          · intro γ u W hcur hd
            obtain ⟨⟨h12, -, -⟩, ⟨h14, -, -⟩, -⟩ := hd
            dsimp only at h12 h14
            (try simp only [h12, h14])
            refine ⟨?_, ?_⟩
            · (simp [Region.wanted, yielded, undef, *]; done)
            go_simp <;> (try go_bits) <;> with_reducible rfl
          · exact fun _ _ _ => rfl
          · rfl
          dsimp only [nA, cA]
          apply RGW.off (i := 16) rfl
          · (simp only [gA, gB, gC] <;> rfl)
          · intro γ u W hcur hd
            obtain ⟨⟨h15, -, -⟩, -⟩ := hd
            dsimp only at h15
            (try simp only [h15])
            simp [Region.wanted, yielded, undef, *]
          · rfl
          dsimp only [nA, cA]
          apply RGW.off (i := 17) rfl
          · (simp only [gA, gB, gC] <;> rfl)
          · intro γ u W hcur hd
            obtain ⟨⟨h15, -, -⟩, ⟨h16, -, -⟩, -⟩ := hd
            dsimp only at h15 h16
            (try simp only [h15, h16])
            simp [Region.wanted, yielded, undef, *]
          · rfl
          dsimp only [nA, cA]
          apply RGW.off (i := 18) rfl
          · (simp only [gA, gB, gC] <;> rfl)
          · intro γ u W hcur hd
            obtain ⟨⟨h15, -, -⟩, ⟨h17, -, -⟩, -⟩ := hd
            dsimp only at h15 h17
            (try simp only [h15, h17])
            simp [Region.wanted, yielded, undef, *]
          · rfl
          dsimp only [nA, cA]
          apply RGW.off (i := 19) rfl
          · (simp only [gA, gB, gC] <;> rfl)
          · intro γ u W hcur hd
            obtain ⟨⟨h18, -, -⟩, -⟩ := hd
            dsimp only at h18
            (try simp only [h18])
            simp [Region.wanted, yielded, undef, *]
          · rfl
          dsimp only [nA, cA]
          apply RGW.off (i := 20) rfl
          · (simp only [gA, gB, gC] <;> rfl)
          · intro γ u W hcur hd
            obtain ⟨⟨h18, -, -⟩, -⟩ := hd
            dsimp only at h18
            (try simp only [h18])
            simp [Region.wanted, yielded, undef, *]
          · rfl
          dsimp only [nA, cA]
          apply RGW.off (i := 21) rfl
          · (simp only [gA, gB, gC] <;> rfl)
          · intro γ u W hcur hd
            obtain ⟨⟨h18, -, -⟩, ⟨h20, -, -⟩, -⟩ := hd
            dsimp only at h18 h20
            (try simp only [h18, h20])
            simp [Region.wanted, yielded, undef, *]
          · rfl
          dsimp only [nA, cA]
          apply RGW.off (i := 22) rfl
          · (simp only [gA, gB, gC] <;> rfl)
          · intro γ u W hcur hd
            obtain ⟨⟨h18, -, -⟩, -⟩ := hd
            dsimp only at h18
            (try simp only [h18])
            simp [Region.wanted, yielded, undef, *]
          · rfl
          dsimp only [nA, cA]
          apply RGW.off (i := 23) rfl
          · (simp only [gA, gB, gC] <;> rfl)
          · intro γ u W hcur hd
            obtain ⟨⟨h18, -, -⟩, ⟨h22, -, -⟩, -⟩ := hd
            dsimp only at h18 h22
            (try simp only [h18, h22])
            simp [Region.wanted, yielded, undef, *]
          · rfl
          dsimp only [nA, cA]
          apply RGW.off (i := 24) rfl
          · (simp only [gA, gB, gC] <;> rfl)
          · intro γ u W hcur hd
            obtain ⟨⟨h18, -, -⟩, ⟨h21, -, -⟩, ⟨h23, -, -⟩, -⟩ := hd
            dsimp only at h18 h21 h23
            (try simp only [h18, h21, h23])
            simp [Region.wanted, yielded, undef, *]
          · rfl
          dsimp only [nA, cA]
          apply RGW.off (i := 25) rfl
          · (simp only [gA, gB, gC] <;> rfl)
          · intro γ u W hcur hd
            obtain ⟨⟨h18, -, -⟩, ⟨h24, -, -⟩, -⟩ := hd
            dsimp only at h18 h24
            (try simp only [h18, h24])
            simp [Region.wanted, yielded, undef, *]
          · rfl
          dsimp only [nA, cA]
          apply RGW.off (i := 26) rfl
          · (simp only [gA, gB, gC] <;> rfl)
          · intro γ u W hcur hd
            obtain ⟨⟨h18, -, -⟩, ⟨h25, -, -⟩, -⟩ := hd
            dsimp only at h18 h25
            (try simp only [h18, h25])
            simp [Region.wanted, yielded, undef, *]
          · rfl
          dsimp only [nA, cA]
          apply RGW.off (i := 27) rfl
          · (simp only [gA, gB, gC] <;> rfl)
          · intro γ u W hcur hd
            obtain ⟨⟨h18, -, -⟩, -⟩ := hd
            dsimp only at h18
            (try simp only [h18])
            simp [Region.wanted, yielded, undef, *]
          · rfl
          dsimp only [nA, cA]
          apply RGW.off (i := 28) rfl
          · (simp only [gA, gB, gC] <;> rfl)
          · intro γ u W hcur hd
            obtain ⟨⟨h18, -, -⟩, ⟨h26, -, -⟩, ⟨h27, -, -⟩, -⟩ := hd
            dsimp only at h18 h26 h27
            (try simp only [h18, h26, h27])
            simp [Region.wanted, yielded, undef, *]
          · rfl
          dsimp only [nA, cA]
          apply RGW.off (i := 29) rfl
          · (simp only [gA, gB, gC] <;> rfl)
          · intro γ u W hcur hd
            obtain ⟨⟨h18, -, -⟩, ⟨h19, -, -⟩, ⟨h28, -, -⟩, -⟩ := hd
            dsimp only at h18 h19 h28
            (try simp only [h18, h19, h28])
            simp [Region.wanted, yielded, undef, *]
          · rfl
          dsimp only [nA, cA]
          apply RGW.off (i := 30) rfl
          · (simp only [gA, gB, gC] <;> rfl)
          · intro γ u W hcur hd
            obtain ⟨⟨h15, -, -⟩, ⟨h18, -, -⟩, ⟨h29, -, -⟩, -⟩ := hd
            dsimp only at h15 h18 h29
            (try simp only [h15, h18, h29])
            simp [Region.wanted, yielded, undef, *]
          · rfl
          dsimp only [nA, cA]
          apply RGW.on (i := 31) rfl
          · (simp only [gA, gB, gC] <;> rfl)
          · intro γ u W hcur hd
            obtain ⟨⟨h12, -, -⟩, ⟨h15, -, -⟩, ⟨h30, -, -⟩, -⟩ := hd
            dsimp only at h12 h15 h30
            (try simp only [h12, h15, h30])
            refine ⟨?_, ?_⟩
            · (simp [Region.wanted, yielded, undef, *]; done)
            go_simp <;> (try go_bits) <;> with_reducible rfl
          · exact fun _ _ _ => rfl
          · rfl
          dsimp only [nA, cA]
          apply RGW.on (i := 32) rfl
          · (simp only [gA, gB, gC] <;> rfl)
          · intro γ u W hcur hd
            obtain ⟨⟨h12, -, -⟩, ⟨h31, -, -⟩, -⟩ := hd
            dsimp only at h12 h31
            (try simp only [h12, h31])
            refine ⟨rfl, ?_⟩
            go_simp <;> (try go_bits) <;> with_reducible rfl
          · exact fun _ _ _ => rfl
          · rfl
          dsimp only [nA, cA]
          refine RGW.fin (fun γ u x4 hx4 hd hdis => ?_)
          obtain ⟨⟨h0, -, -⟩, ⟨h1, -, -⟩, ⟨h2, -, -⟩, ⟨h3, -, -⟩, ⟨h4, -, -⟩, ⟨h5, -, -⟩, ⟨h6, -, -⟩, ⟨h7, -, -⟩, ⟨h8, -, -⟩, ⟨h9, -, -⟩, ⟨h10, -, -⟩, ⟨h11, -, -⟩, ⟨h12, -, -⟩, ⟨h13, -, -⟩, ⟨h14, -, -⟩, ⟨h15, -, -⟩, ⟨h16, -, -⟩, ⟨h17, -, -⟩, ⟨h18, -, -⟩, ⟨h19, -, -⟩, ⟨h20, -, -⟩, ⟨h21, -, -⟩, ⟨h22, -, -⟩, ⟨h23, -, -⟩, ⟨h24, -, -⟩, ⟨h25, -, -⟩, ⟨h26, -, -⟩, ⟨h27, -, -⟩, ⟨h28, -, -⟩, ⟨h29, -, -⟩, ⟨h30, -, -⟩, ⟨h31, -, -⟩, ⟨h32, -, -⟩, -⟩ := hd
          dsimp only at h0 h1 h2 h3 h4 h5 h6 h7 h8 h9 h10 h11 h12 h13 h14 h15 h16 h17 h18 h19 h20 h21 h22 h23 h24 h25 h26 h27 h28 h29 h30 h31 h32
          clear hdis
          simp only [h0, h1, h2, h3, h4, h5, h6, h7, h8, h9, h10, h11, h12, h13, h14, h15, h16, h17, h18, h19, h20, h21, h22, h23, h24, h25, h26, h27, h28, h29, h30, h31, h32]
          clear h32 h31 h30 h29 h28 h27 h26 h25 h24 h23 h22 h21 h20 h19 h18 h17 h16 h15 h14 h13 h12 h11 h10 h9 h8 h7 h6 h5 h4 h3 h2 h1 h0
          clear u
          simp only [List.map_nil]
          refine PlanW.done ?_
          have hb3 := bl_tt hx4
          apply absTB6 (w0 := w) (g0 := w.heap.size) (g1 := w.heap.size + 1) (g2 := w.heap.size + 2) (g3 := gk3) (g4 := gk4) (g5 := gk5)
          iterate 7 (focus ((with_reducible (repeat' (first | assumption | apply jA | apply jB | apply jC | apply jD | apply jE | apply jF | apply hb3 | apply jG | apply jH | apply jI | apply jJ | apply jK | apply hb3x | (apply jL; first | (simp; done) | rfl) | apply jM | apply jN | apply jO | apply jP | apply jQ | apply jR | apply jS | apply jT (hb := hb3 _ (jA _)) | omega | (simp; done) | (simp; omega) | (dsimp only; omega)))); done))
          intro x5 hb0' k0' k1' k2' k3' k4' k5'
          (try simp only [List.setIfInBounds_toArray, List.set_cons_zero, List.set_cons_succ] at k0' k1' k2' k3' k4' k5')
          try clear hb3
          try clear Lk0
          try clear Fk0
          try clear Qk0
          try clear Lk1
          try clear Fk1
          try clear Qk1
          try clear Lk2
          try clear Fk2
          try clear Qk2
          try clear Lk3
          try clear Fk3
          try clear Qk3
          try clear Lk4
          try clear Fk4
          try clear Qk4
          try clear Lk5
          try clear Fk5
          try clear Qk5
          try clear Lk6
          try clear Fk6
          try clear Qk6
          try clear Lk7
          try clear Fk7
          try clear Qk7
          try clear hb0
          try clear k0
          try clear k1
          try clear k2
          try clear k3
          try clear k4
          try clear k5
          have hb0 := hb0'; clear hb0'
          have k0 := k0'; clear k0'
          have k1 := k1'; clear k1'
          have k2 := k2'; clear k2'
          have k3 := k3'; clear k3'
          have k4 := k4'; clear k4'
          have k5 := k5'; clear k5'
          have Lk0 := k0.later
          have Fk0 := k0.laterF
          have Qk0 := k0.lt
          have Lk1 := k1.later
          have Fk1 := k1.laterF
          have Qk1 := k1.lt
          have Lk2 := k2.later
          have Fk2 := k2.laterF
          have Qk2 := k2.lt
          have Lk3 := k3.later
          have Fk3 := k3.laterF
          have Qk3 := k3.lt
          have Lk4 := k4.later
          have Fk4 := k4.laterF
          have Qk4 := k4.lt
          have Lk5 := k5.later
          have Fk5 := k5.laterF
          have Qk5 := k5.lt
          obtain ⟨⟨rfl, rfl⟩, rfl, rfl⟩ := fE.out hb
          clear fE fE2 fG
          have hb' := bne_ne hb
          replace hb := Lib.hid hb
          go_upto_region 16 with (go_at_call 17; (with_reducible refine (hbe.out _ (bl_tr hb0 (by (with_reducible (repeat' (first | assumption | apply jA | apply jB | apply jC | apply jD | apply jE | apply jF | apply hb3 | omega | (simp; done) | (simp; omega) | (dsimp only; omega))))))).mono ?_); rintro e w3 ⟨rfl, hb3⟩; replace hb3 := bl_tt hb3)
          apply absB6 (w0 := w) (g0 := w.heap.size) (g1 := w.heap.size + 1) (g2 := w.heap.size + 2) (g3 := gk3) (g4 := gk4) (g5 := gk5)
          iterate 7 (focus ((with_reducible (repeat' (first | assumption | apply jA | apply jB | apply jC | apply jD | apply jE | apply jF | apply hb3 | apply jG | apply jH | apply jI | apply jJ | apply jK | apply hb3x | (apply jL; first | (simp; done) | rfl) | apply jM | apply jN | apply jO | apply jP | apply jQ | apply jR | apply jS | apply jT (hb := hb3 _ (jA _)) | omega | (simp; done) | (simp; omega) | (dsimp only; omega)))); done))
          intro y1 hb0' k0' k1' k2' k3' k4' k5'
          (try simp only [List.setIfInBounds_toArray, List.set_cons_zero, List.set_cons_succ] at k0' k1' k2' k3' k4' k5')
          try clear hb3
          try clear Lk0
          try clear Fk0
          try clear Qk0
          try clear Lk1
          try clear Fk1
          try clear Qk1
          try clear Lk2
          try clear Fk2
          try clear Qk2
          try clear Lk3
          try clear Fk3
          try clear Qk3
          try clear Lk4
          try clear Fk4
          try clear Qk4
          try clear Lk5
          try clear Fk5
          try clear Qk5
          try clear hb0
          try clear k0
          try clear k1
          try clear k2
          try clear k3
          try clear k4
          try clear k5
          have hb0 := hb0'; clear hb0'
          have k0 := k0'; clear k0'
          have k1 := k1'; clear k1'
          have k2 := k2'; clear k2'
          have k3 := k3'; clear k3'
          have k4 := k4'; clear k4'
          have k5 := k5'; clear k5'
          have Lk0 := k0.later
          have Fk0 := k0.laterF
          have Qk0 := k0.lt
          have Lk1 := k1.later
          have Fk1 := k1.laterF
          have Qk1 := k1.lt
          have Lk2 := k2.later
          have Fk2 := k2.laterF
          have Qk2 := k2.lt
          have Lk3 := k3.later
          have Fk3 := k3.laterF
          have Qk3 := k3.lt
          have Lk4 := k4.later
          have Fk4 := k4.laterF
          have Qk4 := k4.lt
          have Lk5 := k5.later
          have Fk5 := k5.laterF
          have Qk5 := k5.lt
          go_wp2
          go_ret
          exact ⟨by simp, hb0⟩
    · obtain ⟨rfl, hz, rfl⟩ := fN.out h0
      cases hz
      clear fN fM fB fS hsq
      have h0' := bne_ne h0
      have h0e := beq_ne h0
      replace h0 := Lib.hid h0
      go_upto_region 13 with fail
      apply absB6 (w0 := w) (g0 := w.heap.size) (g1 := w.heap.size + 1) (g2 := w.heap.size + 2) (g3 := gk3) (g4 := gk4) (g5 := gk5)
      iterate 7 (focus ((with_reducible (repeat' (first | assumption | apply jA | apply jB | apply jC | apply jD | apply jE | apply jF | apply hb3 | apply jG | apply jH | apply jI | apply jJ | apply jK | apply hb3x | (apply jL; first | (simp; done) | rfl) | apply jM | apply jN | apply jO | apply jP | apply jQ | apply jR | apply jS | apply jT (hb := hb3 _ (jA _)) | omega | (simp; done) | (simp; omega) | (dsimp only; omega)))); done))
      intro x2 hb0' k0' k1' k2' k3' k4' k5'
      (try simp only [List.setIfInBounds_toArray, List.set_cons_zero, List.set_cons_succ] at k0' k1' k2' k3' k4' k5')
      try clear hb3
      try clear Lk0
      try clear Fk0
      try clear Qk0
      try clear Lk1
      try clear Fk1
      try clear Qk1
      try clear Lk2
      try clear Fk2
      try clear Qk2
      try clear Lk3
      try clear Fk3
      try clear Qk3
      try clear Lk4
      try clear Fk4
      try clear Qk4
      try clear Lk5
      try clear Fk5
      try clear Qk5
      try clear hb0
      try clear k0
      try clear k1
      try clear k2
      try clear k3
      try clear k4
      try clear k5
      have hb0 := hb0'; clear hb0'
      have k0 := k0'; clear k0'
      have k1 := k1'; clear k1'
      have k2 := k2'; clear k2'
      have k3 := k3'; clear k3'
      have k4 := k4'; clear k4'
      have k5 := k5'; clear k5'
      have Lk0 := k0.later
      have Fk0 := k0.laterF
      have Qk0 := k0.lt
      have Lk1 := k1.later
      have Fk1 := k1.laterF
      have Qk1 := k1.lt
      have Lk2 := k2.later
      have Fk2 := k2.laterF
      have Qk2 := k2.lt
      have Lk3 := k3.later
      have Fk3 := k3.laterF
      have Qk3 := k3.lt
      have Lk4 := k4.later
      have Fk4 := k4.laterF
      have Qk4 := k4.lt
      have Lk5 := k5.later
      have Fk5 := k5.laterF
      have Qk5 := k5.lt
      refine wp_any (w0 := x2) ⟨[], [], [some 67, some 68, some 69, some 70, some 71, some 72, some 73, some 74, some 75, some 76, some 77, some 78, some 79, some 80, some 81, some 82, some 83, some 84, some 85, some 86, some 87, some 88, some 89, some 90, some 91, some 92, some 93, some 94, some 95, some 96, some 97, some 98, some 99], [[], [0], [0, 1], [0, 1, 2], [0, 1, 2], [0, 1, 2, 3, 4], [0, 1, 2, 3, 4, 5], [0, 1, 2, 3, 4, 5, 6], [0, 1, 2, 3, 4, 5, 6], [0, 1, 2, 3, 4, 5, 6, 7, 8], [0, 1, 2, 3, 4, 5, 6, 7, 8, 9], [0, 1, 2, 3, 4, 5, 6, 7, 8, 9, 10], [0, 1, 2, 3, 4, 5, 6, 7, 8, 9, 10, 11], [0, 1, 2, 3, 4, 5, 6, 7, 8, 9, 10, 11, 12], [0, 1, 2, 3, 4, 5, 6, 7, 8, 9, 10, 11, 12, 13], [0, 1, 2, 3, 4, 5, 6, 7, 8, 9, 10, 11, 12, 13, 14], [0, 1, 2, 3, 4, 5, 6, 7, 8, 9, 10, 11, 12, 13, 14, 15], [0, 1, 2, 3, 4, 5, 6, 7, 8, 9, 10, 11, 12, 13, 14, 15, 16], [0, 1, 2, 3, 4, 5, 6, 7, 8, 9, 10, 11, 12, 13, 14, 15, 16, 17], [0, 1, 2, 3, 4, 5, 6, 7, 8, 9, 10, 11, 12, 13, 14, 15, 16, 17, 18], [0, 1, 2, 3, 4, 5, 6, 7, 8, 9, 10, 11, 12, 13, 14, 15, 16, 17, 18], [0, 1, 2, 3, 4, 5, 6, 7, 8, 9, 10, 11, 12, 13, 14, 15, 16, 17, 18, 20], [0, 1, 2, 3, 4, 5, 6, 7, 8, 9, 10, 11, 12, 13, 14, 15, 16, 17, 18], [0, 1, 2, 3, 4, 5, 6, 7, 8, 9, 10, 11, 12, 13, 14, 15, 16, 17, 18, 22], [0, 1, 2, 3, 4, 5, 6, 7, 8, 9, 10, 11, 12, 13, 14, 15, 16, 17, 18, 20, 21, 22, 23], [0, 1, 2, 3, 4, 5, 6, 7, 8, 9, 10, 11, 12, 13, 14, 15, 16, 17, 18, 20, 21, 22, 23, 24], [0, 1, 2, 3, 4, 5, 6, 7, 8, 9, 10, 11, 12, 13, 14, 15, 16, 17, 18, 20, 21, 22, 23, 24, 25], [0, 1, 2, 3, 4, 5, 6, 7, 8, 9, 10, 11, 12, 13, 14, 15, 16, 17, 18], [0, 1, 2, 3, 4, 5, 6, 7, 8, 9, 10, 11, 12, 13, 14, 15, 16, 17, 18, 20, 21, 22, 23, 24, 25, 26, 27], [0, 1, 2, 3, 4, 5, 6, 7, 8, 9, 10, 11, 12, 13, 14, 15, 16, 17, 18, 19, 20, 21, 22, 23, 24, 25, 26, 27, 28], [0, 1, 2, 3, 4, 5, 6, 7, 8, 9, 10, 11, 12, 13, 14, 15, 16, 17, 18, 19, 20, 21, 22, 23, 24, 25, 26, 27, 28, 29], [0, 1, 2, 3, 4, 5, 6, 7, 8, 9, 10, 11, 12, 13, 14, 15, 16, 17, 18, 19, 20, 21, 22, 23, 24, 25, 26, 27, 28, 29, 30], [0, 1, 2, 3, 4, 5, 6, 7, 8, 9, 10, 11, 12, 13, 14, 15, 16, 17, 18, 19, 20, 21, 22, 23, 24, 25, 26, 27, 28, 29, 30, 31]], [[], [0], [1], [2], [2], [2, 3, 4], [2, 5], [6], [6], [6, 7, 8], [2, 6, 9], [2, 10], [11], [12], [12, 13], [12, 14], [15], [15, 16], [15, 17], [18], [18], [18, 20], [18], [18, 22], [18, 21, 23], [18, 24], [18, 25], [18], [18, 26, 27], [18, 19, 28], [15, 18, 29], [12, 15, 30], [12, 31]]⟩ (fun _ => []) (by kernel_rfl) (by kernel_rfl) (by (with_reducible (repeat' (first | assumption | apply jA | apply jB | apply jC | apply jD | apply jE | apply jF | apply hb3 | omega | (simp; done) | (simp; omega) | (dsimp only; omega))))) (fun u => by simp only [putD, Act.put, List.setIfInBounds_toArray, List.set_cons_zero, List.set_cons_succ, Nat.zero_add, Nat.reduceAdd]; rfl) ?_
      apply RGW.on (i := 0) rfl
      · (simp only [gA, gB, gC] <;> rfl)
      · intro γ u W hcur hd
        clear hd
        (try dsimp only)
        refine ⟨rfl, ?_⟩
        go_simp <;> (try go_bits) <;> with_reducible rfl
      · exact fun _ _ _ => rfl
      · rfl
      dsimp only [nA, cA]
      apply RGW.on (i := 1) rfl
      · (simp only [gA, gB, gC] <;> rfl)
      · intro γ u W hcur hd
        obtain ⟨⟨h0, -, -⟩, -⟩ := hd
        dsimp only at h0
        (try simp only [h0])
        refine ⟨rfl, ?_⟩
        go_simp <;> (try go_bits) <;> with_reducible rfl
      · exact fun _ _ _ => rfl
      · rfl
      dsimp only [nA, cA]
      apply RGW.on (i := 2) rfl
      · (simp only [gA, gB, gC] <;> rfl)
      · intro γ u W hcur hd
        obtain ⟨⟨h1, -, -⟩, -⟩ := hd
        dsimp only at h1
        (try simp only [h1])
        refine ⟨rfl, ?_⟩
        go_simp <;> (try go_bits) <;> with_reducible rfl
      · exact fun _ _ _ => rfl
      · rfl
      dsimp only [nA, cA]
      apply RGW.on (i := 3) rfl
      · (simp only [gA, gB, gC] <;> rfl)
      · intro γ u W hcur hd
        obtain ⟨⟨h2, -, -⟩, -⟩ := hd
        dsimp only at h2
        (try simp only [h2])
        refine ⟨?_, ?_⟩
        · (simp [Region.wanted, yielded, undef, *]; done)
        go_simp <;> (try go_bits) <;> with_reducible rfl
      · exact fun _ _ _ => rfl
      · rfl
      dsimp only [nA, cA]
      apply RGW.on (i := 4) rfl
      · (simp only [gA, gB, gC] <;> rfl)
      · intro γ u W hcur hd
        obtain ⟨⟨h2, -, -⟩, -⟩ := hd
        dsimp only at h2
        (try simp only [h2])
        refine ⟨?_, ?_⟩
        · (simp [Region.wanted, yielded, undef, *]; done)
        go_simp <;> (try go_bits) <;> with_reducible rfl
      · exact fun _ _ _ => rfl
      · rfl
      dsimp only [nA, cA]
      apply RGW.on (i := 5) rfl
      · (simp only [gA, gB, gC] <;> rfl)
      · intro γ u W hcur hd
        obtain ⟨⟨h2, -, -⟩, ⟨h3, -, -⟩, ⟨h4, -, -⟩, -⟩ := hd
        dsimp only at h2 h3 h4
        (try simp only [h2, h3, h4])
        refine ⟨?_, ?_⟩
        · (simp [Region.wanted, yielded, undef, *]; done)
        go_simp <;> (try go_bits) <;> with_reducible rfl
      · exact fun _ _ _ => rfl
      · rfl
      dsimp only [nA, cA]
      apply RGW.on (i := 6) rfl
      · (simp only [gA, gB, gC] <;> rfl)
      · intro γ u W hcur hd
        obtain ⟨⟨h2, -, -⟩, ⟨h5, -, -⟩, -⟩ := hd
        dsimp only at h2 h5
        (try simp only [h2, h5])
        refine ⟨?_, ?_⟩
        · (simp [Region.wanted, yielded, undef, *]; done)
        go_simp <;> (try go_bits) <;> with_reducible rfl
      · exact fun _ _ _ => rfl
      · rfl
      dsimp only [nA, cA]
      apply RGW.on (i := 7) rfl
      · (simp only [gA, gB, gC] <;> rfl)
      · intro γ u W hcur hd
        obtain ⟨⟨h6, -, -⟩, -⟩ := hd
        dsimp only at h6
        (try simp only [h6])
        refine ⟨?_, ?_⟩
        · (simp [Region.wanted, yielded, undef, *]; done)
        go_simp <;> (try go_bits) <;> with_reducible rfl
      · exact fun _ _ _ => rfl
      · rfl
      dsimp only [nA, cA]
      apply RGW.on (i := 8) rfl
      · (simp only [gA, gB, gC] <;> rfl)
      · intro γ u W hcur hd
        obtain ⟨⟨h6, -, -⟩, -⟩ := hd
        dsimp only at h6
        (try simp only [h6])
        refine ⟨?_, ?_⟩
        · (simp [Region.wanted, yielded, undef, *]; done)
        go_simp <;> (try go_bits) <;> with_reducible rfl
      · exact fun _ _ _ => rfl
      · rfl
      dsimp only [nA, cA]
      apply RGW.on (i := 9) rfl
      · (simp only [gA, gB, gC] <;> rfl)
      · intro γ u W hcur hd
        obtain ⟨⟨h6, -, -⟩, ⟨h7, -, -⟩, ⟨h8, -, -⟩, -⟩ := hd
        dsimp only at h6 h7 h8
        (try simp only [h6, h7, h8])
        refine ⟨?_, ?_⟩
        · (simp [Region.wanted, yielded, undef, *]; done)
        go_simp <;> (try go_bits) <;> with_reducible rfl
      · exact fun _ _ _ => rfl
      · rfl
      dsimp only [nA, cA]
      apply RGW.on (i := 10) rfl
      · (simp only [gA, gB, gC] <;> rfl)
      · intro γ u W hcur hd
        obtain ⟨⟨h2, -, -⟩, ⟨h6, -, -⟩, ⟨h9, -, -⟩, -⟩ := hd
        dsimp only at h2 h6 h9
        (try simp only [h2, h6, h9])
        refine ⟨?_, ?_⟩
        · (simp [Region.wanted, yielded, undef, *]; done)
        go_simp <;> (try go_bits) <;> with_reducible rfl
      · exact fun _ _ _ => rfl
      · rfl
      dsimp only [nA, cA]
      apply RGW.on (i := 11) rfl
      · (simp only [gA, gB, gC] <;> rfl)
      · intro γ u W hcur hd
        obtain ⟨⟨h2, -, -⟩, ⟨h10, -, -⟩, -⟩ := hd
        dsimp only at h2 h10
        (try simp only [h2, h10])
        refine ⟨rfl, ?_⟩
        go_simp <;> (try go_bits) <;> with_reducible rfl
      · exact fun _ _ _ => rfl
      · rfl
      dsimp only [nA, cA]
      apply RGW.on (i := 12) rfl
      · (simp only [gA, gB, gC] <;> rfl)
      · intro γ u W hcur hd
        obtain ⟨⟨h11, -, -⟩, -⟩ := hd
        dsimp only at h11
        (try simp only [h11])
        refine ⟨rfl, ?_⟩
        go_simp <;> (try go_bits) <;> with_reducible rfl
      · exact fun _ _ _ => rfl
      · rfl
      dsimp only [nA, cA]
      apply RGW.on (i := 13) rfl
      · (simp only [gA, gB, gC] <;> rfl)
      · intro γ u W hcur hd
        obtain ⟨⟨h12, -, -⟩, -⟩ := hd
        dsimp only at h12
        (try simp only [h12])
        refine ⟨?_, ?_⟩
        · (simp [Region.wanted, yielded, undef, *]; done)
        go_simp <;> (try go_bits) <;> with_reducible rfl
      · exact fun _ _ _ => rfl
      · rfl
      dsimp only [nA, cA]
      apply RGW.on (i := 14) rfl
      · (simp only [gA, gB, gC] <;> rfl)
      · intro γ u W hcur hd
        obtain ⟨⟨h12, -, -⟩, ⟨h13, -, -⟩, -⟩ := hd
        dsimp only at h12 h13
        (try simp only [h12, h13])
        refine ⟨?_, ?_⟩
        · (simp [Region.wanted, yielded, undef, *]; done)
        go_simp <;> (try go_bits) <;> with_reducible rfl
      · exact fun _ _ _ => rfl
      · rfl
      dsimp only [nA, cA]
      apply RGW.on (i := 15) rfl
      · (simp only [gA, gB, gC] <;> rfl)
      · intro γ u W hcur hd
        obtain ⟨⟨h12, -, -⟩, ⟨h14, -, -⟩, -⟩ := hd
        dsimp only at h12 h14
        (try simp only [h12, h14])
        refine ⟨?_, ?_⟩
        · (simp [Region.wanted, yielded, undef, *]; done)
        go_simp <;> (try go_bits) <;> with_reducible rfl
      · exact fun _ _ _ => rfl
      · rfl
      dsimp only [nA, cA]
      apply RGW.off (i := 16) rfl
      · (simp only [gA, gB, gC] <;> rfl)
      · intro γ u W hcur hd
        obtain ⟨⟨h15, -, -⟩, -⟩ := hd
        dsimp only at h15
        (try simp only [h15])
        simp [Region.wanted, yielded, undef, *]
      · rfl
      dsimp only [nA, cA]
      apply RGW.off (i := 17) rfl
      · (simp only [gA, gB, gC] <;> rfl)
      · intro γ u W hcur hd
        obtain ⟨⟨h15, -, -⟩, ⟨h16, -, -⟩, -⟩ := hd
        dsimp only at h15 h16
        (try simp only [h15, h16])
        simp [Region.wanted, yielded, undef, *]
      · rfl
      dsimp only [nA, cA]
      apply RGW.off (i := 18) rfl
      · (simp only [gA, gB, gC] <;> rfl)
      · intro γ u W hcur hd
        obtain ⟨⟨h15, -, -⟩, ⟨h17, -, -⟩, -⟩ := hd
        dsimp only at h15 h17
        (try simp only [h15, h17])
        simp [Region.wanted, yielded, undef, *]
      · rfl
      dsimp only [nA, cA]
      apply RGW.off (i := 19) rfl
      · (simp only [gA, gB, gC] <;> rfl)
      · intro γ u W hcur hd
        obtain ⟨⟨h18, -, -⟩, -⟩ := hd
        dsimp only at h18
        (try simp only [h18])
        simp [Region.wanted, yielded, undef, *]
      · rfl
      dsimp only [nA, cA]
      apply RGW.off (i := 20) rfl
      · (simp only [gA, gB, gC] <;> rfl)
      · intro γ u W hcur hd
        obtain ⟨⟨h18, -, -⟩, -⟩ := hd
        dsimp only at h18
        (try simp only [h18])
        simp [Region.wanted, yielded, undef, *]
      · rfl
      dsimp only [nA, cA]
      apply RGW.off (i := 21) rfl
      · (simp only [gA, gB, gC] <;> rfl)
      · intro γ u W hcur hd
        obtain ⟨⟨h18, -, -⟩, ⟨h20, -, -⟩, -⟩ := hd
        dsimp only at h18 h20
        (try simp only [h18, h20])
        simp [Region.wanted, yielded, undef, *]
      · rfl
      dsimp only [nA, cA]
      apply RGW.off (i := 22) rfl
      · (simp only [gA, gB, gC] <;> rfl)
      · intro γ u W hcur hd
        obtain ⟨⟨h18, -, -⟩, -⟩ := hd
        dsimp only at h18
        (try simp only [h18])
        simp [Region.wanted, yielded, undef, *]
      · rfl
      dsimp only [nA, cA]
      apply RGW.off (i := 23) rfl
      · (simp only [gA, gB, gC] <;> rfl)
      · intro γ u W hcur hd
        obtain ⟨⟨h18, -, -⟩, ⟨h22, -, -⟩, -⟩ := hd
        dsimp only at h18 h22
        (try simp only [h18, h22])
        simp [Region.wanted, yielded, undef, *]
      · rfl
      dsimp only [nA, cA]
      apply RGW.off (i := 24) rfl
      · (simp only [gA, gB, gC] <;> rfl)
      · intro γ u W hcur hd
        obtain ⟨⟨h18, -, -⟩, ⟨h21, -, -⟩, ⟨h23, -, -⟩, -⟩ := hd
        dsimp only at h18 h21 h23
        (try simp only [h18, h21, h23])
        simp [Region.wanted, yielded, undef, *]
      · rfl
      dsimp only [nA, cA]
      apply RGW.off (i := 25) rfl
      · (simp only [gA, gB, gC] <;> rfl)
      · intro γ u W hcur hd
        obtain ⟨⟨h18, -, -⟩, ⟨h24, -, -⟩, -⟩ := hd
        dsimp only at h18 h24
        (try simp only [h18, h24])
        simp [Region.wanted, yielded, undef, *]
      · rfl
      dsimp only [nA, cA]
      apply RGW.off (i := 26) rfl
      · (simp only [gA, gB, gC] <;> rfl)
      · intro γ u W hcur hd
        obtain ⟨⟨h18, -, -⟩, ⟨h25, -, -⟩, -⟩ := hd
        dsimp only at h18 h25
        (try simp only [h18, h25])
        simp [Region.wanted, yielded, undef, *]
      · rfl
      dsimp only [nA, cA]
      apply RGW.off (i := 27) rfl
      · (simp only [gA, gB, gC] <;> rfl)
      · intro γ u W hcur hd
        obtain ⟨⟨h18, -, -⟩, -⟩ := hd
        dsimp only at h18
        (try simp only [h18])
        simp [Region.wanted, yielded, undef, *]
      · rfl
      dsimp only [nA, cA]
      apply RGW.off (i := 28) rfl
      · (simp only [gA, gB, gC] <;> rfl)
      · intro γ u W hcur hd
        obtain ⟨⟨h18, -, -⟩, ⟨h26, -, -⟩, ⟨h27, -, -⟩, -⟩ := hd
        dsimp only at h18 h26 h27
        (try simp only [h18, h26, h27])
        simp [Region.wanted, yielded, undef, *]
      · rfl
      dsimp only [nA, cA]
      apply RGW.off (i := 29) rfl
      · (simp only [gA, gB, gC] <;> rfl)
      · intro γ u W hcur hd
        obtain ⟨⟨h18, -, -⟩, ⟨h19, -, -⟩, ⟨h28, -, -⟩, -⟩ := hd
        dsimp only at h18 h19 h28
        (try simp only [h18, h19, h28])
        simp [Region.wanted, yielded, undef, *]
      · rfl
      dsimp only [nA, cA]
      apply RGW.off (i := 30) rfl
      · (simp only [gA, gB, gC] <;> rfl)
      · intro γ u W hcur hd
        obtain ⟨⟨h15, -, -⟩, ⟨h18, -, -⟩, ⟨h29, -, -⟩, -⟩ := hd
        dsimp only at h15 h18 h29
        (try simp only [h15, h18, h29])
        simp [Region.wanted, yielded, undef, *]
      · rfl
      dsimp only [nA, cA]
      apply RGW.on (i := 31) rfl
      · (simp only [gA, gB, gC] <;> rfl)
      · intro γ u W hcur hd
        obtain ⟨⟨h12, -, -⟩, ⟨h15, -, -⟩, ⟨h30, -, -⟩, -⟩ := hd
        dsimp only at h12 h15 h30
        (try simp only [h12, h15, h30])
        refine ⟨?_, ?_⟩
        · (simp [Region.wanted, yielded, undef, *]; done)
        go_simp <;> (try go_bits) <;> with_reducible rfl
      · exact fun _ _ _ => rfl
      · rfl
      dsimp only [nA, cA]
      apply RGW.on (i := 32) rfl
      · (simp only [gA, gB, gC] <;> rfl)
      · intro γ u W hcur hd
        obtain ⟨⟨h12, -, -⟩, ⟨h31, -, -⟩, -⟩ := hd
        dsimp only at h12 h31
        (try simp only [h12, h31])
        refine ⟨rfl, ?_⟩
        go_simp <;> (try go_bits) <;> with_reducible rfl
      · exact fun _ _ _ => rfl
      · rfl
      dsimp only [nA, cA]
      refine RGW.fin (fun γ u x2b hx2b hd hdis => ?_)
      obtain ⟨⟨h0, -, -⟩, ⟨h1, -, -⟩, ⟨h2, -, -⟩, ⟨h3, -, -⟩, ⟨h4, -, -⟩, ⟨h5, -, -⟩, ⟨h6, -, -⟩, ⟨h7, -, -⟩, ⟨h8, -, -⟩, ⟨h9, -, -⟩, ⟨h10, -, -⟩, ⟨h11, -, -⟩, ⟨h12, -, -⟩, ⟨h13, -, -⟩, ⟨h14, -, -⟩, ⟨h15, -, -⟩, ⟨h16, -, -⟩, ⟨h17, -, -⟩, ⟨h18, -, -⟩, ⟨h19, -, -⟩, ⟨h20, -, -⟩, ⟨h21, -, -⟩, ⟨h22, -, -⟩, ⟨h23, -, -⟩, ⟨h24, -, -⟩, ⟨h25, -, -⟩, ⟨h26, -, -⟩, ⟨h27, -, -⟩, ⟨h28, -, -⟩, ⟨h29, -, -⟩, ⟨h30, -, -⟩, ⟨h31, -, -⟩, ⟨h32, -, -⟩, -⟩ := hd
      dsimp only at h0 h1 h2 h3 h4 h5 h6 h7 h8 h9 h10 h11 h12 h13 h14 h15 h16 h17 h18 h19 h20 h21 h22 h23 h24 h25 h26 h27 h28 h29 h30 h31 h32
      clear hdis
      simp only [h0, h1, h2, h3, h4, h5, h6, h7, h8, h9, h10, h11, h12, h13, h14, h15, h16, h17, h18, h19, h20, h21, h22, h23, h24, h25, h26, h27, h28, h29, h30, h31, h32]
      clear h32 h31 h30 h29 h28 h27 h26 h25 h24 h23 h22 h21 h20 h19 h18 h17 h16 h15 h14 h13 h12 h11 h10 h9 h8 h7 h6 h5 h4 h3 h2 h1 h0
      clear u
      simp only [List.map_nil]
      refine PlanW.done ?_
      have hb3 := bl_tt hx2b
      apply absTB6 (w0 := w) (g0 := w.heap.size) (g1 := w.heap.size + 1) (g2 := w.heap.size + 2) (g3 := gk3) (g4 := gk4) (g5 := gk5)
      iterate 7 (focus ((with_reducible (repeat' (first | assumption | apply jA | apply jB | apply jC | apply jD | apply jE | apply jF | apply hb3 | apply jG | apply jH | apply jI | apply jJ | apply jK | apply hb3x | (apply jL; first | (simp; done) | rfl) | apply jM | apply jN | apply jO | apply jP | apply jQ | apply jR | apply jS | apply jT (hb := hb3 _ (jA _)) | omega | (simp; done) | (simp; omega) | (dsimp only; omega)))); done))
      intro x2c hb0' k0' k1' k2' k3' k4' k5'
      (try simp only [List.setIfInBounds_toArray, List.set_cons_zero, List.set_cons_succ] at k0' k1' k2' k3' k4' k5')
      try clear hb3
      try clear Lk0
      try clear Fk0
      try clear Qk0
      try clear Lk1
      try clear Fk1
      try clear Qk1
      try clear Lk2
      try clear Fk2
      try clear Qk2
      try clear Lk3
      try clear Fk3
      try clear Qk3
      try clear Lk4
      try clear Fk4
      try clear Qk4
      try clear Lk5
      try clear Fk5
      try clear Qk5
      try clear hb0
      try clear k0
      try clear k1
      try clear k2
      try clear k3
      try clear k4
      try clear k5
      have hb0 := hb0'; clear hb0'
      have k0 := k0'; clear k0'
      have k1 := k1'; clear k1'
      have k2 := k2'; clear k2'
      have k3 := k3'; clear k3'
      have k4 := k4'; clear k4'
      have k5 := k5'; clear k5'
      have Lk0 := k0.later
      have Fk0 := k0.laterF
      have Qk0 := k0.lt
      have Lk1 := k1.later
      have Fk1 := k1.laterF
      have Qk1 := k1.lt
      have Lk2 := k2.later
      have Fk2 := k2.laterF
      have Qk2 := k2.lt
      have Lk3 := k3.later
      have Fk3 := k3.laterF
      have Qk3 := k3.lt
      have Lk4 := k4.later
      have Fk4 := k4.laterF
      have Qk4 := k4.lt
      have Lk5 := k5.later
      have Fk5 := k5.laterF
      have Qk5 := k5.lt
      have hb := h0.out
      obtain ⟨⟨rfl, rfl⟩, rfl, rfl⟩ := fE.out hb
      clear fE fE2 fG
      have hb' := bne_ne hb
      replace hb := Lib.hid hb
      go_upto_region 16 with (go_at_call 17; (with_reducible refine (hbe.out _ (bl_tr hb0 (by (with_reducible (repeat' (first | assumption | apply jA | apply jB | apply jC | apply jD | apply jE | apply jF | apply hb3 | omega | (simp; done) | (simp; omega) | (dsimp only; omega))))))).mono ?_); rintro e w3 ⟨rfl, hb3⟩; replace hb3 := bl_tt hb3)
      apply absB6 (w0 := w) (g0 := w.heap.size) (g1 := w.heap.size + 1) (g2 := w.heap.size + 2) (g3 := gk3) (g4 := gk4) (g5 := gk5)
      iterate 7 (focus ((with_reducible (repeat' (first | assumption | apply jA | apply jB | apply jC | apply jD | apply jE | apply jF | apply hb3 | apply jG | apply jH | apply jI | apply jJ | apply jK | apply hb3x | (apply jL; first | (simp; done) | rfl) | apply jM | apply jN | apply jO | apply jP | apply jQ | apply jR | apply jS | apply jT (hb := hb3 _ (jA _)) | omega | (simp; done) | (simp; omega) | (dsimp only; omega)))); done))
      intro y1 hb0' k0' k1' k2' k3' k4' k5'
      (try simp only [List.setIfInBounds_toArray, List.set_cons_zero, List.set_cons_succ] at k0' k1' k2' k3' k4' k5')
      try clear hb3
      try clear Lk0
      try clear Fk0
      try clear Qk0
      try clear Lk1
      try clear Fk1
      try clear Qk1
      try clear Lk2
      try clear Fk2
      try clear Qk2
      try clear Lk3
      try clear Fk3
      try clear Qk3
      try clear Lk4
      try clear Fk4
      try clear Qk4
      try clear Lk5
      try clear Fk5
      try clear Qk5
      try clear hb0
      try clear k0
      try clear k1
      try clear k2
      try clear k3
      try clear k4
      try clear k5
      have hb0 := hb0'; clear hb0'
      have k0 := k0'; clear k0'
      have k1 := k1'; clear k1'
      have k2 := k2'; clear k2'
      have k3 := k3'; clear k3'
      have k4 := k4'; clear k4'
      have k5 := k5'; clear k5'
      have Lk0 := k0.later
      have Fk0 := k0.laterF
      have Qk0 := k0.lt
      have Lk1 := k1.later
      have Fk1 := k1.laterF
      have Qk1 := k1.lt
      have Lk2 := k2.later
      have Fk2 := k2.laterF
      have Qk2 := k2.lt
      have Lk3 := k3.later
      have Fk3 := k3.laterF
      have Qk3 := k3.lt
      have Lk4 := k4.later
      have Fk4 := k4.laterF
      have Qk4 := k4.lt
      have Lk5 := k5.later
      have Fk5 := k5.laterF
      have Qk5 := k5.lt
      go_wp2
      go_ret
      exact ⟨by simp, hb0⟩
end Go.Proofs.Ytephimmamkafoaa
