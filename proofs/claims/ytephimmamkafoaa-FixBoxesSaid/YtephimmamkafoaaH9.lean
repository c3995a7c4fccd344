/-
  Walks: the reference's errors of a net alone, of a box, of readings.
  Walks: the law of boxes.
-/
import Derived.Test.YtephimmamkafoaaH8
import Derived.Test.YtephimmamkafoaaH7
import Derived.Test.YtephimmamkafoaaG15
namespace Go.Proofs.Ytephimmamkafoaa
set_option linter.unusedSimpArgs false
set_option linter.unusedVariables false
open Go.RowKit Go.Shelf
attribute [local go_sem] bl_al bl_drew bl_drewN bl_refl bx_al bx_drew bx_drewN bx_refl
set_option maxRecDepth 20000
theorem r_NetErr (n : Nt) (A : Option Addr) (c : Nat) (w : World) (hn : NtIn n A c w) :
    Calls Try.prog 40 #[vNt n.world (.slice A n.bs.length c)] w (Ret (.int .i64 (netErr n)) w) := by
  have hcr := Lib.hid fun (W : World) (hb : Below w.heap.size w W) => r_CheckNet n A c W (hn.below hb) hn.len
  clear hn
  unfold netErr
  generalize n.bs.length = nl at *
  go_enter Try.func40, Try.ntmps40
  go_wp2_with fail
  refine Calls.mono (hcr.out _ ?_) ?_
  · solve_by_elim (maxDepth := 60) only [bl_al, bl_drew, bl_drewN, bl_refl, *]
  rintro e w3 ⟨rfl, hb3⟩
  replace hb3 := bl_tt hb3
  have hb1 := hb3 w (by (with_reducible (repeat' (first | assumption | apply jA | apply jB | apply jC | apply jD | apply jE | apply jF | apply hb3 | omega | (simp; done) | (simp; omega) | (dsimp only; omega)))))
  go_wp2
  go_ret
  exact ⟨rfl, hb1⟩
/-- The reference's errors of a net and its readings. -/
def refRdsE (n : Nt) (l : List Rd) : Int := if netErr n = 0 then (refReads n.bs.length l).2 else netErr n
theorem first_ne {a b c d e f : Prop} (h : ¬ (a ∧ b ∧ c ∧ d ∧ e ∧ f)) : ¬ a ∨ (a ∧ ¬ b) ∨ (a ∧ b ∧ ¬ c) ∨ (a ∧ b ∧ c ∧ ¬ d) ∨ (a ∧ b ∧ c ∧ d ∧ ¬ e) ∨ (a ∧ b ∧ c ∧ d ∧ e ∧ ¬ f) := by
  by_cases ha : a
  · by_cases hb : b
    · by_cases hc : c
      · by_cases hd : d
        · by_cases he : e
          · by_cases hf : f
            · exact absurd ⟨ha, hb, hc, hd, he, hf⟩ h
            · exact .inr (.inr (.inr (.inr (.inr ⟨ha, hb, hc, hd, he, hf⟩))))
          · exact .inr (.inr (.inr (.inr (.inl ⟨ha, hb, hc, hd, he⟩))))
        · exact .inr (.inr (.inr (.inl ⟨ha, hb, hc, hd⟩)))
      · exact .inr (.inr (.inl ⟨ha, hb, hc⟩))
    · exact .inr (.inl ⟨ha, hb⟩)
  · exact .inl ha
theorem meet_holds (a b : Bx) : a.holds b = true ↔ ((b.meet a).x.lo = b.x.lo ∧ (b.meet a).x.hi = b.x.hi ∧ (b.meet a).y.lo = b.y.lo ∧ (b.meet a).y.hi = b.y.hi ∧ (b.meet a).z.lo = b.z.lo ∧ (b.meet a).z.hi = b.z.hi) := by
  rw [Bx.holds_iff]
  simp only [Bx.meet, Rg.meet]
  constructor <;> intro h <;> omega
set_option maxHeartbeats 2000000 in
theorem r_ReadingsErr (n : Nt) (l : List Rd) (A A' : Option Addr) (c c' : Nat) (w : World) (hn : NtIn n A c w) (hl : Sl cRd 4 w A' l) (hll : l.length ≤ 1000) :
    Calls Try.prog 52 #[vNt n.world (.slice A n.bs.length c), .slice A' l.length c'] w (Ret (.int .i64 (refRdsE n l)) w) := by
  have hq1 : Hid (netErr n = 0 → refRdsE n l = (refReads n.bs.length l).2) := fun h => by rw [refRdsE, if_pos h]
  have hq2 : Hid (netErr n ≠ 0 → refRdsE n l = netErr n) := fun h => by rw [refRdsE, if_neg h]
  have hcn := Lib.hid fun (W : World) (hb : Below w.heap.size w W) => r_NetErr n A c W (hn.below hb)
  have hcr := Lib.hid fun (W : World) (hb : Below w.heap.size w W) => r_CheckReadings n.world n.bs.length l A A' c c' W (hl.below hb) hll hn.len
  clear hn hl
  generalize n.bs.length = nl at *
  generalize l.length = ll at *
  generalize netErr n = ne at *
  go_enter Try.func52, Try.ntmps52
  go_upto_region 1 with fail
  apply absB1 (w0 := w) (g0 := w.heap.size)
  iterate 2 (focus ((with_reducible (repeat' (first | assumption | apply jA | apply jB | apply jC | apply jD | apply jE | apply jF | apply hb3 | apply jG | apply jH | apply jI | apply jJ | apply jK | apply hb3x | (apply jL; first | (simp; done) | rfl) | apply jM | apply jN | apply jO | apply jP | apply jQ | apply jR | apply jS | apply jT (hb := hb3 _ (jA _)) | omega | (simp; done) | (simp; omega) | (dsimp only; omega)))); done))
  intro wa hb0' k0'
  (try simp only [List.setIfInBounds_toArray, List.set_cons_zero, List.set_cons_succ] at k0')
  try clear hb3
  try clear hb0
  try clear k0
  have hb0 := hb0'; clear hb0'
  have k0 := k0'; clear k0'
  have Lk0 := k0.later
  have Fk0 := k0.laterF
  have Qk0 := k0.lt
  go_wp2_with fail
  refine Calls.mono (hcn.out _ hb0) ?_
  rintro e w3 ⟨rfl, hb3⟩
  replace hb3 := bl_tt hb3
  apply absX1 (w0 := w) (w := w3) (g0 := w.heap.size)
  iterate 2 (focus ((with_reducible (repeat' (first | assumption | apply jA | apply jB | apply jC | apply jD | apply jE | apply jF | apply hb3 | apply jG | apply jH | apply jI | apply jJ | apply jK | apply hb3x | (apply jL; first | (simp; done) | rfl) | apply jM | apply jN | apply jO | apply jP | apply jQ | apply jR | apply jS | apply jT (hb := hb3 _ (jA _)) | omega | (simp; done) | (simp; omega) | (dsimp only; omega)))); done))
  intro wb hb0' k0'
  (try simp only [List.setIfInBounds_toArray, List.set_cons_zero, List.set_cons_succ] at k0')
  try clear hb3
  try clear Lk0
  try clear Fk0
  try clear Qk0
  try clear hb0
  try clear k0
  have hb0 := hb0'; clear hb0'
  have k0 := k0'; clear k0'
  have Lk0 := k0.later
  have Fk0 := k0.laterF
  have Qk0 := k0.lt
  by_cases h0 : ne = 0
  · have h0' : (ne != 0) = false := by simp [h0]
    replace h0 := Lib.hid h0
    go_wp2_with fail
    refine Calls.mono (hcr.out _ hb0) ?_
    rintro e w3 ⟨rfl, hb3⟩
    go_wp2
    go_ret
    exact ⟨by rw [hq1.out h0.out] <;> rfl, bl_tr hb0 hb3⟩
  · have h0' : (ne != 0) = true := by simp [h0]
    replace h0 := Lib.hid h0
    go_wp2
    go_ret
    exact ⟨by rw [hq2.out h0.out] <;> rfl, hb0⟩
set_option maxHeartbeats 2000000 in
theorem r_BoxErr (n : Nt) (b : Bx) (A : Option Addr) (c : Nat) (w : World) (hn : NtIn n A c w) :
    Calls Try.prog 17 #[vNt n.world (.slice A n.bs.length c), vBx b] w (Ret (.int .i64 (boxErr n b)) w) := by
  have hcn := Lib.hid fun (W : World) (hb : Below w.heap.size w W) => r_NetErr n A c W (hn.below hb)
  have hr0 : boxErr n b = fstE [netErr n, unl b.ordered 9, unl (n.world.holds b) 2] := rfl
  clear hn
  obtain ⟨bo, ho⟩ : ∃ b', b.ordered = b' := ⟨_, rfl⟩
  have hco := Lib.hid fun W : World => ho ▸ r_IsEmpty b W
  rw [ho] at hr0
  clear ho
  generalize n.bs.length = nl at *
  generalize netErr n = ne at *
  go_enter Try.func17, Try.ntmps17
  go_upto_region 1 with fail
  apply absB2 (w0 := w) (g0 := w.heap.size) (g1 := w.heap.size + 1)
  iterate 3 (focus ((with_reducible (repeat' (first | assumption | apply jA | apply jB | apply jC | apply jD | apply jE | apply jF | apply hb3 | apply jG | apply jH | apply jI | apply jJ | apply jK | apply hb3x | (apply jL; first | (simp; done) | rfl) | apply jM | apply jN | apply jO | apply jP | apply jQ | apply jR | apply jS | apply jT (hb := hb3 _ (jA _)) | omega | (simp; done) | (simp; omega) | (dsimp only; omega)))); done))
  intro wa hb0' k0' k1'
  (try simp only [List.setIfInBounds_toArray, List.set_cons_zero, List.set_cons_succ] at k0' k1')
  try clear hb3
  try clear hb0
  try clear k0
  try clear k1
  have hb0 := hb0'; clear hb0'
  have k0 := k0'; clear k0'
  have k1 := k1'; clear k1'
  have Lk0 := k0.later
  have Fk0 := k0.laterF
  have Qk0 := k0.lt
  have Lk1 := k1.later
  have Fk1 := k1.laterF
  have Qk1 := k1.lt
  go_wp2_with fail
  refine Calls.mono (hcn.out _ hb0) ?_
  rintro e w3 ⟨rfl, hb3⟩
  replace hb3 := bl_tt hb3
  apply absX2 (w0 := w) (w := w3) (g0 := w.heap.size) (g1 := w.heap.size + 1)
  iterate 3 (focus ((with_reducible (repeat' (first | assumption | apply jA | apply jB | apply jC | apply jD | apply jE | apply jF | apply hb3 | apply jG | apply jH | apply jI | apply jJ | apply jK | apply hb3x | (apply jL; first | (simp; done) | rfl) | apply jM | apply jN | apply jO | apply jP | apply jQ | apply jR | apply jS | apply jT (hb := hb3 _ (jA _)) | omega | (simp; done) | (simp; omega) | (dsimp only; omega)))); done))
  intro wb hb0' k0' k1'
  (try simp only [List.setIfInBounds_toArray, List.set_cons_zero, List.set_cons_succ] at k0' k1')
  try clear hb3
  try clear Lk0
  try clear Fk0
  try clear Qk0
  try clear Lk1
  try clear Fk1
  try clear Qk1
  try clear hb0
  try clear k0
  try clear k1
  have hb0 := hb0'; clear hb0'
  have k0 := k0'; clear k0'
  have k1 := k1'; clear k1'
  have Lk0 := k0.later
  have Fk0 := k0.laterF
  have Qk0 := k0.lt
  have Lk1 := k1.later
  have Fk1 := k1.laterF
  have Qk1 := k1.lt
  by_cases h0 : ne = 0
  · have h0' : (ne != 0) = false := by simp [h0]
    replace h0 := Lib.hid h0
    cases bo
    · replace hr0 := Lib.hid hr0
      go_wp2_with (go_at_call 75; (with_reducible refine (hco.out _).mono ?_); rintro e w3 ⟨rfl, hb3⟩)
      go_ret
      exact ⟨by rw [hr0.out, h0.out] <;> rfl, bl_tr hb0 hb3⟩
    go_upto_region 6 with (go_at_call 75; (with_reducible refine (hco.out _).mono ?_); rintro e w3 ⟨rfl, hb3⟩; replace hb3 := bl_tt hb3)
    apply absB2 (w0 := w) (g0 := w.heap.size) (g1 := w.heap.size + 1)
    iterate 3 (focus ((with_reducible (repeat' (first | assumption | apply jA | apply jB | apply jC | apply jD | apply jE | apply jF | apply hb3 | apply jG | apply jH | apply jI | apply jJ | apply jK | apply hb3x | (apply jL; first | (simp; done) | rfl) | apply jM | apply jN | apply jO | apply jP | apply jQ | apply jR | apply jS | apply jT (hb := hb3 _ (jA _)) | omega | (simp; done) | (simp; omega) | (dsimp only; omega)))); done))
    intro wc hb0' k0' k1'
    (try simp only [List.setIfInBounds_toArray, List.set_cons_zero, List.set_cons_succ] at k0' k1')
    try clear hb3
    try clear Lk0
    try clear Fk0
    try clear Qk0
    try clear Lk1
    try clear Fk1
    try clear Qk1
    try clear hb0
    try clear k0
    try clear k1
    have hb0 := hb0'; clear hb0'
    have k0 := k0'; clear k0'
    have k1 := k1'; clear k1'
    have Lk0 := k0.later
    have Fk0 := k0.laterF
    have Qk0 := k0.lt
    have Lk1 := k1.later
    have Fk1 := k1.laterF
    have Qk1 := k1.lt
    have hmh := meet_holds n.world b
    by_cases hq : n.world.holds b = true
    · rw [hq] at hr0
      obtain ⟨q1, q2, q3, q4, q5, q6⟩ := hmh.1 hq
      clear hmh hq
      replace hr0 := Lib.hid hr0
      refine wp_any (w0 := wc) ⟨[], [], [some 13, some 14, some 15, some 16, some 17, some 18], [[], [], [1], [0, 1, 2], [], [0, 1, 2, 3, 4]], [[], [], [1], [0, 2], [], [3, 4]]⟩ (fun _ => []) (by kernel_rfl) (by kernel_rfl) (by (with_reducible (repeat' (first | assumption | apply jA | apply jB | apply jC | apply jD | apply jE | apply jF | apply hb3 | omega | (simp; done) | (simp; omega) | (dsimp only; omega))))) (fun u => by simp only [putD, Act.put, List.setIfInBounds_toArray, List.set_cons_zero, List.set_cons_succ, Nat.zero_add, Nat.reduceAdd]; rfl) ?_
      apply RGW.on (i := 0) rfl
      · (simp only [gA, gB, gC] <;> rfl)
      · intro γ u W hcur hd
        clear hd
        (try dsimp only)
        refine ⟨rfl, ?_⟩
        go_simp <;> (try go_bits) <;> with_reducible rfl
      · exact fun _ _ _ => rfl
      · rfl
      dsimp only [nA, cA]
      apply RGW.on (i := 1) rfl
      · (simp only [gA, gB, gC] <;> rfl)
      · intro γ u W hcur hd
        clear hd
        (try dsimp only)
        refine ⟨rfl, ?_⟩
        go_simp <;> (try go_bits) <;> with_reducible rfl
      · exact fun _ _ _ => rfl
      · rfl
      dsimp only [nA, cA]
      apply RGW.on (i := 2) rfl
      · (simp only [gA, gB, gC] <;> rfl)
      · intro γ u W hcur hd
        obtain ⟨⟨h1, -, -⟩, -⟩ := hd
        dsimp only at h1
        (try simp only [h1])
        refine ⟨rfl, ?_⟩
        go_simp <;> (try go_bits) <;> with_reducible rfl
      · exact fun _ _ _ => rfl
      · rfl
      dsimp only [nA, cA]
      apply RGW.call (i := 3) rfl
      · (simp only [gA, gB, gC] <;> rfl)
      · intro γ u W hcur hd
        obtain ⟨⟨h0, -, -⟩, ⟨h2, -, -⟩, -⟩ := hd
        dsimp only at h0 h2
        (try simp only [h0, h2])
        refine ⟨rfl, fun K hK => ?_⟩
        go_simp
        (go_at_call 53; (with_reducible refine (r_Common b n.world _).mono ?_); rintro e w3 ⟨rfl, hb3⟩; replace hb3 := bl_tt hb3)
        (try dsimp only)
        exact hK.out _ _ rfl (by (with_reducible (repeat' (first | assumption | apply jA | apply jB | apply jC | apply jD | apply jE | apply jF | apply hb3 | omega | (simp; done) | (simp; omega) | (dsimp only; omega)))))
      · exact fun _ _ _ => rfl
      · rfl
      dsimp only [nA, cA]
      apply RGW.on (i := 4) rfl
      · (simp only [gA, gB, gC] <;> rfl)
      · intro γ u W hcur hd
        clear hd
        (try dsimp only)
        refine ⟨rfl, ?_⟩
        go_simp <;> (try go_bits) <;> with_reducible rfl
      · exact fun _ _ _ => rfl
      · rfl
      dsimp only [nA, cA]
      apply RGW.on (i := 5) rfl
      · (simp only [gA, gB, gC] <;> rfl)
      · intro γ u W hcur hd
        obtain ⟨⟨h3, -, -⟩, ⟨h4, -, -⟩, -⟩ := hd
        dsimp only at h3 h4
        (try simp only [h3, h4])
        refine ⟨rfl, ?_⟩
        go_simp <;> (try go_bits) <;> with_reducible rfl
      · exact fun _ _ _ => rfl
      · rfl
      dsimp only [nA, cA]
      refine RGW.fin (fun γ u wd hwd hd hdis => ?_)
      obtain ⟨⟨h0, -, -⟩, ⟨h1, -, -⟩, ⟨h2, -, -⟩, ⟨h3, -, -⟩, ⟨h4, -, -⟩, ⟨h5, -, -⟩, -⟩ := hd
      dsimp only at h0 h1 h2 h3 h4 h5
      clear hdis
      simp only [h0, h1, h2, h3, h4, h5]
      clear h5 h4 h3 h2 h1 h0
      clear u
      simp only [List.map_nil]
      refine PlanW.done ?_
      have hb3 := bl_tt hwd
      have hb1 := hb3 _ hb0
      go_wp2
      go_ret
      exact ⟨by rw [hr0.out, h0.out] <;> rfl, hb1⟩
    · have hd := fun h => hq (hmh.2 h)
      have hf : n.world.holds b = false := by simpa using hq
      rw [hf] at hr0
      clear hmh hq hf
      replace hr0 := Lib.hid hr0
      rcases first_ne hd with h | ⟨q1, h⟩ | ⟨q1, q2, h⟩ | ⟨q1, q2, q3, h⟩ | ⟨q1, q2, q3, q4, h⟩ | ⟨q1, q2, q3, q4, q5, h⟩
      all_goals
        clear hd
        refine wp_any (w0 := wc) ⟨[], [], [some 13, some 14, some 15, some 16, some 17, some 18], [[], [], [1], [0, 1, 2], [], [0, 1, 2, 3, 4]], [[], [], [1], [0, 2], [], [3, 4]]⟩ (fun _ => []) (by kernel_rfl) (by kernel_rfl) (by (with_reducible (repeat' (first | assumption | apply jA | apply jB | apply jC | apply jD | apply jE | apply jF | apply hb3 | omega | (simp; done) | (simp; omega) | (dsimp only; omega))))) (fun u => by simp only [putD, Act.put, List.setIfInBounds_toArray, List.set_cons_zero, List.set_cons_succ, Nat.zero_add, Nat.reduceAdd]; rfl) ?_
        apply RGW.on (i := 0) rfl
        · (simp only [gA, gB, gC] <;> rfl)
        · intro γ u W hcur hd
          clear hd
          (try dsimp only)
          refine ⟨rfl, ?_⟩
          go_simp <;> (try go_bits) <;> with_reducible rfl
        · exact fun _ _ _ => rfl
        · rfl
        dsimp only [nA, cA]
        apply RGW.on (i := 1) rfl
        · (simp only [gA, gB, gC] <;> rfl)
        · intro γ u W hcur hd
          clear hd
          (try dsimp only)
          refine ⟨rfl, ?_⟩
          go_simp <;> (try go_bits) <;> with_reducible rfl
        · exact fun _ _ _ => rfl
        · rfl
        dsimp only [nA, cA]
        apply RGW.on (i := 2) rfl
        · (simp only [gA, gB, gC] <;> rfl)
        · intro γ u W hcur hd
          obtain ⟨⟨h1, -, -⟩, -⟩ := hd
          dsimp only at h1
          (try simp only [h1])
          refine ⟨rfl, ?_⟩
          go_simp <;> (try go_bits) <;> with_reducible rfl
        · exact fun _ _ _ => rfl
        · rfl
        dsimp only [nA, cA]
        apply RGW.call (i := 3) rfl
        · (simp only [gA, gB, gC] <;> rfl)
        · intro γ u W hcur hd
          obtain ⟨⟨h0, -, -⟩, ⟨h2, -, -⟩, -⟩ := hd
          dsimp only at h0 h2
          (try simp only [h0, h2])
          refine ⟨rfl, fun K hK => ?_⟩
          go_simp
          (go_at_call 53; (with_reducible refine (r_Common b n.world _).mono ?_); rintro e w3 ⟨rfl, hb3⟩; replace hb3 := bl_tt hb3)
          (try dsimp only)
          exact hK.out _ _ rfl (by (with_reducible (repeat' (first | assumption | apply jA | apply jB | apply jC | apply jD | apply jE | apply jF | apply hb3 | omega | (simp; done) | (simp; omega) | (dsimp only; omega)))))
        · exact fun _ _ _ => rfl
        · rfl
        dsimp only [nA, cA]
        apply RGW.on (i := 4) rfl
        · (simp only [gA, gB, gC] <;> rfl)
        · intro γ u W hcur hd
          clear hd
          (try dsimp only)
          refine ⟨rfl, ?_⟩
          go_simp <;> (try go_bits) <;> with_reducible rfl
        · exact fun _ _ _ => rfl
        · rfl
        dsimp only [nA, cA]
        apply RGW.on (i := 5) rfl
        · (simp only [gA, gB, gC] <;> rfl)
        · intro γ u W hcur hd
          obtain ⟨⟨h3, -, -⟩, ⟨h4, -, -⟩, -⟩ := hd
          dsimp only at h3 h4
          (try simp only [h3, h4])
          refine ⟨rfl, ?_⟩
          go_simp <;> (try go_bits) <;> with_reducible rfl
        · exact fun _ _ _ => rfl
        · rfl
        dsimp only [nA, cA]
        refine RGW.fin (fun γ u wd hwd hd hdis => ?_)
        obtain ⟨⟨h0, -, -⟩, ⟨h1, -, -⟩, ⟨h2, -, -⟩, ⟨h3, -, -⟩, ⟨h4, -, -⟩, ⟨h5, -, -⟩, -⟩ := hd
        dsimp only at h0 h1 h2 h3 h4 h5
        clear hdis
        simp only [h0, h1, h2, h3, h4, h5]
        clear h5 h4 h3 h2 h1 h0
        clear u
        simp only [List.map_nil]
        refine PlanW.done ?_
        have hb3 := bl_tt hwd
        have hb1 := hb3 _ hb0
        go_wp2
        go_ret
        exact ⟨by rw [hr0.out, h0.out] <;> rfl, hb1⟩
  · have h0' : (ne != 0) = true := by simp [h0]
    have hr1 : boxErr n b = ne := by rw [hr0]; simp [fstE, h0]
    replace hr1 := Lib.hid hr1
    clear hr0
    replace h0 := Lib.hid h0
    go_wp2
    go_ret
    exact ⟨by rw [hr1.out] <;> rfl, hb0⟩
end Go.Proofs.Ytephimmamkafoaa
namespace Go.Proofs.Ytephimmamkafoaa
set_option linter.unusedSimpArgs false
set_option linter.unusedVariables false
open Go.RowKit Go.Shelf
attribute [local go_sem] bl_al bl_drew bl_drewN bl_refl bx_al bx_drew bx_drewN bx_refl
set_option maxRecDepth 20000
def lightB (n : Nt) (b : Bx) : Bool := !decide (boxErr n b = 0) || decide (20000 < b.size) || decide (b.size ≤ 700)
set_option maxHeartbeats 4000000 in
theorem r_light (n : Nt) (b : Bx) (A : Option Addr) (c : Nat) (w : World) (hn : NtIn n A c w) : Calls Try.prog 20 #[vNt n.world (.slice A n.bs.length c), vBx b] w (Ret (.bool (lightB n b)) w) := by
  have hbe := Lib.hid fun (W : World) (hb : Below w.heap.size w W) => r_BoxErr n b A c W (hn.below hb)
  clear hn
  generalize n.bs.length = nl at *
  by_cases h0 : boxErr n b = 0
  · have hbo := box_ok h0
    have hil := Lib.hid fun W : World => r_IsLarge b W hbo
    have hL : lightB n b = (decide (20000 < b.size) || decide (b.size ≤ 700)) := by simp [lightB, h0]
    rw [hL]
    rw [h0] at hbe
    clear hL h0
    have hz : b.size = (b.x.hi - b.x.lo + 1) * (b.y.hi - b.y.lo + 1) * (b.z.hi - b.z.lo + 1) := rfl
    rw [hz] at hil ⊢
    clear hz
    obtain ⟨⟨x1, x2, x3⟩, ⟨y1, y2, y3⟩, ⟨z1, z2, z3⟩⟩ := hbo
    obtain ⟨p1, p2⟩ := mul_bd (a := b.x.hi - b.x.lo + 1) (b := b.y.hi - b.y.lo + 1) (m := 20001) (n := 20001) (by omega) (by omega) (by omega) (by omega)
    obtain ⟨q1, q2⟩ := mul_bd (a := (b.x.hi - b.x.lo + 1) * (b.y.hi - b.y.lo + 1)) (b := b.z.hi - b.z.lo + 1) (m := 400040001) (n := 20001) p1 p2 (by omega) (by omega)
    obtain ⟨B, hB⟩ : ∃ B, decide (20000 < (b.x.hi - b.x.lo + 1) * (b.y.hi - b.y.lo + 1) * (b.z.hi - b.z.lo + 1)) = B := ⟨_, rfl⟩
    rw [hB] at hil ⊢
    clear hB
    cases B
    all_goals
      go_enter Try.func20, Try.ntmps20
      go_upto_region 1 with fail
      apply absB2 (w0 := w) (g0 := w.heap.size) (g1 := w.heap.size + 1)
      iterate 3 (focus ((with_reducible (repeat' (first | assumption | apply jA | apply jB | apply jC | apply jD | apply jE | apply jF | apply hb3 | apply jG | apply jH | apply jI | apply jJ | apply jK | apply hb3x | (apply jL; first | (simp; done) | rfl) | apply jM | apply jN | apply jO | apply jP | apply jQ | apply jR | apply jS | apply jT (hb := hb3 _ (jA _)) | omega | (simp; done) | (simp; omega) | (dsimp only; omega)))); done))
      intro wa hb0' k0' k1'
      (try simp only [List.setIfInBounds_toArray, List.set_cons_zero, List.set_cons_succ] at k0' k1')
      try clear hb3
      try clear hb0
      try clear k0
      try clear k1
      have hb0 := hb0'; clear hb0'
      have k0 := k0'; clear k0'
      have k1 := k1'; clear k1'
      have Lk0 := k0.later
      have Fk0 := k0.laterF
      have Qk0 := k0.lt
      have Lk1 := k1.later
      have Fk1 := k1.laterF
      have Qk1 := k1.lt
      go_wp2_with (first | (go_at_call 17; (with_reducible refine (hbe.out _ (bl_tr hb0 (by (with_reducible (repeat' (first | assumption | apply jA | apply jB | apply jC | apply jD | apply jE | apply jF | apply hb3 | omega | (simp; done) | (simp; omega) | (dsimp only; omega))))))).mono ?_); rintro e w3 ⟨rfl, hb3⟩; replace hb3 := bl_tt hb3; have hv := hb3 wa (by (with_reducible (repeat' (first | assumption | apply jA | apply jB | apply jC | apply jD | apply jE | apply jF | apply hb3 | omega | (simp; done) | (simp; omega) | (dsimp only; omega)))))) | (go_at_call 27; (with_reducible refine (hil.out _).mono ?_); rintro e w3 ⟨rfl, hb4⟩; replace hb3 := fun w h => bl_tt hb4 w (hb3 w h); have hv := hb3 wa (by (with_reducible (repeat' (first | assumption | apply jA | apply jB | apply jC | apply jD | apply jE | apply jF | apply hb3 | omega | (simp; done) | (simp; omega) | (dsimp only; omega)))))))
      go_ret
      exact ⟨by simp, bl_tr hb0 hv⟩
  · have hL : lightB n b = true := by simp [lightB, h0]
    have h0' : (boxErr n b != 0) = true := by simp [h0]
    rw [hL]
    replace h0 := Lib.hid h0
    clear hL
    go_enter Try.func20, Try.ntmps20
    go_upto_region 1 with fail
    apply absB2 (w0 := w) (g0 := w.heap.size) (g1 := w.heap.size + 1)
    iterate 3 (focus ((with_reducible (repeat' (first | assumption | apply jA | apply jB | apply jC | apply jD | apply jE | apply jF | apply hb3 | apply jG | apply jH | apply jI | apply jJ | apply jK | apply hb3x | (apply jL; first | (simp; done) | rfl) | apply jM | apply jN | apply jO | apply jP | apply jQ | apply jR | apply jS | apply jT (hb := hb3 _ (jA _)) | omega | (simp; done) | (simp; omega) | (dsimp only; omega)))); done))
    intro wa hb0' k0' k1'
    (try simp only [List.setIfInBounds_toArray, List.set_cons_zero, List.set_cons_succ] at k0' k1')
    try clear hb3
    try clear hb0
    try clear k0
    try clear k1
    have hb0 := hb0'; clear hb0'
    have k0 := k0'; clear k0'
    have k1 := k1'; clear k1'
    have Lk0 := k0.later
    have Fk0 := k0.laterF
    have Qk0 := k0.lt
    have Lk1 := k1.later
    have Fk1 := k1.laterF
    have Qk1 := k1.lt
    go_wp2_with (go_at_call 17; (with_reducible refine (hbe.out _ (bl_tr hb0 (by (with_reducible (repeat' (first | assumption | apply jA | apply jB | apply jC | apply jD | apply jE | apply jF | apply hb3 | omega | (simp; done) | (simp; omega) | (dsimp only; omega))))))).mono ?_); rintro e w3 ⟨rfl, hb3⟩; replace hb3 := bl_tt hb3; have hv := hb3 wa (by (with_reducible (repeat' (first | assumption | apply jA | apply jB | apply jC | apply jD | apply jE | apply jF | apply hb3 | omega | (simp; done) | (simp; omega) | (dsimp only; omega))))))
    go_ret
    exact ⟨rfl, bl_tr hb0 hv⟩
theorem votes_ref (bs : List Bc) (l : List Rd) (k : Int) (h : l.length ≤ 8) : okB bs l k = fun p => !decide (((agrL bs l p).length : Int) + k < (l.length : Int)) := by
  funext p
  exact okB_ref bs l k p h
theorem agrL_le (bs : List Bc) (l : List Rd) (p : Pl) (h : l.length ≤ 8) : (agrL bs l p).length ≤ 1000 := by
  have := pickL_len (agrAt bs p l) l.length
  unfold agrL
  omega
/-- The reference's vote of a box that is searched. -/
theorem r_Voted (n : Nt) (b : Bx) (v : Vt) (A A' : Option Addr) (c c' : Nat) (w : World) (hn : NtIn n A c w) (hl : Sl cRd 4 w A' v.rs) (h0 : votedE n b v = 0) (hsz : b.size ≤ 20000) :
    Calls Try.prog 86 #[vNt n.world (.slice A n.bs.length c), vBx b, .slice A' v.rs.length c', .int .i64 v.wrong] w (Ret (.tuple #[vBx (votesB n b v).1, .int .i64 (votesB n b v).2]) w) := by
  obtain ⟨hbo, h8, hr⟩ := voted_ok h0
  have hw : 0 ≤ v.wrong ∧ v.wrong ≤ v.rs.length := by
    unfold votedE voteE at h0
    simp only [fst_cons, unl_zero (show (2 : Int) ≠ 0 by decide), inR_iff] at h0
    exact h0.2.1.2.1
  rw [votesB, votes_ref n.bs v.rs v.wrong h8]
  exact r_Voted0 n.world b n.bs.length v.rs.length A A' c c' v.wrong (agrL n.bs v.rs) _ w (fun W hb p hp => r_Agreeing n.world n.bs A A' c c' v.rs p W (hn.sl.below hb) hn.len (hl.below hb) (by omega) hp hr)
    (fun p => agrL_le n.bs v.rs p h8) hw.1 (by omega) (fun _ => rfl) (fun p h => pts_in hbo h) (by have := pts_size hbo; omega) hbo.in
set_option maxHeartbeats 4000000 in
/-- Whether a vote is as specified, where the error of the arguments is so. -/
theorem r_matches (n : Nt) (b : Bx) (v : Vt) (x : Int) (A A' : Option Addr) (c c' : Nat) (w : World) (hn : NtIn n A c w) (hl : Sl cRd 4 w A' v.rs)
    (hx1 : x ≠ 0 → votedS n b v = (bx0, 0, x)) (hx0 : x = 0 → votedE n b v = 0 ∧ b.size ≤ 20000) :
    Calls Try.prog 28 #[vNt n.world (.slice A n.bs.length c), vBx b, vVt A' v.rs.length c' v.wrong, .int .i64 x, vBx (votedS n b v).1, .int .i64 (votedS n b v).2.1, .int .i64 (votedS n b v).2.2] w (Ret (.bool true) w) := by
  by_cases h0 : x = 0
  · obtain ⟨h1, h2⟩ := hx0 h0
    subst h0
    have hrv := Lib.hid fun (W : World) (hb : Below w.heap.size w W) => r_Voted n b v A A' c c' W (hn.below hb) (hl.below hb) h1 h2
    have hS : votedS n b v = if (votesB n b v).2 = 0 then (bx0, 0, 12) else ((votesB n b v).1, ((votesB n b v).2 : Int), 0) := by rw [votedS, if_pos h1, if_pos h2]
    rw [hS]
    clear hS hx1 hx0 hn hl h1 h2
    generalize n.bs.length = nl at *
    generalize v.rs.length = rl at *
    generalize votesB n b v = s at *
    obtain ⟨o, m⟩ := s
    dsimp only at hrv ⊢
    by_cases hm : m = 0
    · subst hm
      rw [if_pos rfl]
      dsimp only [bx0]
      go_enter Try.func28, Try.ntmps28
      go_upto_region 3 with fail
      apply absB4 (w0 := w) (g0 := w.heap.size) (g1 := w.heap.size + 1) (g2 := w.heap.size + 2) (g3 := w.heap.size + 3)
      iterate 5 (focus ((with_reducible (repeat' (first | assumption | apply jA | apply jB | apply jC | apply jD | apply jE | apply jF | apply hb3 | apply jG | apply jH | apply jI | apply jJ | apply jK | apply hb3x | (apply jL; first | (simp; done) | rfl) | apply jM | apply jN | apply jO | apply jP | apply jQ | apply jR | apply jS | apply jT (hb := hb3 _ (jA _)) | omega | (simp; done) | (simp; omega) | (dsimp only; omega)))); done))
      intro wa hb0' k0' k1' k2' k3'
      (try simp only [List.setIfInBounds_toArray, List.set_cons_zero, List.set_cons_succ] at k0' k1' k2' k3')
      try clear hb3
      try clear hb0
      try clear k0
      try clear k1
      try clear k2
      try clear k3
      have hb0 := hb0'; clear hb0'
      have k0 := k0'; clear k0'
      have k1 := k1'; clear k1'
      have k2 := k2'; clear k2'
      have k3 := k3'; clear k3'
      have Lk0 := k0.later
      have Fk0 := k0.laterF
      have Qk0 := k0.lt
      have Lk1 := k1.later
      have Fk1 := k1.laterF
      have Qk1 := k1.lt
      have Lk2 := k2.later
      have Fk2 := k2.laterF
      have Qk2 := k2.lt
      have Lk3 := k3.later
      have Fk3 := k3.laterF
      have Qk3 := k3.lt
      go_upto_region 4 with (go_at_call 86; (with_reducible refine (hrv.out _ (bl_tr hb0 (by (with_reducible (repeat' (first | assumption | apply jA | apply jB | apply jC | apply jD | apply jE | apply jF | apply hb3 | omega | (simp; done) | (simp; omega) | (dsimp only; omega))))))).mono ?_); rintro e w3 ⟨rfl, hb3⟩; replace hb3 := bl_tt hb3)
      apply absB5 (w0 := w) (g0 := w.heap.size) (g1 := w.heap.size + 1) (g2 := w.heap.size + 2) (g3 := w.heap.size + 3) (g4 := w3.heap.size)
      iterate 6 (focus ((with_reducible (repeat' (first | assumption | apply jA | apply jB | apply jC | apply jD | apply jE | apply jF | apply hb3 | apply jG | apply jH | apply jI | apply jJ | apply jK | apply hb3x | (apply jL; first | (simp; done) | rfl) | apply jM | apply jN | apply jO | apply jP | apply jQ | apply jR | apply jS | apply jT (hb := hb3 _ (jA _)) | omega | (simp; done) | (simp; omega) | (dsimp only; omega)))); done))
      intro wb hb0' k0' k1' k2' k3' k4'
      (try simp only [List.setIfInBounds_toArray, List.set_cons_zero, List.set_cons_succ] at k0' k1' k2' k3' k4')
      try clear hb3
      try clear Lk0
      try clear Fk0
      try clear Qk0
      try clear Lk1
      try clear Fk1
      try clear Qk1
      try clear Lk2
      try clear Fk2
      try clear Qk2
      try clear Lk3
      try clear Fk3
      try clear Qk3
      try clear hb0
      try clear k0
      try clear k1
      try clear k2
      try clear k3
      try clear k4
      have hb0 := hb0'; clear hb0'
      have k0 := k0'; clear k0'
      have k1 := k1'; clear k1'
      have k2 := k2'; clear k2'
      have k3 := k3'; clear k3'
      have k4 := k4'; clear k4'
      have Lk0 := k0.later
      have Fk0 := k0.laterF
      have Qk0 := k0.lt
      have Lk1 := k1.later
      have Fk1 := k1.laterF
      have Qk1 := k1.lt
      have Lk2 := k2.later
      have Fk2 := k2.laterF
      have Qk2 := k2.lt
      have Lk3 := k3.later
      have Fk3 := k3.laterF
      have Qk3 := k3.lt
      have Lk4 := k4.later
      have Fk4 := k4.laterF
      have Qk4 := k4.lt
      go_wp2
      go_ret
      exact ⟨rfl, hb0⟩
    · rw [if_neg hm]
      dsimp only
      have hm' : decide ((m : Int) = 0) = false := by simp [hm]
      go_enter Try.func28, Try.ntmps28
      go_upto_region 3 with fail
      apply absB4 (w0 := w) (g0 := w.heap.size) (g1 := w.heap.size + 1) (g2 := w.heap.size + 2) (g3 := w.heap.size + 3)
      iterate 5 (focus ((with_reducible (repeat' (first | assumption | apply jA | apply jB | apply jC | apply jD | apply jE | apply jF | apply hb3 | apply jG | apply jH | apply jI | apply jJ | apply jK | apply hb3x | (apply jL; first | (simp; done) | rfl) | apply jM | apply jN | apply jO | apply jP | apply jQ | apply jR | apply jS | apply jT (hb := hb3 _ (jA _)) | omega | (simp; done) | (simp; omega) | (dsimp only; omega)))); done))
      intro wa hb0' k0' k1' k2' k3'
      (try simp only [List.setIfInBounds_toArray, List.set_cons_zero, List.set_cons_succ] at k0' k1' k2' k3')
      try clear hb3
      try clear hb0
      try clear k0
      try clear k1
      try clear k2
      try clear k3
      have hb0 := hb0'; clear hb0'
      have k0 := k0'; clear k0'
      have k1 := k1'; clear k1'
      have k2 := k2'; clear k2'
      have k3 := k3'; clear k3'
      have Lk0 := k0.later
      have Fk0 := k0.laterF
      have Qk0 := k0.lt
      have Lk1 := k1.later
      have Fk1 := k1.laterF
      have Qk1 := k1.lt
      have Lk2 := k2.later
      have Fk2 := k2.laterF
      have Qk2 := k2.lt
      have Lk3 := k3.later
      have Fk3 := k3.laterF
      have Qk3 := k3.lt
      go_upto_region 4 with (go_at_call 86; (with_reducible refine (hrv.out _ (bl_tr hb0 (by (with_reducible (repeat' (first | assumption | apply jA | apply jB | apply jC | apply jD | apply jE | apply jF | apply hb3 | omega | (simp; done) | (simp; omega) | (dsimp only; omega))))))).mono ?_); rintro e w3 ⟨rfl, hb3⟩; replace hb3 := bl_tt hb3)
      apply absB5 (w0 := w) (g0 := w.heap.size) (g1 := w.heap.size + 1) (g2 := w.heap.size + 2) (g3 := w.heap.size + 3) (g4 := w3.heap.size)
      iterate 6 (focus ((with_reducible (repeat' (first | assumption | apply jA | apply jB | apply jC | apply jD | apply jE | apply jF | apply hb3 | apply jG | apply jH | apply jI | apply jJ | apply jK | apply hb3x | (apply jL; first | (simp; done) | rfl) | apply jM | apply jN | apply jO | apply jP | apply jQ | apply jR | apply jS | apply jT (hb := hb3 _ (jA _)) | omega | (simp; done) | (simp; omega) | (dsimp only; omega)))); done))
      intro wb hb0' k0' k1' k2' k3' k4'
      (try simp only [List.setIfInBounds_toArray, List.set_cons_zero, List.set_cons_succ] at k0' k1' k2' k3' k4')
      try clear hb3
      try clear Lk0
      try clear Fk0
      try clear Qk0
      try clear Lk1
      try clear Fk1
      try clear Qk1
      try clear Lk2
      try clear Fk2
      try clear Qk2
      try clear Lk3
      try clear Fk3
      try clear Qk3
      try clear hb0
      try clear k0
      try clear k1
      try clear k2
      try clear k3
      try clear k4
      have hb0 := hb0'; clear hb0'
      have k0 := k0'; clear k0'
      have k1 := k1'; clear k1'
      have k2 := k2'; clear k2'
      have k3 := k3'; clear k3'
      have k4 := k4'; clear k4'
      have Lk0 := k0.later
      have Fk0 := k0.laterF
      have Qk0 := k0.lt
      have Lk1 := k1.later
      have Fk1 := k1.laterF
      have Qk1 := k1.lt
      have Lk2 := k2.later
      have Fk2 := k2.laterF
      have Qk2 := k2.lt
      have Lk3 := k3.later
      have Fk3 := k3.laterF
      have Qk3 := k3.lt
      have Lk4 := k4.later
      have Fk4 := k4.laterF
      have Qk4 := k4.lt
      go_wp2
      go_ret
      exact ⟨by simp, hb0⟩
  · rw [hx1 h0]
    have h0' : (x != 0) = true := by simp [h0]
    clear hx1 hx0 hn hl
    replace h0 := Lib.hid h0
    generalize n.bs.length = nl at *
    generalize v.rs.length = rl at *
    dsimp only [bx0]
    go_enter Try.func28, Try.ntmps28
    go_upto_region 1 with fail
    apply absB1 (w0 := w) (g0 := w.heap.size + 3)
    iterate 2 (focus ((with_reducible (repeat' (first | assumption | apply jA | apply jB | apply jC | apply jD | apply jE | apply jF | apply hb3 | apply jG | apply jH | apply jI | apply jJ | apply jK | apply hb3x | (apply jL; first | (simp; done) | rfl) | apply jM | apply jN | apply jO | apply jP | apply jQ | apply jR | apply jS | apply jT (hb := hb3 _ (jA _)) | omega | (simp; done) | (simp; omega) | (dsimp only; omega)))); done))
    intro wa hb0' k3'
    (try simp only [List.setIfInBounds_toArray, List.set_cons_zero, List.set_cons_succ] at k3')
    try clear hb3
    try clear hb0
    try clear k3
    have hb0 := hb0'; clear hb0'
    have k3 := k3'; clear k3'
    have Lk3 := k3.later
    have Fk3 := k3.laterF
    have Qk3 := k3.lt
    go_wp2
    go_ret
    exact ⟨by simp, hb0⟩
end Go.Proofs.Ytephimmamkafoaa
