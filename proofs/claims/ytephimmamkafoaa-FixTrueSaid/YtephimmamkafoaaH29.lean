/-
  Walks: the reference's errors of a net alone, of a box, of readings.
  Walks: the law of boxes.
  Plain laws: votes contain what they count and no more; the best position is one, and none is better.
  Plain laws: the true position lies in the vote; with one more that may be wrong the vote contains it; what the answers of a reading mean for its fix.
-/
import Derived.Test.YtephimmamkafoaaH8
import Derived.Test.YtephimmamkafoaaH7
import Derived.Test.YtephimmamkafoaaG15
import Derived.Test.YtephimmamkafoaaG13
namespace Go.Proofs.Ytephimmamkafoaa
set_option linter.unusedSimpArgs false
set_option linter.unusedVariables false
open Go.RowKit Go.Shelf
attribute [local go_sem] bl_al bl_drew bl_drewN bl_refl bx_al bx_drew bx_drewN bx_refl
set_option maxRecDepth 20000
theorem r_NetErr (n : Nt) (A : Option Addr) (c : Nat) (w : World) (hn : NtIn n A c w) :
    Calls Try.prog 40 #[vNt n.world (.slice A n.bs.length c)] w (Ret (.int .i64 (netErr n)) w) := by
  have hcr := Lib.hid fun (W : World) (hb : Below w.heap.size w W) => r_CheckNet n A c W (hn.below hb) hn.len
  clear hn
  unfold netErr
  generalize n.bs.length = nl at *
  go_enter Try.func40, Try.ntmps40
  go_wp2_with fail
  refine Calls.mono (hcr.out _ ?_) ?_
  · solve_by_elim (maxDepth := 60) only [bl_al, bl_drew, bl_drewN, bl_refl, *]
  rintro e w3 ⟨rfl, hb3⟩
  replace hb3 := bl_tt hb3
  have hb1 := hb3 w (by (with_reducible (repeat' (first | assumption | apply jA | apply jB | apply jC | apply jD | apply jE | apply jF | apply hb3 | omega | (simp; done) | (simp; omega) | (dsimp only; omega)))))
  go_wp2
  go_ret
  exact ⟨rfl, hb1⟩
/-- The reference's errors of a net and its readings. -/
def refRdsE (n : Nt) (l : List Rd) : Int := if netErr n = 0 then (refReads n.bs.length l).2 else netErr n
theorem first_ne {a b c d e f : Prop} (h : ¬ (a ∧ b ∧ c ∧ d ∧ e ∧ f)) : ¬ a ∨ (a ∧ ¬ b) ∨ (a ∧ b ∧ ¬ c) ∨ (a ∧ b ∧ c ∧ ¬ d) ∨ (a ∧ b ∧ c ∧ d ∧ ¬ e) ∨ (a ∧ b ∧ c ∧ d ∧ e ∧ ¬ f) := by
  by_cases ha : a
  · by_cases hb : b
    · by_cases hc : c
      · by_cases hd : d
        · by_cases he : e
          · by_cases hf : f
            · exact absurd ⟨ha, hb, hc, hd, he, hf⟩ h
            · exact .inr (.inr (.inr (.inr (.inr ⟨ha, hb, hc, hd, he, hf⟩))))
          · exact .inr (.inr (.inr (.inr (.inl ⟨ha, hb, hc, hd, he⟩))))
        · exact .inr (.inr (.inr (.inl ⟨ha, hb, hc, hd⟩)))
      · exact .inr (.inr (.inl ⟨ha, hb, hc⟩))
    · exact .inr (.inl ⟨ha, hb⟩)
  · exact .inl ha
theorem meet_holds (a b : Bx) : a.holds b = true ↔ ((b.meet a).x.lo = b.x.lo ∧ (b.meet a).x.hi = b.x.hi ∧ (b.meet a).y.lo = b.y.lo ∧ (b.meet a).y.hi = b.y.hi ∧ (b.meet a).z.lo = b.z.lo ∧ (b.meet a).z.hi = b.z.hi) := by
  rw [Bx.holds_iff]
  simp only [Bx.meet, Rg.meet]
  constructor <;> intro h <;> omega
set_option maxHeartbeats 2000000 in
theorem r_ReadingsErr (n : Nt) (l : List Rd) (A A' : Option Addr) (c c' : Nat) (w : World) (hn : NtIn n A c w) (hl : Sl cRd 4 w A' l) (hll : l.length ≤ 1000) :
    Calls Try.prog 52 #[vNt n.world (.slice A n.bs.length c), .slice A' l.length c'] w (Ret (.int .i64 (refRdsE n l)) w) := by
  have hq1 : Hid (netErr n = 0 → refRdsE n l = (refReads n.bs.length l).2) := fun h => by rw [refRdsE, if_pos h]
  have hq2 : Hid (netErr n ≠ 0 → refRdsE n l = netErr n) := fun h => by rw [refRdsE, if_neg h]
  have hcn := Lib.hid fun (W : World) (hb : Below w.heap.size w W) => r_NetErr n A c W (hn.below hb)
  have hcr := Lib.hid fun (W : World) (hb : Below w.heap.size w W) => r_CheckReadings n.world n.bs.length l A A' c c' W (hl.below hb) hll hn.len
  clear hn hl
  generalize n.bs.length = nl at *
  generalize l.length = ll at *
  generalize netErr n = ne at *
  go_enter Try.func52, Try.ntmps52
  go_upto_region 1 with fail
  apply absB1 (w0 := w) (g0 := w.heap.size)
  iterate 2 (focus ((with_reducible (repeat' (first | assumption | apply jA | apply jB | apply jC | apply jD | apply jE | apply jF | apply hb3 | apply jG | apply jH | apply jI | apply jJ | apply jK | apply hb3x | (apply jL; first | (simp; done) | rfl) | apply jM | apply jN | apply jO | apply jP | apply jQ | apply jR | apply jS | apply jT (hb := hb3 _ (jA _)) | omega | (simp; done) | (simp; omega) | (dsimp only; omega)))); done))
  intro wa hb0' k0'
  (try simp only [List.setIfInBounds_toArray, List.set_cons_zero, List.set_cons_succ] at k0')
  try clear hb3
  try clear hb0
  try clear k0
  have hb0 := hb0'; clear hb0'
  have k0 := k0'; clear k0'
  have Lk0 := k0.later
  have Fk0 := k0.laterF
  have Qk0 := k0.lt
  go_wp2_with fail
  refine Calls.mono (hcn.out _ hb0) ?_
  rintro e w3 ⟨rfl, hb3⟩
  replace hb3 := bl_tt hb3
  apply absX1 (w0 := w) (w := w3) (g0 := w.heap.size)
  iterate 2 (focus ((with_reducible (repeat' (first | assumption | apply jA | apply jB | apply jC | apply jD | apply jE | apply jF | apply hb3 | apply jG | apply jH | apply jI | apply jJ | apply jK | apply hb3x | (apply jL; first | (simp; done) | rfl) | apply jM | apply jN | apply jO | apply jP | apply jQ | apply jR | apply jS | apply jT (hb := hb3 _ (jA _)) | omega | (simp; done) | (simp; omega) | (dsimp only; omega)))); done))
  intro wb hb0' k0'
  (try simp only [List.setIfInBounds_toArray, List.set_cons_zero, List.set_cons_succ] at k0')
  try clear hb3
  try clear Lk0
  try clear Fk0
  try clear Qk0
  try clear hb0
  try clear k0
  have hb0 := hb0'; clear hb0'
  have k0 := k0'; clear k0'
  have Lk0 := k0.later
  have Fk0 := k0.laterF
  have Qk0 := k0.lt
  by_cases h0 : ne = 0
  · have h0' : (ne != 0) = false := by simp [h0]
    replace h0 := Lib.hid h0
    go_wp2_with fail
    refine Calls.mono (hcr.out _ hb0) ?_
    rintro e w3 ⟨rfl, hb3⟩
    go_wp2
    go_ret
    exact ⟨by rw [hq1.out h0.out] <;> rfl, bl_tr hb0 hb3⟩
  · have h0' : (ne != 0) = true := by simp [h0]
    replace h0 := Lib.hid h0
    go_wp2
    go_ret
    exact ⟨by rw [hq2.out h0.out] <;> rfl, hb0⟩
set_option maxHeartbeats 2000000 in
theorem r_BoxErr (n : Nt) (b : Bx) (A : Option Addr) (c : Nat) (w : World) (hn : NtIn n A c w) :
    Calls Try.prog 17 #[vNt n.world (.slice A n.bs.length c), vBx b] w (Ret (.int .i64 (boxErr n b)) w) := by
  have hcn := Lib.hid fun (W : World) (hb : Below w.heap.size w W) => r_NetErr n A c W (hn.below hb)
  have hr0 : boxErr n b = fstE [netErr n, unl b.ordered 9, unl (n.world.holds b) 2] := rfl
  clear hn
  obtain ⟨bo, ho⟩ : ∃ b', b.ordered = b' := ⟨_, rfl⟩
  have hco := Lib.hid fun W : World => ho ▸ r_IsEmpty b W
  rw [ho] at hr0
  clear ho
  generalize n.bs.length = nl at *
  generalize netErr n = ne at *
  go_enter Try.func17, Try.ntmps17
  go_upto_region 1 with fail
  apply absB2 (w0 := w) (g0 := w.heap.size) (g1 := w.heap.size + 1)
  iterate 3 (focus ((with_reducible (repeat' (first | assumption | apply jA | apply jB | apply jC | apply jD | apply jE | apply jF | apply hb3 | apply jG | apply jH | apply jI | apply jJ | apply jK | apply hb3x | (apply jL; first | (simp; done) | rfl) | apply jM | apply jN | apply jO | apply jP | apply jQ | apply jR | apply jS | apply jT (hb := hb3 _ (jA _)) | omega | (simp; done) | (simp; omega) | (dsimp only; omega)))); done))
  intro wa hb0' k0' k1'
  (try simp only [List.setIfInBounds_toArray, List.set_cons_zero, List.set_cons_succ] at k0' k1')
  try clear hb3
  try clear hb0
  try clear k0
  try clear k1
  have hb0 := hb0'; clear hb0'
  have k0 := k0'; clear k0'
  have k1 := k1'; clear k1'
  have Lk0 := k0.later
  have Fk0 := k0.laterF
  have Qk0 := k0.lt
  have Lk1 := k1.later
  have Fk1 := k1.laterF
  have Qk1 := k1.lt
  go_wp2_with fail
  refine Calls.mono (hcn.out _ hb0) ?_
  rintro e w3 ⟨rfl, hb3⟩
  replace hb3 := bl_tt hb3
  apply absX2 (w0 := w) (w := w3) (g0 := w.heap.size) (g1 := w.heap.size + 1)
  iterate 3 (focus ((with_reducible (repeat' (first | assumption | apply jA | apply jB | apply jC | apply jD | apply jE | apply jF | apply hb3 | apply jG | apply jH | apply jI | apply jJ | apply jK | apply hb3x | (apply jL; first | (simp; done) | rfl) | apply jM | apply jN | apply jO | apply jP | apply jQ | apply jR | apply jS | apply jT (hb := hb3 _ (jA _)) | omega | (simp; done) | (simp; omega) | (dsimp only; omega)))); done))
  intro wb hb0' k0' k1'
  (try simp only [List.setIfInBounds_toArray, List.set_cons_zero, List.set_cons_succ] at k0' k1')
  try clear hb3
  try clear Lk0
  try clear Fk0
  try clear Qk0
  try clear Lk1
  try clear Fk1
  try clear Qk1
  try clear hb0
  try clear k0
  try clear k1
  have hb0 := hb0'; clear hb0'
  have k0 := k0'; clear k0'
  have k1 := k1'; clear k1'
  have Lk0 := k0.later
  have Fk0 := k0.laterF
  have Qk0 := k0.lt
  have Lk1 := k1.later
  have Fk1 := k1.laterF
  have Qk1 := k1.lt
  by_cases h0 : ne = 0
  · have h0' : (ne != 0) = false := by simp [h0]
    replace h0 := Lib.hid h0
    cases bo
    · replace hr0 := Lib.hid hr0
      go_wp2_with (go_at_call 75; (with_reducible refine (hco.out _).mono ?_); rintro e w3 ⟨rfl, hb3⟩)
      go_ret
      exact ⟨by rw [hr0.out, h0.out] <;> rfl, bl_tr hb0 hb3⟩
    go_upto_region 6 with (go_at_call 75; (with_reducible refine (hco.out _).mono ?_); rintro e w3 ⟨rfl, hb3⟩; replace hb3 := bl_tt hb3)
    apply absB2 (w0 := w) (g0 := w.heap.size) (g1 := w.heap.size + 1)
    iterate 3 (focus ((with_reducible (repeat' (first | assumption | apply jA | apply jB | apply jC | apply jD | apply jE | apply jF | apply hb3 | apply jG | apply jH | apply jI | apply jJ | apply jK | apply hb3x | (apply jL; first | (simp; done) | rfl) | apply jM | apply jN | apply jO | apply jP | apply jQ | apply jR | apply jS | apply jT (hb := hb3 _ (jA _)) | omega | (simp; done) | (simp; omega) | (dsimp only; omega)))); done))
    intro wc hb0' k0' k1'
    (try simp only [List.setIfInBounds_toArray, List.set_cons_zero, List.set_cons_succ] at k0' k1')
    try clear hb3
    try clear Lk0
    try clear Fk0
    try clear Qk0
    try clear Lk1
    try clear Fk1
    try clear Qk1
    try clear hb0
    try clear k0
    try clear k1
    have hb0 := hb0'; clear hb0'
    have k0 := k0'; clear k0'
    have k1 := k1'; clear k1'
    have Lk0 := k0.later
    have Fk0 := k0.laterF
    have Qk0 := k0.lt
    have Lk1 := k1.later
    have Fk1 := k1.laterF
    have Qk1 := k1.lt
    have hmh := meet_holds n.world b
    by_cases hq : n.world.holds b = true
    · rw [hq] at hr0
      obtain ⟨q1, q2, q3, q4, q5, q6⟩ := hmh.1 hq
      clear hmh hq
      replace hr0 := Lib.hid hr0
      refine wp_any (w0 := wc) ⟨[], [], [some 13, some 14, some 15, some 16, some 17, some 18], [[], [], [1], [0, 1, 2], [], [0, 1, 2, 3, 4]], [[], [], [1], [0, 2], [], [3, 4]]⟩ (fun _ => []) (by kernel_rfl) (by kernel_rfl) (by (with_reducible (repeat' (first | assumption | apply jA | apply jB | apply jC | apply jD | apply jE | apply jF | apply hb3 | omega | (simp; done) | (simp; omega) | (dsimp only; omega))))) (fun u => by simp only [putD, Act.put, List.setIfInBounds_toArray, List.set_cons_zero, List.set_cons_succ, Nat.zero_add, Nat.reduceAdd]; rfl) ?_
      apply RGW.on (i := 0) rfl
      · (simp only [gA, gB, gC] <;> rfl)
      · intro γ u W hcur hd
        clear hd
        (try dsimp only)
        refine ⟨rfl, ?_⟩
        go_simp <;> (try go_bits) <;> with_reducible rfl
      · exact fun _ _ _ => rfl
      · rfl
      dsimp only [nA, cA]
      apply RGW.on (i := 1) rfl
      · (simp only [gA, gB, gC] <;> rfl)
      · intro γ u W hcur hd
        clear hd
        (try dsimp only)
        refine ⟨rfl, ?_⟩
        go_simp <;> (try go_bits) <;> with_reducible rfl
      · exact fun _ _ _ => rfl
      · rfl
      dsimp only [nA, cA]
      apply RGW.on (i := 2) rfl
      · (simp only [gA, gB, gC] <;> rfl)
      · intro γ u W hcur hd
        obtain ⟨⟨h1, -, -⟩, -⟩ := hd
        dsimp only at h1
        (try simp only [h1])
        refine ⟨rfl, ?_⟩
        go_simp <;> (try go_bits) <;> with_reducible rfl
      · exact fun _ _ _ => rfl
      · rfl
      dsimp only [nA, cA]
      apply RGW.call (i := 3) rfl
      · (simp only [gA, gB, gC] <;> rfl)
      · intro γ u W hcur hd
        obtain ⟨⟨h0, -, -⟩, ⟨h2, -, -⟩, -⟩ := hd
        dsimp only at h0 h2
        (try simp only [h0, h2])
        refine ⟨rfl, fun K hK => ?_⟩
        go_simp
        (go_at_call 53; (with_reducible refine (r_Common b n.world _).mono ?_); rintro e w3 ⟨rfl, hb3⟩; replace hb3 := bl_tt hb3)
        (try dsimp only)
        exact hK.out _ _ rfl (by (with_reducible (repeat' (first | assumption | apply jA | apply jB | apply jC | apply jD | apply jE | apply jF | apply hb3 | omega | (simp; done) | (simp; omega) | (dsimp only; omega)))))
      · exact fun _ _ _ => rfl
      · rfl
      dsimp only [nA, cA]
      apply RGW.on (i := 4) rfl
      · (simp only [gA, gB, gC] <;> rfl)
      · intro γ u W hcur hd
        clear hd
        (try dsimp only)
        refine ⟨rfl, ?_⟩
        go_simp <;> (try go_bits) <;> with_reducible rfl
      · exact fun _ _ _ => rfl
      · rfl
      dsimp only [nA, cA]
      apply RGW.on (i := 5) rfl
      · (simp only [gA, gB, gC] <;> rfl)
      · intro γ u W hcur hd
        obtain ⟨⟨h3, -, -⟩, ⟨h4, -, -⟩, -⟩ := hd
        dsimp only at h3 h4
        (try simp only [h3, h4])
        refine ⟨rfl, ?_⟩
        go_simp <;> (try go_bits) <;> with_reducible rfl
      · exact fun _ _ _ => rfl
      · rfl
      dsimp only [nA, cA]
      refine RGW.fin (fun γ u wd hwd hd hdis => ?_)
      obtain ⟨⟨h0, -, -⟩, ⟨h1, -, -⟩, ⟨h2, -, -⟩, ⟨h3, -, -⟩, ⟨h4, -, -⟩, ⟨h5, -, -⟩, -⟩ := hd
      dsimp only at h0 h1 h2 h3 h4 h5
      clear hdis
      simp only [h0, h1, h2, h3, h4, h5]
      clear h5 h4 h3 h2 h1 h0
      clear u
      simp only [List.map_nil]
      refine PlanW.done ?_
      have hb3 := bl_tt hwd
      have hb1 := hb3 _ hb0
      go_wp2
      go_ret
      exact ⟨by rw [hr0.out, h0.out] <;> rfl, hb1⟩
    · have hd := fun h => hq (hmh.2 h)
      have hf : n.world.holds b = false := by simpa using hq
      rw [hf] at hr0
      clear hmh hq hf
      replace hr0 := Lib.hid hr0
      rcases first_ne hd with h | ⟨q1, h⟩ | ⟨q1, q2, h⟩ | ⟨q1, q2, q3, h⟩ | ⟨q1, q2, q3, q4, h⟩ | ⟨q1, q2, q3, q4, q5, h⟩
      all_goals
        clear hd
        refine wp_any (w0 := wc) ⟨[], [], [some 13, some 14, some 15, some 16, some 17, some 18], [[], [], [1], [0, 1, 2], [], [0, 1, 2, 3, 4]], [[], [], [1], [0, 2], [], [3, 4]]⟩ (fun _ => []) (by kernel_rfl) (by kernel_rfl) (by (with_reducible (repeat' (first | assumption | apply jA | apply jB | apply jC | apply jD | apply jE | apply jF | apply hb3 | omega | (simp; done) | (simp; omega) | (dsimp only; omega))))) (fun u => by simp only [putD, Act.put, List.setIfInBounds_toArray, List.set_cons_zero, List.set_cons_succ, Nat.zero_add, Nat.reduceAdd]; rfl) ?_
        apply RGW.on (i := 0) rfl
        · (simp only [gA, gB, gC] <;> rfl)
        · intro γ u W hcur hd
          clear hd
          (try dsimp only)
          refine ⟨rfl, ?_⟩
          go_simp <;> (try go_bits) <;> with_reducible rfl
        · exact fun _ _ _ => rfl
        · rfl
        dsimp only [nA, cA]
        apply RGW.on (i := 1) rfl
        · (simp only [gA, gB, gC] <;> rfl)
        · intro γ u W hcur hd
          clear hd
          (try dsimp only)
          refine ⟨rfl, ?_⟩
          go_simp <;> (try go_bits) <;> with_reducible rfl
        · exact fun _ _ _ => rfl
        · rfl
        dsimp only [nA, cA]
        apply RGW.on (i := 2) rfl
        · (simp only [gA, gB, gC] <;> rfl)
        · intro γ u W hcur hd
          obtain ⟨⟨h1, -, -⟩, -⟩ := hd
          dsimp only at h1
          (try simp only [h1])
          refine ⟨rfl, ?_⟩
          go_simp <;> (try go_bits) <;> with_reducible rfl
        · exact fun _ _ _ => rfl
        · rfl
        dsimp only [nA, cA]
        apply RGW.call (i := 3) rfl
        · (simp only [gA, gB, gC] <;> rfl)
        · intro γ u W hcur hd
          obtain ⟨⟨h0, -, -⟩, ⟨h2, -, -⟩, -⟩ := hd
          dsimp only at h0 h2
          (try simp only [h0, h2])
          refine ⟨rfl, fun K hK => ?_⟩
          go_simp
          (go_at_call 53; (with_reducible refine (r_Common b n.world _).mono ?_); rintro e w3 ⟨rfl, hb3⟩; replace hb3 := bl_tt hb3)
          (try dsimp only)
          exact hK.out _ _ rfl (by (with_reducible (repeat' (first | assumption | apply jA | apply jB | apply jC | apply jD | apply jE | apply jF | apply hb3 | omega | (simp; done) | (simp; omega) | (dsimp only; omega)))))
        · exact fun _ _ _ => rfl
        · rfl
        dsimp only [nA, cA]
        apply RGW.on (i := 4) rfl
        · (simp only [gA, gB, gC] <;> rfl)
        · intro γ u W hcur hd
          clear hd
          (try dsimp only)
          refine ⟨rfl, ?_⟩
          go_simp <;> (try go_bits) <;> with_reducible rfl
        · exact fun _ _ _ => rfl
        · rfl
        dsimp only [nA, cA]
        apply RGW.on (i := 5) rfl
        · (simp only [gA, gB, gC] <;> rfl)
        · intro γ u W hcur hd
          obtain ⟨⟨h3, -, -⟩, ⟨h4, -, -⟩, -⟩ := hd
          dsimp only at h3 h4
          (try simp only [h3, h4])
          refine ⟨rfl, ?_⟩
          go_simp <;> (try go_bits) <;> with_reducible rfl
        · exact fun _ _ _ => rfl
        · rfl
        dsimp only [nA, cA]
        refine RGW.fin (fun γ u wd hwd hd hdis => ?_)
        obtain ⟨⟨h0, -, -⟩, ⟨h1, -, -⟩, ⟨h2, -, -⟩, ⟨h3, -, -⟩, ⟨h4, -, -⟩, ⟨h5, -, -⟩, -⟩ := hd
        dsimp only at h0 h1 h2 h3 h4 h5
        clear hdis
        simp only [h0, h1, h2, h3, h4, h5]
        clear h5 h4 h3 h2 h1 h0
        clear u
        simp only [List.map_nil]
        refine PlanW.done ?_
        have hb3 := bl_tt hwd
        have hb1 := hb3 _ hb0
        go_wp2
        go_ret
        exact ⟨by rw [hr0.out, h0.out] <;> rfl, hb1⟩
  · have h0' : (ne != 0) = true := by simp [h0]
    have hr1 : boxErr n b = ne := by rw [hr0]; simp [fstE, h0]
    replace hr1 := Lib.hid hr1
    clear hr0
    replace h0 := Lib.hid h0
    go_wp2
    go_ret
    exact ⟨by rw [hr1.out] <;> rfl, hb0⟩
end Go.Proofs.Ytephimmamkafoaa
namespace Go.Proofs.Ytephimmamkafoaa
set_option linter.unusedSimpArgs false
set_option linter.unusedVariables false
open Go.RowKit Go.Shelf
attribute [local go_sem] bl_al bl_drew bl_drewN bl_refl bx_al bx_drew bx_drewN bx_refl
set_option maxRecDepth 20000
def lightB (n : Nt) (b : Bx) : Bool := !decide (boxErr n b = 0) || decide (20000 < b.size) || decide (b.size ≤ 700)
set_option maxHeartbeats 4000000 in
theorem r_light (n : Nt) (b : Bx) (A : Option Addr) (c : Nat) (w : World) (hn : NtIn n A c w) : Calls Try.prog 20 #[vNt n.world (.slice A n.bs.length c), vBx b] w (Ret (.bool (lightB n b)) w) := by
  have hbe := Lib.hid fun (W : World) (hb : Below w.heap.size w W) => r_BoxErr n b A c W (hn.below hb)
  clear hn
  generalize n.bs.length = nl at *
  by_cases h0 : boxErr n b = 0
  · have hbo := box_ok h0
    have hil := Lib.hid fun W : World => r_IsLarge b W hbo
    have hL : lightB n b = (decide (20000 < b.size) || decide (b.size ≤ 700)) := by simp [lightB, h0]
    rw [hL]
    rw [h0] at hbe
    clear hL h0
    have hz : b.size = (b.x.hi - b.x.lo + 1) * (b.y.hi - b.y.lo + 1) * (b.z.hi - b.z.lo + 1) := rfl
    rw [hz] at hil ⊢
    clear hz
    obtain ⟨⟨x1, x2, x3⟩, ⟨y1, y2, y3⟩, ⟨z1, z2, z3⟩⟩ := hbo
    obtain ⟨p1, p2⟩ := mul_bd (a := b.x.hi - b.x.lo + 1) (b := b.y.hi - b.y.lo + 1) (m := 20001) (n := 20001) (by omega) (by omega) (by omega) (by omega)
    obtain ⟨q1, q2⟩ := mul_bd (a := (b.x.hi - b.x.lo + 1) * (b.y.hi - b.y.lo + 1)) (b := b.z.hi - b.z.lo + 1) (m := 400040001) (n := 20001) p1 p2 (by omega) (by omega)
    obtain ⟨B, hB⟩ : ∃ B, decide (20000 < (b.x.hi - b.x.lo + 1) * (b.y.hi - b.y.lo + 1) * (b.z.hi - b.z.lo + 1)) = B := ⟨_, rfl⟩
    rw [hB] at hil ⊢
    clear hB
    cases B
    all_goals
      go_enter Try.func20, Try.ntmps20
      go_upto_region 1 with fail
      apply absB2 (w0 := w) (g0 := w.heap.size) (g1 := w.heap.size + 1)
      iterate 3 (focus ((with_reducible (repeat' (first | assumption | apply jA | apply jB | apply jC | apply jD | apply jE | apply jF | apply hb3 | apply jG | apply jH | apply jI | apply jJ | apply jK | apply hb3x | (apply jL; first | (simp; done) | rfl) | apply jM | apply jN | apply jO | apply jP | apply jQ | apply jR | apply jS | apply jT (hb := hb3 _ (jA _)) | omega | (simp; done) | (simp; omega) | (dsimp only; omega)))); done))
      intro wa hb0' k0' k1'
      (try simp only [List.setIfInBounds_toArray, List.set_cons_zero, List.set_cons_succ] at k0' k1')
      try clear hb3
      try clear hb0
      try clear k0
      try clear k1
      have hb0 := hb0'; clear hb0'
      have k0 := k0'; clear k0'
      have k1 := k1'; clear k1'
      have Lk0 := k0.later
      have Fk0 := k0.laterF
      have Qk0 := k0.lt
      have Lk1 := k1.later
      have Fk1 := k1.laterF
      have Qk1 := k1.lt
      go_wp2_with (first | (go_at_call 17; (with_reducible refine (hbe.out _ (bl_tr hb0 (by (with_reducible (repeat' (first | assumption | apply jA | apply jB | apply jC | apply jD | apply jE | apply jF | apply hb3 | omega | (simp; done) | (simp; omega) | (dsimp only; omega))))))).mono ?_); rintro e w3 ⟨rfl, hb3⟩; replace hb3 := bl_tt hb3; have hv := hb3 wa (by (with_reducible (repeat' (first | assumption | apply jA | apply jB | apply jC | apply jD | apply jE | apply jF | apply hb3 | omega | (simp; done) | (simp; omega) | (dsimp only; omega)))))) | (go_at_call 27; (with_reducible refine (hil.out _).mono ?_); rintro e w3 ⟨rfl, hb4⟩; replace hb3 := fun w h => bl_tt hb4 w (hb3 w h); have hv := hb3 wa (by (with_reducible (repeat' (first | assumption | apply jA | apply jB | apply jC | apply jD | apply jE | apply jF | apply hb3 | omega | (simp; done) | (simp; omega) | (dsimp only; omega)))))))
      go_ret
      exact ⟨by simp, bl_tr hb0 hv⟩
  · have hL : lightB n b = true := by simp [lightB, h0]
    have h0' : (boxErr n b != 0) = true := by simp [h0]
    rw [hL]
    replace h0 := Lib.hid h0
    clear hL
    go_enter Try.func20, Try.ntmps20
    go_upto_region 1 with fail
    apply absB2 (w0 := w) (g0 := w.heap.size) (g1 := w.heap.size + 1)
    iterate 3 (focus ((with_reducible (repeat' (first | assumption | apply jA | apply jB | apply jC | apply jD | apply jE | apply jF | apply hb3 | apply jG | apply jH | apply jI | apply jJ | apply jK | apply hb3x | (apply jL; first | (simp; done) | rfl) | apply jM | apply jN | apply jO | apply jP | apply jQ | apply jR | apply jS | apply jT (hb := hb3 _ (jA _)) | omega | (simp; done) | (simp; omega) | (dsimp only; omega)))); done))
    intro wa hb0' k0' k1'
    (try simp only [List.setIfInBounds_toArray, List.set_cons_zero, List.set_cons_succ] at k0' k1')
    try clear hb3
    try clear hb0
    try clear k0
    try clear k1
    have hb0 := hb0'; clear hb0'
    have k0 := k0'; clear k0'
    have k1 := k1'; clear k1'
    have Lk0 := k0.later
    have Fk0 := k0.laterF
    have Qk0 := k0.lt
    have Lk1 := k1.later
    have Fk1 := k1.laterF
    have Qk1 := k1.lt
    go_wp2_with (go_at_call 17; (with_reducible refine (hbe.out _ (bl_tr hb0 (by (with_reducible (repeat' (first | assumption | apply jA | apply jB | apply jC | apply jD | apply jE | apply jF | apply hb3 | omega | (simp; done) | (simp; omega) | (dsimp only; omega))))))).mono ?_); rintro e w3 ⟨rfl, hb3⟩; replace hb3 := bl_tt hb3; have hv := hb3 wa (by (with_reducible (repeat' (first | assumption | apply jA | apply jB | apply jC | apply jD | apply jE | apply jF | apply hb3 | omega | (simp; done) | (simp; omega) | (dsimp only; omega))))))
    go_ret
    exact ⟨rfl, bl_tr hb0 hv⟩
theorem votes_ref (bs : List Bc) (l : List Rd) (k : Int) (h : l.length ≤ 8) : okB bs l k = fun p => !decide (((agrL bs l p).length : Int) + k < (l.length : Int)) := by
  funext p
  exact okB_ref bs l k p h
theorem agrL_le (bs : List Bc) (l : List Rd) (p : Pl) (h : l.length ≤ 8) : (agrL bs l p).length ≤ 1000 := by
  have := pickL_len (agrAt bs p l) l.length
  unfold agrL
  omega
/-- The reference's vote of a box that is searched. -/
theorem r_Voted (n : Nt) (b : Bx) (v : Vt) (A A' : Option Addr) (c c' : Nat) (w : World) (hn : NtIn n A c w) (hl : Sl cRd 4 w A' v.rs) (h0 : votedE n b v = 0) (hsz : b.size ≤ 20000) :
    Calls Try.prog 86 #[vNt n.world (.slice A n.bs.length c), vBx b, .slice A' v.rs.length c', .int .i64 v.wrong] w (Ret (.tuple #[vBx (votesB n b v).1, .int .i64 (votesB n b v).2]) w) := by
  obtain ⟨hbo, h8, hr⟩ := voted_ok h0
  have hw : 0 ≤ v.wrong ∧ v.wrong ≤ v.rs.length := by
    unfold votedE voteE at h0
    simp only [fst_cons, unl_zero (show (2 : Int) ≠ 0 by decide), inR_iff] at h0
    exact h0.2.1.2.1
  rw [votesB, votes_ref n.bs v.rs v.wrong h8]
  exact r_Voted0 n.world b n.bs.length v.rs.length A A' c c' v.wrong (agrL n.bs v.rs) _ w (fun W hb p hp => r_Agreeing n.world n.bs A A' c c' v.rs p W (hn.sl.below hb) hn.len (hl.below hb) (by omega) hp hr)
    (fun p => agrL_le n.bs v.rs p h8) hw.1 (by omega) (fun _ => rfl) (fun p h => pts_in hbo h) (by have := pts_size hbo; omega) hbo.in
set_option maxHeartbeats 4000000 in
/-- Whether a vote is as specified, where the error of the arguments is so. -/
theorem r_matches (n : Nt) (b : Bx) (v : Vt) (x : Int) (A A' : Option Addr) (c c' : Nat) (w : World) (hn : NtIn n A c w) (hl : Sl cRd 4 w A' v.rs)
    (hx1 : x ≠ 0 → votedS n b v = (bx0, 0, x)) (hx0 : x = 0 → votedE n b v = 0 ∧ b.size ≤ 20000) :
    Calls Try.prog 28 #[vNt n.world (.slice A n.bs.length c), vBx b, vVt A' v.rs.length c' v.wrong, .int .i64 x, vBx (votedS n b v).1, .int .i64 (votedS n b v).2.1, .int .i64 (votedS n b v).2.2] w (Ret (.bool true) w) := by
  by_cases h0 : x = 0
  · obtain ⟨h1, h2⟩ := hx0 h0
    subst h0
    have hrv := Lib.hid fun (W : World) (hb : Below w.heap.size w W) => r_Voted n b v A A' c c' W (hn.below hb) (hl.below hb) h1 h2
    have hS : votedS n b v = if (votesB n b v).2 = 0 then (bx0, 0, 12) else ((votesB n b v).1, ((votesB n b v).2 : Int), 0) := by rw [votedS, if_pos h1, if_pos h2]
    rw [hS]
    clear hS hx1 hx0 hn hl h1 h2
    generalize n.bs.length = nl at *
    generalize v.rs.length = rl at *
    generalize votesB n b v = s at *
    obtain ⟨o, m⟩ := s
    dsimp only at hrv ⊢
    by_cases hm : m = 0
    · subst hm
      rw [if_pos rfl]
      dsimp only [bx0]
      go_enter Try.func28, Try.ntmps28
      go_upto_region 3 with fail
      apply absB4 (w0 := w) (g0 := w.heap.size) (g1 := w.heap.size + 1) (g2 := w.heap.size + 2) (g3 := w.heap.size + 3)
      iterate 5 (focus ((with_reducible (repeat' (first | assumption | apply jA | apply jB | apply jC | apply jD | apply jE | apply jF | apply hb3 | apply jG | apply jH | apply jI | apply jJ | apply jK | apply hb3x | (apply jL; first | (simp; done) | rfl) | apply jM | apply jN | apply jO | apply jP | apply jQ | apply jR | apply jS | apply jT (hb := hb3 _ (jA _)) | omega | (simp; done) | (simp; omega) | (dsimp only; omega)))); done))
      intro wa hb0' k0' k1' k2' k3'
      (try simp only [List.setIfInBounds_toArray, List.set_cons_zero, List.set_cons_succ] at k0' k1' k2' k3')
      try clear hb3
      try clear hb0
      try clear k0
      try clear k1
      try clear k2
      try clear k3
      have hb0 := hb0'; clear hb0'
      have k0 := k0'; clear k0'
      have k1 := k1'; clear k1'
      have k2 := k2'; clear k2'
      have k3 := k3'; clear k3'
      have Lk0 := k0.later
      have Fk0 := k0.laterF
      have Qk0 := k0.lt
      have Lk1 := k1.later
      have Fk1 := k1.laterF
      have Qk1 := k1.lt
      have Lk2 := k2.later
      have Fk2 := k2.laterF
      have Qk2 := k2.lt
      have Lk3 := k3.later
      have Fk3 := k3.laterF
      have Qk3 := k3.lt
      go_upto_region 4 with (go_at_call 86; (with_reducible refine (hrv.out _ (bl_tr hb0 (by (with_reducible (repeat' (first | assumption | apply jA | apply jB | apply jC | apply jD | apply jE | apply jF | apply hb3 | omega | (simp; done) | (simp; omega) | (dsimp only; omega))))))).mono ?_); rintro e w3 ⟨rfl, hb3⟩; replace hb3 := bl_tt hb3)
      apply absB5 (w0 := w) (g0 := w.heap.size) (g1 := w.heap.size + 1) (g2 := w.heap.size + 2) (g3 := w.heap.size + 3) (g4 := w3.heap.size)
      iterate 6 (focus ((with_reducible (repeat' (first | assumption | apply jA | apply jB | apply jC | apply jD | apply jE | apply jF | apply hb3 | apply jG | apply jH | apply jI | apply jJ | apply jK | apply hb3x | (apply jL; first | (simp; done) | rfl) | apply jM | apply jN | apply jO | apply jP | apply jQ | apply jR | apply jS | apply jT (hb := hb3 _ (jA _)) | omega | (simp; done) | (simp; omega) | (dsimp only; omega)))); done))
      intro wb hb0' k0' k1' k2' k3' k4'
      (try simp only [List.setIfInBounds_toArray, List.set_cons_zero, List.set_cons_succ] at k0' k1' k2' k3' k4')
      try clear hb3
      try clear Lk0
      try clear Fk0
      try clear Qk0
      try clear Lk1
      try clear Fk1
      try clear Qk1
      try clear Lk2
      try clear Fk2
      try clear Qk2
      try clear Lk3
      try clear Fk3
      try clear Qk3
      try clear hb0
      try clear k0
      try clear k1
      try clear k2
      try clear k3
      try clear k4
      have hb0 := hb0'; clear hb0'
      have k0 := k0'; clear k0'
      have k1 := k1'; clear k1'
      have k2 := k2'; clear k2'
      have k3 := k3'; clear k3'
      have k4 := k4'; clear k4'
      have Lk0 := k0.later
      have Fk0 := k0.laterF
      have Qk0 := k0.lt
      have Lk1 := k1.later
      have Fk1 := k1.laterF
      have Qk1 := k1.lt
      have Lk2 := k2.later
      have Fk2 := k2.laterF
      have Qk2 := k2.lt
      have Lk3 := k3.later
      have Fk3 := k3.laterF
      have Qk3 := k3.lt
      have Lk4 := k4.later
      have Fk4 := k4.laterF
      have Qk4 := k4.lt
      go_wp2
      go_ret
      exact ⟨rfl, hb0⟩
    · rw [if_neg hm]
      dsimp only
      have hm' : decide ((m : Int) = 0) = false := by simp [hm]
      go_enter Try.func28, Try.ntmps28
      go_upto_region 3 with fail
      apply absB4 (w0 := w) (g0 := w.heap.size) (g1 := w.heap.size + 1) (g2 := w.heap.size + 2) (g3 := w.heap.size + 3)
      iterate 5 (focus ((with_reducible (repeat' (first | assumption | apply jA | apply jB | apply jC | apply jD | apply jE | apply jF | apply hb3 | apply jG | apply jH | apply jI | apply jJ | apply jK | apply hb3x | (apply jL; first | (simp; done) | rfl) | apply jM | apply jN | apply jO | apply jP | apply jQ | apply jR | apply jS | apply jT (hb := hb3 _ (jA _)) | omega | (simp; done) | (simp; omega) | (dsimp only; omega)))); done))
      intro wa hb0' k0' k1' k2' k3'
      (try simp only [List.setIfInBounds_toArray, List.set_cons_zero, List.set_cons_succ] at k0' k1' k2' k3')
      try clear hb3
      try clear hb0
      try clear k0
      try clear k1
      try clear k2
      try clear k3
      have hb0 := hb0'; clear hb0'
      have k0 := k0'; clear k0'
      have k1 := k1'; clear k1'
      have k2 := k2'; clear k2'
      have k3 := k3'; clear k3'
      have Lk0 := k0.later
      have Fk0 := k0.laterF
      have Qk0 := k0.lt
      have Lk1 := k1.later
      have Fk1 := k1.laterF
      have Qk1 := k1.lt
      have Lk2 := k2.later
      have Fk2 := k2.laterF
      have Qk2 := k2.lt
      have Lk3 := k3.later
      have Fk3 := k3.laterF
      have Qk3 := k3.lt
      go_upto_region 4 with (go_at_call 86; (with_reducible refine (hrv.out _ (bl_tr hb0 (by (with_reducible (repeat' (first | assumption | apply jA | apply jB | apply jC | apply jD | apply jE | apply jF | apply hb3 | omega | (simp; done) | (simp; omega) | (dsimp only; omega))))))).mono ?_); rintro e w3 ⟨rfl, hb3⟩; replace hb3 := bl_tt hb3)
      apply absB5 (w0 := w) (g0 := w.heap.size) (g1 := w.heap.size + 1) (g2 := w.heap.size + 2) (g3 := w.heap.size + 3) (g4 := w3.heap.size)
      iterate 6 (focus ((with_reducible (repeat' (first | assumption | apply jA | apply jB | apply jC | apply jD | apply jE | apply jF | apply hb3 | apply jG | apply jH | apply jI | apply jJ | apply jK | apply hb3x | (apply jL; first | (simp; done) | rfl) | apply jM | apply jN | apply jO | apply jP | apply jQ | apply jR | apply jS | apply jT (hb := hb3 _ (jA _)) | omega | (simp; done) | (simp; omega) | (dsimp only; omega)))); done))
      intro wb hb0' k0' k1' k2' k3' k4'
      (try simp only [List.setIfInBounds_toArray, List.set_cons_zero, List.set_cons_succ] at k0' k1' k2' k3' k4')
      try clear hb3
      try clear Lk0
      try clear Fk0
      try clear Qk0
      try clear Lk1
      try clear Fk1
      try clear Qk1
      try clear Lk2
      try clear Fk2
      try clear Qk2
      try clear Lk3
      try clear Fk3
      try clear Qk3
      try clear hb0
      try clear k0
      try clear k1
      try clear k2
      try clear k3
      try clear k4
      have hb0 := hb0'; clear hb0'
      have k0 := k0'; clear k0'
      have k1 := k1'; clear k1'
      have k2 := k2'; clear k2'
      have k3 := k3'; clear k3'
      have k4 := k4'; clear k4'
      have Lk0 := k0.later
      have Fk0 := k0.laterF
      have Qk0 := k0.lt
      have Lk1 := k1.later
      have Fk1 := k1.laterF
      have Qk1 := k1.lt
      have Lk2 := k2.later
      have Fk2 := k2.laterF
      have Qk2 := k2.lt
      have Lk3 := k3.later
      have Fk3 := k3.laterF
      have Qk3 := k3.lt
      have Lk4 := k4.later
      have Fk4 := k4.laterF
      have Qk4 := k4.lt
      go_wp2
      go_ret
      exact ⟨by simp, hb0⟩
  · rw [hx1 h0]
    have h0' : (x != 0) = true := by simp [h0]
    clear hx1 hx0 hn hl
    replace h0 := Lib.hid h0
    generalize n.bs.length = nl at *
    generalize v.rs.length = rl at *
    dsimp only [bx0]
    go_enter Try.func28, Try.ntmps28
    go_upto_region 1 with fail
    apply absB1 (w0 := w) (g0 := w.heap.size + 3)
    iterate 2 (focus ((with_reducible (repeat' (first | assumption | apply jA | apply jB | apply jC | apply jD | apply jE | apply jF | apply hb3 | apply jG | apply jH | apply jI | apply jJ | apply jK | apply hb3x | (apply jL; first | (simp; done) | rfl) | apply jM | apply jN | apply jO | apply jP | apply jQ | apply jR | apply jS | apply jT (hb := hb3 _ (jA _)) | omega | (simp; done) | (simp; omega) | (dsimp only; omega)))); done))
    intro wa hb0' k3'
    (try simp only [List.setIfInBounds_toArray, List.set_cons_zero, List.set_cons_succ] at k3')
    try clear hb3
    try clear hb0
    try clear k3
    have hb0 := hb0'; clear hb0'
    have k3 := k3'; clear k3'
    have Lk3 := k3.later
    have Fk3 := k3.laterF
    have Qk3 := k3.lt
    go_wp2
    go_ret
    exact ⟨by simp, hb0⟩
end Go.Proofs.Ytephimmamkafoaa
namespace Go.Proofs.Ytephimmamkafoaa
set_option linter.unusedSimpArgs false
set_option linter.unusedVariables false
theorem snoc_ind {α : Type} {P : List α → Prop} (h0 : P []) (hs : ∀ l a, P l → P (l ++ [a])) (l : List α) : P l := by
  have h : ∀ m : List α, P m.reverse := fun m => by
    induction m with
    | nil => exact h0
    | cons a m ih => rw [List.reverse_cons]; exact hs _ _ ih
  have := h l.reverse
  rwa [List.reverse_reverse] at this
/-- A box within another. -/
def Bx.sub (a B : Bx) : Prop := (B.x.lo ≤ a.x.lo ∧ a.x.hi ≤ B.x.hi) ∧ (B.y.lo ≤ a.y.lo ∧ a.y.hi ≤ B.y.hi) ∧ B.z.lo ≤ a.z.lo ∧ a.z.hi ≤ B.z.hi
theorem has_iff {a : Bx} {p : Pl} : a.has p = true ↔ (a.x.lo ≤ p.x ∧ p.x ≤ a.x.hi) ∧ (a.y.lo ≤ p.y ∧ p.y ≤ a.y.hi) ∧ a.z.lo ≤ p.z ∧ p.z ≤ a.z.hi := by
  unfold Bx.has
  simp only [Bool.and_eq_true, inR_iff]
  exact ⟨fun h => ⟨h.1.1, h.1.2, h.2⟩, fun h => ⟨⟨h.1, h.2.1⟩, h.2.2⟩⟩
theorem Bx.sub.has {a B : Bx} (h : a.sub B) {p : Pl} (hp : a.has p = true) : B.has p = true := by
  rw [has_iff] at hp ⊢
  obtain ⟨h1, h2, h3⟩ := h
  omega
theorem join_has {a : Bx} {p q : Pl} : (a.has p = true → (a.join q.one).has p = true) ∧ (a.join q.one).has q = true := by
  simp only [has_iff, Bx.join, Rg.join, Pl.one]
  omega
theorem one_has (q : Pl) : q.one.has q = true := by
  simp only [has_iff, Pl.one]
  omega
theorem votes_inv (ok : Pl → Bool) (ps : List Pl) : (votesOf ok ps).2 = ps.countP ok ∧ ((votesOf ok ps).2 ≠ 0 → (∀ p ∈ ps, ok p = true → (votesOf ok ps).1.has p = true) ∧ ∀ B : Bx, (∀ p ∈ ps, ok p = true → B.has p = true) → (votesOf ok ps).1.sub B) := by
  induction ps using snoc_ind with
  | h0 => exact ⟨rfl, fun h => absurd rfl h⟩
  | hs ps q ih =>
    obtain ⟨h1, h2⟩ := ih
    rw [votesOf_snoc, voteF, List.countP_append, List.countP_cons, List.countP_nil]
    by_cases hq : ok q = true
    · rw [if_pos hq]
      refine ⟨by simp [hq, h1], fun _ => ?_⟩
      by_cases h0 : (votesOf ok ps).2 = 0
      · rw [if_pos h0]
        have hn : ∀ p ∈ ps, ¬ ok p = true := by
          rw [h1] at h0
          exact List.countP_eq_zero.1 h0
        refine ⟨fun p hp hk => ?_, fun B hB => ?_⟩
        · rcases List.mem_append.1 hp with h | h
          · exact absurd hk (hn p h)
          · rw [List.mem_singleton.1 h]
            exact one_has q
        · have := has_iff.1 (hB q (by simp) hq)
          unfold Bx.sub Pl.one
          dsimp only
          omega
      · rw [if_neg h0]
        obtain ⟨h3, h4⟩ := h2 h0
        refine ⟨fun p hp hk => ?_, fun B hB => ?_⟩
        · rcases List.mem_append.1 hp with h | h
          · exact join_has.1 (h3 p h hk)
          · rw [List.mem_singleton.1 h]
            exact (join_has (p := q)).2
        · have ha := has_iff.1 (hB q (by simp) hq)
          obtain ⟨b1, b2, b3⟩ := h4 B fun p hp hk => hB p (List.mem_append_left _ hp) hk
          unfold Bx.sub Bx.join Rg.join Pl.one
          dsimp only
          omega
    · rw [if_neg hq]
      refine ⟨by simp [hq, h1], fun h0 => ?_⟩
      obtain ⟨h3, h4⟩ := h2 h0
      refine ⟨fun p hp hk => ?_, fun B hB => h4 B fun p hp hk => hB p (List.mem_append_left _ hp) hk⟩
      rcases List.mem_append.1 hp with h | h
      · exact h3 p h hk
      · rw [List.mem_singleton.1 h] at hk
        exact absurd hk hq
theorem best_inv (g : Pl → List Int) (ps : List Pl) : ((bestOf g ps).2.2 = false ↔ ps = []) ∧ (ps ≠ [] → (bestOf g ps).2.1 ∈ ps ∧ (bestOf g ps).1 = g (bestOf g ps).2.1 ∧ ∀ p ∈ ps, (bestOf g ps).1.length ≤ (g p).length) := by
  induction ps using snoc_ind with
  | h0 => exact ⟨⟨fun _ => rfl, fun _ => rfl⟩, fun h => absurd rfl h⟩
  | hs ps q ih =>
    obtain ⟨h1, h2⟩ := ih
    rw [bestOf_snoc, bestF]
    have hne : ps ++ [q] ≠ [] := by simp
    by_cases ht : bestTest (g q) (bestOf g ps) = true
    · rw [if_pos ht]
      refine ⟨⟨fun h => Bool.noConfusion (show true = false from h), fun h => absurd h hne⟩, fun _ => ⟨by simp, rfl, fun p hp => ?_⟩⟩
      rcases List.mem_append.1 hp with h | h
      · have hps : ps ≠ [] := fun e => by rw [e] at h; cases h
        obtain ⟨_, _, h5⟩ := h2 hps
        have h6 := h5 p h
        have hf : (bestOf g ps).2.2 = true := by
          cases h7 : (bestOf g ps).2.2 with
          | true => rfl
          | false => exact absurd (h1.1 h7) hps
        unfold bestTest at ht
        rw [hf] at ht
        simp at ht
        dsimp only
        omega
      · rw [List.mem_singleton.1 h]
        exact Nat.le_refl _
    · rw [if_neg ht]
      unfold bestTest at ht
      simp at ht
      obtain ⟨⟨h3, h4⟩, -⟩ := ht
      have hps : ps ≠ [] := fun e => by rw [h1.2 e] at h3; cases h3
      obtain ⟨h5, h6, h7⟩ := h2 hps
      refine ⟨⟨fun h => (by rw [h] at h3; cases h3), fun h => absurd h hne⟩, fun _ => ⟨List.mem_append_left _ h5, h6, fun p hp => ?_⟩⟩
      rcases List.mem_append.1 hp with h | h
      · exact h7 p h
      · rw [List.mem_singleton.1 h]
        exact h4
theorem pts_ne {b : Bx} (h : b.ordered = true) : b.pts ≠ [] := fun e => by
  rw [Bx.ordered_iff] at h
  have : (⟨b.x.lo, b.y.lo, b.z.lo⟩ : Pl) ∈ b.pts := by
    rw [mem_pts, has_iff]
    dsimp only
    omega
  rw [e] at this
  cases this
end Go.Proofs.Ytephimmamkafoaa
namespace Go.Proofs.Ytephimmamkafoaa
set_option linter.unusedSimpArgs false
set_option linter.unusedVariables false
theorem sub_meet {a B : Bx} (h : a.sub B) : a.meet B = a := by
  obtain ⟨⟨h1, h2⟩, ⟨h3, h4⟩, h5, h6⟩ := h
  obtain ⟨⟨x1, x2⟩, ⟨y1, y2⟩, ⟨z1, z2⟩⟩ := a
  simp only [Bx.meet, Rg.meet] at *
  rw [Int.max_eq_left h1, Int.min_eq_left h2, Int.max_eq_left h3, Int.min_eq_left h4, Int.max_eq_left h5, Int.min_eq_left h6]
theorem votedE_zero {n : Nt} {b : Bx} {l : List Rd} {k : Int} (h0 : boxErr n b = 0) (h1 : readsErr n l = 0) (hk : 0 ≤ k ∧ k ≤ l.length) : votedE n b ⟨l, k⟩ = 0 := by
  unfold votedE voteE
  rw [h0, h1, inR_iff.2 hk]
  rfl
theorem voted_val {n : Nt} {b : Bx} {l : List Rd} {k : Int} (h0 : boxErr n b = 0) (h1 : readsErr n l = 0) (hs : b.size ≤ 20000) (hk : 0 ≤ k ∧ k ≤ l.length) (hne : (votesB n b ⟨l, k⟩).2 ≠ 0) :
    votedS n b ⟨l, k⟩ = ((votesB n b ⟨l, k⟩).1, ((votesB n b ⟨l, k⟩).2 : Int), 0) := by
  rw [votedS, if_pos (votedE_zero h0 h1 hk), if_pos hs, if_neg hne]
theorem votes_ne {n : Nt} {b : Bx} {l : List Rd} {k : Int} {p : Pl} (hp : b.has p = true) (hok : okB n.bs l k p = true) : (votesB n b ⟨l, k⟩).2 ≠ 0 := by
  show (votesOf (okB n.bs l k) b.pts).2 ≠ 0
  rw [(votes_inv (okB n.bs l k) b.pts).1]
  intro h
  exact List.countP_eq_zero.1 h p (mem_pts.2 hp) hok
theorem okB_succ {bs : List Bc} {l : List Rd} {k : Int} {p : Pl} (h : okB bs l k p = true) : okB bs l (k + 1) p = true := by
  unfold okB at h ⊢
  rw [decide_eq_true_eq] at h ⊢
  omega
/-- The vote that counts a position: it contains it, and lies in the box. -/
theorem true_at {n : Nt} {b : Bx} {l : List Rd} {k : Int} {p : Pl} (h0 : boxErr n b = 0) (h1 : readsErr n l = 0) (hs : b.size ≤ 20000) (hk : 0 ≤ k ∧ k ≤ l.length) (hp : b.has p = true) (hok : okB n.bs l k p = true) :
    (votedS n b ⟨l, k⟩).2.2 = 0 ∧ 1 ≤ (votedS n b ⟨l, k⟩).2.1 ∧ (votedS n b ⟨l, k⟩).1.has p = true ∧ (votedS n b ⟨l, k⟩).1.meet b = (votedS n b ⟨l, k⟩).1 := by
  have hne := votes_ne (n := n) (l := l) (k := k) hp hok
  have hi := (votes_inv (okB n.bs l k) b.pts).2 hne
  rw [voted_val h0 h1 hs hk hne]
  exact ⟨rfl, by dsimp only; omega, hi.1 p (mem_pts.2 hp) hok, sub_meet (hi.2 b fun q hq _ => mem_pts.1 hq)⟩
/-- One more that may be wrong: a vote that contains the first one, with no fewer positions. -/
theorem true_more {n : Nt} {b : Bx} {l : List Rd} {k : Int} {p : Pl} (h0 : boxErr n b = 0) (h1 : readsErr n l = 0) (hs : b.size ≤ 20000) (hk : 0 ≤ k ∧ k + 1 ≤ l.length) (hp : b.has p = true) (hok : okB n.bs l k p = true) :
    (votedS n b ⟨l, k + 1⟩).2.2 = 0 ∧ (votedS n b ⟨l, k⟩).2.1 ≤ (votedS n b ⟨l, k + 1⟩).2.1 ∧ (votedS n b ⟨l, k⟩).1.meet (votedS n b ⟨l, k + 1⟩).1 = (votedS n b ⟨l, k⟩).1 := by
  have hne := votes_ne (n := n) (l := l) (k := k) hp hok
  have hne' := votes_ne (n := n) (l := l) (k := k + 1) hp (okB_succ hok)
  have hi := (votes_inv (okB n.bs l k) b.pts).2 hne
  have hi' := (votes_inv (okB n.bs l (k + 1)) b.pts).2 hne'
  rw [voted_val h0 h1 hs (by omega) hne, voted_val h0 h1 hs (by omega) hne']
  refine ⟨rfl, ?_, sub_meet (hi.2 _ fun q hq hk => hi'.1 q hq (okB_succ hk))⟩
  have e1 : (votesB n b ⟨l, k⟩).2 = b.pts.countP (okB n.bs l k) := (votes_inv (okB n.bs l k) b.pts).1
  have e2 : (votesB n b ⟨l, k + 1⟩).2 = b.pts.countP (okB n.bs l (k + 1)) := (votes_inv (okB n.bs l (k + 1)) b.pts).1
  have := List.countP_mono_left (l := b.pts) (p := okB n.bs l k) (q := okB n.bs l (k + 1)) fun q _ hq => okB_succ hq
  dsimp only
  omega
theorem okB_wrong {bs : List Bc} {l : List Rd} {p : Pl} (h : l.length ≤ 8) : okB bs l ((l.length : Int) - (agrL bs l p).length) p = true := by
  rw [okB_ref bs l _ p h]
  have := wrongL_len bs l p
  simp
  omega
theorem true_has {n : Nt} {b : Bx} (h : boxErr n b = 0) {p : Pl} (hp : b.has p = true) : n.world.has p = true := by
  obtain ⟨-, -, h3⟩ := box_zero h
  rw [Bx.holds_iff] at h3
  rw [has_iff] at hp ⊢
  omega
theorem true_agr {n : Nt} {b : Bx} {l : List Rd} (h : boxErr n b = 0) (h1 : readsErr n l = 0) {p : Pl} (hp : b.has p = true) : agreeE n l p = 0 ∧ agreeS n l p = agrL n.bs l p := by
  have e : agreeE n l p = 0 := by
    unfold agreeE
    rw [(box_zero h).1, h1, true_has h hp]
    rfl
  exact ⟨e, by rw [agreeS, if_pos e, agrL_idxs]⟩
theorem reads_one {n : Nt} {l : List Rd} (h : readsErr n l = 0) {k : Nat} {r : Rd} (hr : l[k]? = some r) : readsErr n [r] = 0 := by
  obtain ⟨h1, h2⟩ := reads_net h
  have he : readsE n l = 0 := by
    unfold readsE
    simp only [fst_cons, unl_zero (show (8 : Int) ≠ 0 by decide), decide_eq_true_eq]
    exact ⟨h1, by omega, rfl⟩
  unfold readsErr readsChk at h
  rw [if_pos he] at h
  have h3 := eachS_zero h k r hr
  have he' : readsE n [r] = 0 := by
    unfold readsE
    simp only [fst_cons, unl_zero (show (8 : Int) ≠ 0 by decide), decide_eq_true_eq]
    exact ⟨h1, by simp, rfl⟩
  unfold readsErr readsChk
  rw [if_pos he', eachS, if_pos h3]
  rfl
theorem okB_one (bs : List Bc) (r : Rd) (p : Pl) : okB bs [r] 0 p = agrB bs p r := by
  rw [okB_ref bs [r] 0 p (by simp)]
  have h1 : agrL bs [r] p = if agrB bs p r then [0] else [] := by
    unfold agrL pickL
    cases h : agrB bs p r <;> simp [agrAt, h, pickL]
  rw [h1]
  cases h : agrB bs p r <;> simp
theorem sq_le {a b : Int} (h0 : 0 ≤ a) (h : a ≤ b) : a * a ≤ b * b := Int.mul_le_mul h h h0 (Int.le_trans h0 h)
theorem near_le {r : Rg} {c f : Int} (h1 : r.lo ≤ c) (h2 : c ≤ r.hi) : r.near f * r.near f ≤ Rg.near ⟨c, c⟩ f * Rg.near ⟨c, c⟩ f := by
  refine sq_le ?_ ?_ <;> (unfold Rg.near; (try dsimp only); omega)
theorem far_ge {r : Rg} {c f : Int} (h1 : r.lo ≤ c) (h2 : c ≤ r.hi) : Rg.near ⟨c, c⟩ f * Rg.near ⟨c, c⟩ f ≤ r.far f * r.far f := by
  refine sq_le ?_ ?_ <;> (unfold Rg.near; (try unfold Rg.far); (try dsimp only); omega)
theorem meas_at (bs : List Bc) {b : Bx} {p : Pl} (r : Rd) (hp : b.has p = true) : (measS bs b r).1.lo ≤ (measS bs p.one r).1.lo ∧ (measS bs p.one r).1.lo ≤ (measS bs b r).1.hi ∧ (measS bs p.one r).2 = (measS bs b r).2 := by
  rw [has_iff] at hp
  obtain ⟨⟨x1, x2⟩, ⟨y1, y2⟩, z1, z2⟩ := hp
  unfold measS
  by_cases h : r.kind = 1
  · rw [if_pos h, if_pos h]
    refine ⟨?_, ?_, rfl⟩ <;> (unfold Bx.side Pl.one; (repeat' split) <;> assumption)
  · rw [if_neg h, if_neg h]
    refine ⟨?_, ?_, rfl⟩
    · unfold squaresS Pl.one
      dsimp only
      have a1 := near_le (f := (bcAt bs r.idx).x) x1 x2
      have a2 := near_le (f := (bcAt bs r.idx).y) y1 y2
      have a3 := near_le (f := (bcAt bs r.idx).z) z1 z2
      omega
    · unfold squaresS Pl.one
      dsimp only
      have a1 := far_ge (f := (bcAt bs r.idx).x) x1 x2
      have a2 := far_ge (f := (bcAt bs r.idx).y) y1 y2
      have a3 := far_ge (f := (bcAt bs r.idx).z) z1 z2
      omega
theorem ans_yes {bs : List Bc} {b : Bx} {r : Rd} (h : ans (measS bs b r) = 2) {p : Pl} (hp : b.has p = true) : agrB bs p r = true := by
  obtain ⟨h1, h2, h3⟩ := meas_at bs r hp
  unfold ans at h
  unfold agrB
  rw [inR_iff, h3]
  split at h
  · omega
  · split at h <;> omega
theorem ans_no {bs : List Bc} {b : Bx} {r : Rd} (h : ans (measS bs b r) = 0) {p : Pl} (hp : b.has p = true) : agrB bs p r = false := by
  obtain ⟨h1, h2, h3⟩ := meas_at bs r hp
  unfold ans at h
  unfold agrB
  cases e : inR (measS bs p.one r).1.lo (measS bs p.one r).2.lo (measS bs p.one r).2.hi
  · rfl
  · rw [inR_iff, h3] at e
    split at h
    · omega
    · split at h <;> omega
theorem yes_at {n : Nt} {b : Bx} {r : Rd} (h0 : boxErr n b = 0) (h1 : readsErr n [r] = 0) (hs : b.size ≤ 20000) (ha : ans (measS n.bs b r) = 2) : votedS n b ⟨[r], 0⟩ = (b, b.size, 0) := by
  obtain ⟨o1, o2, o3⟩ := Bx.ordered_iff.1 (box_zero h0).2.1
  have hall : ∀ q, b.has q = true → okB n.bs [r] 0 q = true := fun q hq => by rw [okB_one]; exact ans_yes ha hq
  have hlo : b.has ⟨b.x.lo, b.y.lo, b.z.lo⟩ = true := by rw [has_iff]; dsimp only; omega
  have hhi : b.has ⟨b.x.hi, b.y.hi, b.z.hi⟩ = true := by rw [has_iff]; dsimp only; omega
  have hne := votes_ne (n := n) (l := [r]) (k := 0) hlo (hall _ hlo)
  have hi := (votes_inv (okB n.bs [r] 0) b.pts).2 hne
  rw [voted_val h0 h1 hs ⟨by omega, by simp⟩ hne]
  have e2 : (votesB n b ⟨[r], 0⟩).2 = b.pts.length := by
    show (votesOf (okB n.bs [r] 0) b.pts).2 = _
    rw [(votes_inv (okB n.bs [r] 0) b.pts).1]
    exact List.countP_eq_length.2 fun q hq => hall q (mem_pts.1 hq)
  have e1 : (votesB n b ⟨[r], 0⟩).1 = b := by
    have a1 := has_iff.1 (hi.1 _ (mem_pts.2 hlo) (hall _ hlo))
    have a2 := has_iff.1 (hi.1 _ (mem_pts.2 hhi) (hall _ hhi))
    have a3 := hi.2 b fun q hq _ => mem_pts.1 hq
    show (votesOf (okB n.bs [r] 0) b.pts).1 = b
    generalize (votesOf (okB n.bs [r] 0) b.pts).1 = v at *
    obtain ⟨⟨v1, v2⟩, ⟨v3, v4⟩, ⟨v5, v6⟩⟩ := v
    obtain ⟨⟨b1, b2⟩, ⟨b3, b4⟩, ⟨b5, b6⟩⟩ := b
    unfold Bx.sub at a3
    simp only [Bx.mk.injEq, Rg.mk.injEq] at *
    omega
  rw [e1, e2, pts_size (box_ok h0)]
theorem no_at {n : Nt} {b : Bx} {r : Rd} (h0 : boxErr n b = 0) (h1 : readsErr n [r] = 0) (hs : b.size ≤ 20000) (ha : ans (measS n.bs b r) = 0) : votedS n b ⟨[r], 0⟩ = (bx0, 0, 12) := by
  have hz : (votesB n b ⟨[r], 0⟩).2 = 0 := by
    show (votesOf (okB n.bs [r] 0) b.pts).2 = 0
    rw [(votes_inv (okB n.bs [r] 0) b.pts).1]
    refine List.countP_eq_zero.2 fun q hq h => ?_
    rw [okB_one, ans_no ha (mem_pts.1 hq)] at h
    cases h
  rw [votedS, if_pos (votedE_zero h0 h1 ⟨by omega, by simp⟩), if_pos hs, if_pos hz]
/-- What a reading's answer means for the fix by this reading alone. -/
theorem ans_at {n : Nt} {b : Bx} {l : List Rd} {k : Nat} {r : Rd} (h0 : boxErr n b = 0) (h1 : readsErr n l = 0) (hs : b.size ≤ 20000) (hr : l[k]? = some r) :
    (ansAt n.bs b l k = 2 → votedS n b ⟨[r], 0⟩ = (b, b.size, 0)) ∧ (ansAt n.bs b l k = 0 → (votedS n b ⟨[r], 0⟩).2.2 = 12) := by
  have e : ansAt n.bs b l k = ans (measS n.bs b r) := by simp [ansAt, hr]
  rw [e]
  exact ⟨fun h => yes_at h0 (reads_one h1 hr) hs h, fun h => by rw [no_at h0 (reads_one h1 hr) hs h]⟩
end Go.Proofs.Ytephimmamkafoaa
