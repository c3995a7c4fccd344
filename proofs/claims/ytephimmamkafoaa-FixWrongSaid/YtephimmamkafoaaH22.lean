/-
  Walks: the reference's errors of a net alone, of a box, of readings.
  Walks: the law of boxes.
  Plain laws: votes contain what they count and no more; the best position is one, and none is better.
  A slice of a call's own, made in a region that draws, and a block that is stored into beside it.
  Walk: the numbers that are not in a list.
  Walk: whether a list of numbers comes before another one.
-/
import Derived.Test.YtephimmamkafoaaH8
import Derived.Test.YtephimmamkafoaaH7
import Derived.Test.YtephimmamkafoaaG15
import Derived.Test.YtephimmamkafoaaG12
import Derived.Test.YtephimmamkafoaaG6
import Derived.Test.YtephimmamkafoaaH6
import Derived.Test.YtephimmamkafoaaG14
import Derived.Test.YtephimmamkafoaaG11
namespace Go.Proofs.Ytephimmamkafoaa
set_option linter.unusedSimpArgs false
set_option linter.unusedVariables false
open Go.RowKit Go.Shelf
attribute [local go_sem] bl_al bl_drew bl_drewN bl_refl bx_al bx_drew bx_drewN bx_refl
set_option maxRecDepth 20000
theorem r_NetErr (n : Nt) (A : Option Addr) (c : Nat) (w : World) (hn : NtIn n A c w) :
    Calls Try.prog 40 #[vNt n.world (.slice A n.bs.length c)] w (Ret (.int .i64 (netErr n)) w) := by
  have hcr := Lib.hid fun (W : World) (hb : Below w.heap.size w W) => r_CheckNet n A c W (hn.below hb) hn.len
  clear hn
  unfold netErr
  generalize n.bs.length = nl at *
  go_enter Try.func40, Try.ntmps40
  go_wp2_with fail
  refine Calls.mono (hcr.out _ ?_) ?_
  · solve_by_elim (maxDepth := 60) only [bl_al, bl_drew, bl_drewN, bl_refl, *]
  rintro e w3 ⟨rfl, hb3⟩
  replace hb3 := bl_tt hb3
  have hb1 := hb3 w (by (with_reducible (repeat' (first | assumption | apply jA | apply jB | apply jC | apply jD | apply jE | apply jF | apply hb3 | omega | (simp; done) | (simp; omega) | (dsimp only; omega)))))
  go_wp2
  go_ret
  exact ⟨rfl, hb1⟩
/-- The reference's errors of a net and its readings. -/
def refRdsE (n : Nt) (l : List Rd) : Int := if netErr n = 0 then (refReads n.bs.length l).2 else netErr n
theorem first_ne {a b c d e f : Prop} (h : ¬ (a ∧ b ∧ c ∧ d ∧ e ∧ f)) : ¬ a ∨ (a ∧ ¬ b) ∨ (a ∧ b ∧ ¬ c) ∨ (a ∧ b ∧ c ∧ ¬ d) ∨ (a ∧ b ∧ c ∧ d ∧ ¬ e) ∨ (a ∧ b ∧ c ∧ d ∧ e ∧ ¬ f) := by
  by_cases ha : a
  · by_cases hb : b
    · by_cases hc : c
      · by_cases hd : d
        · by_cases he : e
          · by_cases hf : f
            · exact absurd ⟨ha, hb, hc, hd, he, hf⟩ h
            · exact .inr (.inr (.inr (.inr (.inr ⟨ha, hb, hc, hd, he, hf⟩))))
          · exact .inr (.inr (.inr (.inr (.inl ⟨ha, hb, hc, hd, he⟩))))
        · exact .inr (.inr (.inr (.inl ⟨ha, hb, hc, hd⟩)))
      · exact .inr (.inr (.inl ⟨ha, hb, hc⟩))
    · exact .inr (.inl ⟨ha, hb⟩)
  · exact .inl ha
theorem meet_holds (a b : Bx) : a.holds b = true ↔ ((b.meet a).x.lo = b.x.lo ∧ (b.meet a).x.hi = b.x.hi ∧ (b.meet a).y.lo = b.y.lo ∧ (b.meet a).y.hi = b.y.hi ∧ (b.meet a).z.lo = b.z.lo ∧ (b.meet a).z.hi = b.z.hi) := by
  rw [Bx.holds_iff]
  simp only [Bx.meet, Rg.meet]
  constructor <;> intro h <;> omega
set_option maxHeartbeats 2000000 in
theorem r_ReadingsErr (n : Nt) (l : List Rd) (A A' : Option Addr) (c c' : Nat) (w : World) (hn : NtIn n A c w) (hl : Sl cRd 4 w A' l) (hll : l.length ≤ 1000) :
    Calls Try.prog 52 #[vNt n.world (.slice A n.bs.length c), .slice A' l.length c'] w (Ret (.int .i64 (refRdsE n l)) w) := by
  have hq1 : Hid (netErr n = 0 → refRdsE n l = (refReads n.bs.length l).2) := fun h => by rw [refRdsE, if_pos h]
  have hq2 : Hid (netErr n ≠ 0 → refRdsE n l = netErr n) := fun h => by rw [refRdsE, if_neg h]
  have hcn := Lib.hid fun (W : World) (hb : Below w.heap.size w W) => r_NetErr n A c W (hn.below hb)
  have hcr := Lib.hid fun (W : World) (hb : Below w.heap.size w W) => r_CheckReadings n.world n.bs.length l A A' c c' W (hl.below hb) hll hn.len
  clear hn hl
  generalize n.bs.length = nl at *
  generalize l.length = ll at *
  generalize netErr n = ne at *
  go_enter Try.func52, Try.ntmps52
  go_upto_region 1 with fail
  apply absB1 (w0 := w) (g0 := w.heap.size)
  iterate 2 (focus ((with_reducible (repeat' (first | assumption | apply jA | apply jB | apply jC | apply jD | apply jE | apply jF | apply hb3 | apply jG | apply jH | apply jI | apply jJ | apply jK | apply hb3x | (apply jL; first | (simp; done) | rfl) | apply jM | apply jN | apply jO | apply jP | apply jQ | apply jR | apply jS | apply jT (hb := hb3 _ (jA _)) | omega | (simp; done) | (simp; omega) | (dsimp only; omega)))); done))
  intro wa hb0' k0'
  (try simp only [List.setIfInBounds_toArray, List.set_cons_zero, List.set_cons_succ] at k0')
  try clear hb3
  try clear hb0
  try clear k0
  have hb0 := hb0'; clear hb0'
  have k0 := k0'; clear k0'
  have Lk0 := k0.later
  have Fk0 := k0.laterF
  have Qk0 := k0.lt
  go_wp2_with fail
  refine Calls.mono (hcn.out _ hb0) ?_
  rintro e w3 ⟨rfl, hb3⟩
  replace hb3 := bl_tt hb3
  apply absX1 (w0 := w) (w := w3) (g0 := w.heap.size)
  iterate 2 (focus ((with_reducible (repeat' (first | assumption | apply jA | apply jB | apply jC | apply jD | apply jE | apply jF | apply hb3 | apply jG | apply jH | apply jI | apply jJ | apply jK | apply hb3x | (apply jL; first | (simp; done) | rfl) | apply jM | apply jN | apply jO | apply jP | apply jQ | apply jR | apply jS | apply jT (hb := hb3 _ (jA _)) | omega | (simp; done) | (simp; omega) | (dsimp only; omega)))); done))
  intro wb hb0' k0'
  (try simp only [List.setIfInBounds_toArray, List.set_cons_zero, List.set_cons_succ] at k0')
  try clear hb3
  try clear Lk0
  try clear Fk0
  try clear Qk0
  try clear hb0
  try clear k0
  have hb0 := hb0'; clear hb0'
  have k0 := k0'; clear k0'
  have Lk0 := k0.later
  have Fk0 := k0.laterF
  have Qk0 := k0.lt
  by_cases h0 : ne = 0
  · have h0' : (ne != 0) = false := by simp [h0]
    replace h0 := Lib.hid h0
    go_wp2_with fail
    refine Calls.mono (hcr.out _ hb0) ?_
    rintro e w3 ⟨rfl, hb3⟩
    go_wp2
    go_ret
    exact ⟨by rw [hq1.out h0.out] <;> rfl, bl_tr hb0 hb3⟩
  · have h0' : (ne != 0) = true := by simp [h0]
    replace h0 := Lib.hid h0
    go_wp2
    go_ret
    exact ⟨by rw [hq2.out h0.out] <;> rfl, hb0⟩
set_option maxHeartbeats 2000000 in
theorem r_BoxErr (n : Nt) (b : Bx) (A : Option Addr) (c : Nat) (w : World) (hn : NtIn n A c w) :
    Calls Try.prog 17 #[vNt n.world (.slice A n.bs.length c), vBx b] w (Ret (.int .i64 (boxErr n b)) w) := by
  have hcn := Lib.hid fun (W : World) (hb : Below w.heap.size w W) => r_NetErr n A c W (hn.below hb)
  have hr0 : boxErr n b = fstE [netErr n, unl b.ordered 9, unl (n.world.holds b) 2] := rfl
  clear hn
  obtain ⟨bo, ho⟩ : ∃ b', b.ordered = b' := ⟨_, rfl⟩
  have hco := Lib.hid fun W : World => ho ▸ r_IsEmpty b W
  rw [ho] at hr0
  clear ho
  generalize n.bs.length = nl at *
  generalize netErr n = ne at *
  go_enter Try.func17, Try.ntmps17
  go_upto_region 1 with fail
  apply absB2 (w0 := w) (g0 := w.heap.size) (g1 := w.heap.size + 1)
  iterate 3 (focus ((with_reducible (repeat' (first | assumption | apply jA | apply jB | apply jC | apply jD | apply jE | apply jF | apply hb3 | apply jG | apply jH | apply jI | apply jJ | apply jK | apply hb3x | (apply jL; first | (simp; done) | rfl) | apply jM | apply jN | apply jO | apply jP | apply jQ | apply jR | apply jS | apply jT (hb := hb3 _ (jA _)) | omega | (simp; done) | (simp; omega) | (dsimp only; omega)))); done))
  intro wa hb0' k0' k1'
  (try simp only [List.setIfInBounds_toArray, List.set_cons_zero, List.set_cons_succ] at k0' k1')
  try clear hb3
  try clear hb0
  try clear k0
  try clear k1
  have hb0 := hb0'; clear hb0'
  have k0 := k0'; clear k0'
  have k1 := k1'; clear k1'
  have Lk0 := k0.later
  have Fk0 := k0.laterF
  have Qk0 := k0.lt
  have Lk1 := k1.later
  have Fk1 := k1.laterF
  have Qk1 := k1.lt
  go_wp2_with fail
  refine Calls.mono (hcn.out _ hb0) ?_
  rintro e w3 ⟨rfl, hb3⟩
  replace hb3 := bl_tt hb3
  apply absX2 (w0 := w) (w := w3) (g0 := w.heap.size) (g1 := w.heap.size + 1)
  iterate 3 (focus ((with_reducible (repeat' (first | assumption | apply jA | apply jB | apply jC | apply jD | apply jE | apply jF | apply hb3 | apply jG | apply jH | apply jI | apply jJ | apply jK | apply hb3x | (apply jL; first | (simp; done) | rfl) | apply jM | apply jN | apply jO | apply jP | apply jQ | apply jR | apply jS | apply jT (hb := hb3 _ (jA _)) | omega | (simp; done) | (simp; omega) | (dsimp only; omega)))); done))
  intro wb hb0' k0' k1'
  (try simp only [List.setIfInBounds_toArray, List.set_cons_zero, List.set_cons_succ] at k0' k1')
  try clear hb3
  try clear Lk0
  try clear Fk0
  try clear Qk0
  try clear Lk1
  try clear Fk1
  try clear Qk1
  try clear hb0
  try clear k0
  try clear k1
  have hb0 := hb0'; clear hb0'
  have k0 := k0'; clear k0'
  have k1 := k1'; clear k1'
  have Lk0 := k0.later
  have Fk0 := k0.laterF
  have Qk0 := k0.lt
  have Lk1 := k1.later
  have Fk1 := k1.laterF
  have Qk1 := k1.lt
  by_cases h0 : ne = 0
  · have h0' : (ne != 0) = false := by simp [h0]
    replace h0 := Lib.hid h0
    cases bo
    · replace hr0 := Lib.hid hr0
      go_wp2_with (go_at_call 75; (with_reducible refine (hco.out _).mono ?_); rintro e w3 ⟨rfl, hb3⟩)
      go_ret
      exact ⟨by rw [hr0.out, h0.out] <;> rfl, bl_tr hb0 hb3⟩
    go_upto_region 6 with (go_at_call 75; (with_reducible refine (hco.out _).mono ?_); rintro e w3 ⟨rfl, hb3⟩; replace hb3 := bl_tt hb3)
    apply absB2 (w0 := w) (g0 := w.heap.size) (g1 := w.heap.size + 1)
    iterate 3 (focus ((with_reducible (repeat' (first | assumption | apply jA | apply jB | apply jC | apply jD | apply jE | apply jF | apply hb3 | apply jG | apply jH | apply jI | apply jJ | apply jK | apply hb3x | (apply jL; first | (simp; done) | rfl) | apply jM | apply jN | apply jO | apply jP | apply jQ | apply jR | apply jS | apply jT (hb := hb3 _ (jA _)) | omega | (simp; done) | (simp; omega) | (dsimp only; omega)))); done))
    intro wc hb0' k0' k1'
    (try simp only [List.setIfInBounds_toArray, List.set_cons_zero, List.set_cons_succ] at k0' k1')
    try clear hb3
    try clear Lk0
    try clear Fk0
    try clear Qk0
    try clear Lk1
    try clear Fk1
    try clear Qk1
    try clear hb0
    try clear k0
    try clear k1
    have hb0 := hb0'; clear hb0'
    have k0 := k0'; clear k0'
    have k1 := k1'; clear k1'
    have Lk0 := k0.later
    have Fk0 := k0.laterF
    have Qk0 := k0.lt
    have Lk1 := k1.later
    have Fk1 := k1.laterF
    have Qk1 := k1.lt
    have hmh := meet_holds n.world b
    by_cases hq : n.world.holds b = true
    · rw [hq] at hr0
      obtain ⟨q1, q2, q3, q4, q5, q6⟩ := hmh.1 hq
      clear hmh hq
      replace hr0 := Lib.hid hr0
      refine wp_any (w0 := wc) ⟨[], [], [some 13, some 14, some 15, some 16, some 17, some 18], [[], [], [1], [0, 1, 2], [], [0, 1, 2, 3, 4]], [[], [], [1], [0, 2], [], [3, 4]]⟩ (fun _ => []) (by kernel_rfl) (by kernel_rfl) (by (with_reducible (repeat' (first | assumption | apply jA | apply jB | apply jC | apply jD | apply jE | apply jF | apply hb3 | omega | (simp; done) | (simp; omega) | (dsimp only; omega))))) (fun u => by simp only [putD, Act.put, List.setIfInBounds_toArray, List.set_cons_zero, List.set_cons_succ, Nat.zero_add, Nat.reduceAdd]; rfl) ?_
      apply RGW.on (i := 0) rfl
      · (simp only [gA, gB, gC] <;> rfl)
      · intro γ u W hcur hd
        clear hd
        (try dsimp only)
        refine ⟨rfl, ?_⟩
        go_simp <;> (try go_bits) <;> with_reducible rfl
      · exact fun _ _ _ => rfl
      · rfl
      dsimp only [nA, cA]
      apply RGW.on (i := 1) rfl
      · (simp only [gA, gB, gC] <;> rfl)
      · intro γ u W hcur hd
        clear hd
        (try dsimp only)
        refine ⟨rfl, ?_⟩
        go_simp <;> (try go_bits) <;> with_reducible rfl
      · exact fun _ _ _ => rfl
      · rfl
      dsimp only [nA, cA]
      apply RGW.on (i := 2) rfl
      · (simp only [gA, gB, gC] <;> rfl)
      · intro γ u W hcur hd
        obtain ⟨⟨h1, -, -⟩, -⟩ := hd
        dsimp only at h1
        (try simp only [h1])
        refine ⟨rfl, ?_⟩
        go_simp <;> (try go_bits) <;> with_reducible rfl
      · exact fun _ _ _ => rfl
      · rfl
      dsimp only [nA, cA]
      apply RGW.call (i := 3) rfl
      · (simp only [gA, gB, gC] <;> rfl)
      · intro γ u W hcur hd
        obtain ⟨⟨h0, -, -⟩, ⟨h2, -, -⟩, -⟩ := hd
        dsimp only at h0 h2
        (try simp only [h0, h2])
        refine ⟨rfl, fun K hK => ?_⟩
        go_simp
        (go_at_call 53; (with_reducible refine (r_Common b n.world _).mono ?_); rintro e w3 ⟨rfl, hb3⟩; replace hb3 := bl_tt hb3)
        (try dsimp only)
        exact hK.out _ _ rfl (by (with_reducible (repeat' (first | assumption | apply jA | apply jB | apply jC | apply jD | apply jE | apply jF | apply hb3 | omega | (simp; done) | (simp; omega) | (dsimp only; omega)))))
      · exact fun _ _ _ => rfl
      · rfl
      dsimp only [nA, cA]
      apply RGW.on (i := 4) rfl
      · (simp only [gA, gB, gC] <;> rfl)
      · intro γ u W hcur hd
        clear hd
        (try dsimp only)
        refine ⟨rfl, ?_⟩
        go_simp <;> (try go_bits) <;> with_reducible rfl
      · exact fun _ _ _ => rfl
      · rfl
      dsimp only [nA, cA]
      apply RGW.on (i := 5) rfl
      · (simp only [gA, gB, gC] <;> rfl)
      · intro γ u W hcur hd
        obtain ⟨⟨h3, -, -⟩, ⟨h4, -, -⟩, -⟩ := hd
        dsimp only at h3 h4
        (try simp only [h3, h4])
        refine ⟨rfl, ?_⟩
        go_simp <;> (try go_bits) <;> with_reducible rfl
      · exact fun _ _ _ => rfl
      · rfl
      dsimp only [nA, cA]
      refine RGW.fin (fun γ u wd hwd hd hdis => ?_)
      obtain ⟨⟨h0, -, -⟩, ⟨h1, -, -⟩, ⟨h2, -, -⟩, ⟨h3, -, -⟩, ⟨h4, -, -⟩, ⟨h5, -, -⟩, -⟩ := hd
      dsimp only at h0 h1 h2 h3 h4 h5
      clear hdis
      simp only [h0, h1, h2, h3, h4, h5]
      clear h5 h4 h3 h2 h1 h0
      clear u
      simp only [List.map_nil]
      refine PlanW.done ?_
      have hb3 := bl_tt hwd
      have hb1 := hb3 _ hb0
      go_wp2
      go_ret
      exact ⟨by rw [hr0.out, h0.out] <;> rfl, hb1⟩
    · have hd := fun h => hq (hmh.2 h)
      have hf : n.world.holds b = false := by simpa using hq
      rw [hf] at hr0
      clear hmh hq hf
      replace hr0 := Lib.hid hr0
      rcases first_ne hd with h | ⟨q1, h⟩ | ⟨q1, q2, h⟩ | ⟨q1, q2, q3, h⟩ | ⟨q1, q2, q3, q4, h⟩ | ⟨q1, q2, q3, q4, q5, h⟩
      all_goals
        clear hd
        refine wp_any (w0 := wc) ⟨[], [], [some 13, some 14, some 15, some 16, some 17, some 18], [[], [], [1], [0, 1, 2], [], [0, 1, 2, 3, 4]], [[], [], [1], [0, 2], [], [3, 4]]⟩ (fun _ => []) (by kernel_rfl) (by kernel_rfl) (by (with_reducible (repeat' (first | assumption | apply jA | apply jB | apply jC | apply jD | apply jE | apply jF | apply hb3 | omega | (simp; done) | (simp; omega) | (dsimp only; omega))))) (fun u => by simp only [putD, Act.put, List.setIfInBounds_toArray, List.set_cons_zero, List.set_cons_succ, Nat.zero_add, Nat.reduceAdd]; rfl) ?_
        apply RGW.on (i := 0) rfl
        · (simp only [gA, gB, gC] <;> rfl)
        · intro γ u W hcur hd
          clear hd
          (try dsimp only)
          refine ⟨rfl, ?_⟩
          go_simp <;> (try go_bits) <;> with_reducible rfl
        · exact fun _ _ _ => rfl
        · rfl
        dsimp only [nA, cA]
        apply RGW.on (i := 1) rfl
        · (simp only [gA, gB, gC] <;> rfl)
        · intro γ u W hcur hd
          clear hd
          (try dsimp only)
          refine ⟨rfl, ?_⟩
          go_simp <;> (try go_bits) <;> with_reducible rfl
        · exact fun _ _ _ => rfl
        · rfl
        dsimp only [nA, cA]
        apply RGW.on (i := 2) rfl
        · (simp only [gA, gB, gC] <;> rfl)
        · intro γ u W hcur hd
          obtain ⟨⟨h1, -, -⟩, -⟩ := hd
          dsimp only at h1
          (try simp only [h1])
          refine ⟨rfl, ?_⟩
          go_simp <;> (try go_bits) <;> with_reducible rfl
        · exact fun _ _ _ => rfl
        · rfl
        dsimp only [nA, cA]
        apply RGW.call (i := 3) rfl
        · (simp only [gA, gB, gC] <;> rfl)
        · intro γ u W hcur hd
          obtain ⟨⟨h0, -, -⟩, ⟨h2, -, -⟩, -⟩ := hd
          dsimp only at h0 h2
          (try simp only [h0, h2])
          refine ⟨rfl, fun K hK => ?_⟩
          go_simp
          (go_at_call 53; (with_reducible refine (r_Common b n.world _).mono ?_); rintro e w3 ⟨rfl, hb3⟩; replace hb3 := bl_tt hb3)
          (try dsimp only)
          exact hK.out _ _ rfl (by (with_reducible (repeat' (first | assumption | apply jA | apply jB | apply jC | apply jD | apply jE | apply jF | apply hb3 | omega | (simp; done) | (simp; omega) | (dsimp only; omega)))))
        · exact fun _ _ _ => rfl
        · rfl
        dsimp only [nA, cA]
        apply RGW.on (i := 4) rfl
        · (simp only [gA, gB, gC] <;> rfl)
        · intro γ u W hcur hd
          clear hd
          (try dsimp only)
          refine ⟨rfl, ?_⟩
          go_simp <;> (try go_bits) <;> with_reducible rfl
        · exact fun _ _ _ => rfl
        · rfl
        dsimp only [nA, cA]
        apply RGW.on (i := 5) rfl
        · (simp only [gA, gB, gC] <;> rfl)
        · intro γ u W hcur hd
          obtain ⟨⟨h3, -, -⟩, ⟨h4, -, -⟩, -⟩ := hd
          dsimp only at h3 h4
          (try simp only [h3, h4])
          refine ⟨rfl, ?_⟩
          go_simp <;> (try go_bits) <;> with_reducible rfl
        · exact fun _ _ _ => rfl
        · rfl
        dsimp only [nA, cA]
        refine RGW.fin (fun γ u wd hwd hd hdis => ?_)
        obtain ⟨⟨h0, -, -⟩, ⟨h1, -, -⟩, ⟨h2, -, -⟩, ⟨h3, -, -⟩, ⟨h4, -, -⟩, ⟨h5, -, -⟩, -⟩ := hd
        dsimp only at h0 h1 h2 h3 h4 h5
        clear hdis
        simp only [h0, h1, h2, h3, h4, h5]
        clear h5 h4 h3 h2 h1 h0
        clear u
        simp only [List.map_nil]
        refine PlanW.done ?_
        have hb3 := bl_tt hwd
        have hb1 := hb3 _ hb0
        go_wp2
        go_ret
        exact ⟨by rw [hr0.out, h0.out] <;> rfl, hb1⟩
  · have h0' : (ne != 0) = true := by simp [h0]
    have hr1 : boxErr n b = ne := by rw [hr0]; simp [fstE, h0]
    replace hr1 := Lib.hid hr1
    clear hr0
    replace h0 := Lib.hid h0
    go_wp2
    go_ret
    exact ⟨by rw [hr1.out] <;> rfl, hb0⟩
end Go.Proofs.Ytephimmamkafoaa
namespace Go.Proofs.Ytephimmamkafoaa
set_option linter.unusedSimpArgs false
set_option linter.unusedVariables false
open Go.RowKit Go.Shelf
attribute [local go_sem] bl_al bl_drew bl_drewN bl_refl bx_al bx_drew bx_drewN bx_refl
set_option maxRecDepth 20000
def lightB (n : Nt) (b : Bx) : Bool := !decide (boxErr n b = 0) || decide (20000 < b.size) || decide (b.size ≤ 700)
set_option maxHeartbeats 4000000 in
theorem r_light (n : Nt) (b : Bx) (A : Option Addr) (c : Nat) (w : World) (hn : NtIn n A c w) : Calls Try.prog 20 #[vNt n.world (.slice A n.bs.length c), vBx b] w (Ret (.bool (lightB n b)) w) := by
  have hbe := Lib.hid fun (W : World) (hb : Below w.heap.size w W) => r_BoxErr n b A c W (hn.below hb)
  clear hn
  generalize n.bs.length = nl at *
  by_cases h0 : boxErr n b = 0
  · have hbo := box_ok h0
    have hil := Lib.hid fun W : World => r_IsLarge b W hbo
    have hL : lightB n b = (decide (20000 < b.size) || decide (b.size ≤ 700)) := by simp [lightB, h0]
    rw [hL]
    rw [h0] at hbe
    clear hL h0
    have hz : b.size = (b.x.hi - b.x.lo + 1) * (b.y.hi - b.y.lo + 1) * (b.z.hi - b.z.lo + 1) := rfl
    rw [hz] at hil ⊢
    clear hz
    obtain ⟨⟨x1, x2, x3⟩, ⟨y1, y2, y3⟩, ⟨z1, z2, z3⟩⟩ := hbo
    obtain ⟨p1, p2⟩ := mul_bd (a := b.x.hi - b.x.lo + 1) (b := b.y.hi - b.y.lo + 1) (m := 20001) (n := 20001) (by omega) (by omega) (by omega) (by omega)
    obtain ⟨q1, q2⟩ := mul_bd (a := (b.x.hi - b.x.lo + 1) * (b.y.hi - b.y.lo + 1)) (b := b.z.hi - b.z.lo + 1) (m := 400040001) (n := 20001) p1 p2 (by omega) (by omega)
    obtain ⟨B, hB⟩ : ∃ B, decide (20000 < (b.x.hi - b.x.lo + 1) * (b.y.hi - b.y.lo + 1) * (b.z.hi - b.z.lo + 1)) = B := ⟨_, rfl⟩
    rw [hB] at hil ⊢
    clear hB
    cases B
    all_goals
      go_enter Try.func20, Try.ntmps20
      go_upto_region 1 with fail
      apply absB2 (w0 := w) (g0 := w.heap.size) (g1 := w.heap.size + 1)
      iterate 3 (focus ((with_reducible (repeat' (first | assumption | apply jA | apply jB | apply jC | apply jD | apply jE | apply jF | apply hb3 | apply jG | apply jH | apply jI | apply jJ | apply jK | apply hb3x | (apply jL; first | (simp; done) | rfl) | apply jM | apply jN | apply jO | apply jP | apply jQ | apply jR | apply jS | apply jT (hb := hb3 _ (jA _)) | omega | (simp; done) | (simp; omega) | (dsimp only; omega)))); done))
      intro wa hb0' k0' k1'
      (try simp only [List.setIfInBounds_toArray, List.set_cons_zero, List.set_cons_succ] at k0' k1')
      try clear hb3
      try clear hb0
      try clear k0
      try clear k1
      have hb0 := hb0'; clear hb0'
      have k0 := k0'; clear k0'
      have k1 := k1'; clear k1'
      have Lk0 := k0.later
      have Fk0 := k0.laterF
      have Qk0 := k0.lt
      have Lk1 := k1.later
      have Fk1 := k1.laterF
      have Qk1 := k1.lt
      go_wp2_with (first | (go_at_call 17; (with_reducible refine (hbe.out _ (bl_tr hb0 (by (with_reducible (repeat' (first | assumption | apply jA | apply jB | apply jC | apply jD | apply jE | apply jF | apply hb3 | omega | (simp; done) | (simp; omega) | (dsimp only; omega))))))).mono ?_); rintro e w3 ⟨rfl, hb3⟩; replace hb3 := bl_tt hb3; have hv := hb3 wa (by (with_reducible (repeat' (first | assumption | apply jA | apply jB | apply jC | apply jD | apply jE | apply jF | apply hb3 | omega | (simp; done) | (simp; omega) | (dsimp only; omega)))))) | (go_at_call 27; (with_reducible refine (hil.out _).mono ?_); rintro e w3 ⟨rfl, hb4⟩; replace hb3 := fun w h => bl_tt hb4 w (hb3 w h); have hv := hb3 wa (by (with_reducible (repeat' (first | assumption | apply jA | apply jB | apply jC | apply jD | apply jE | apply jF | apply hb3 | omega | (simp; done) | (simp; omega) | (dsimp only; omega)))))))
      go_ret
      exact ⟨by simp, bl_tr hb0 hv⟩
  · have hL : lightB n b = true := by simp [lightB, h0]
    have h0' : (boxErr n b != 0) = true := by simp [h0]
    rw [hL]
    replace h0 := Lib.hid h0
    clear hL
    go_enter Try.func20, Try.ntmps20
    go_upto_region 1 with fail
    apply absB2 (w0 := w) (g0 := w.heap.size) (g1 := w.heap.size + 1)
    iterate 3 (focus ((with_reducible (repeat' (first | assumption | apply jA | apply jB | apply jC | apply jD | apply jE | apply jF | apply hb3 | apply jG | apply jH | apply jI | apply jJ | apply jK | apply hb3x | (apply jL; first | (simp; done) | rfl) | apply jM | apply jN | apply jO | apply jP | apply jQ | apply jR | apply jS | apply jT (hb := hb3 _ (jA _)) | omega | (simp; done) | (simp; omega) | (dsimp only; omega)))); done))
    intro wa hb0' k0' k1'
    (try simp only [List.setIfInBounds_toArray, List.set_cons_zero, List.set_cons_succ] at k0' k1')
    try clear hb3
    try clear hb0
    try clear k0
    try clear k1
    have hb0 := hb0'; clear hb0'
    have k0 := k0'; clear k0'
    have k1 := k1'; clear k1'
    have Lk0 := k0.later
    have Fk0 := k0.laterF
    have Qk0 := k0.lt
    have Lk1 := k1.later
    have Fk1 := k1.laterF
    have Qk1 := k1.lt
    go_wp2_with (go_at_call 17; (with_reducible refine (hbe.out _ (bl_tr hb0 (by (with_reducible (repeat' (first | assumption | apply jA | apply jB | apply jC | apply jD | apply jE | apply jF | apply hb3 | omega | (simp; done) | (simp; omega) | (dsimp only; omega))))))).mono ?_); rintro e w3 ⟨rfl, hb3⟩; replace hb3 := bl_tt hb3; have hv := hb3 wa (by (with_reducible (repeat' (first | assumption | apply jA | apply jB | apply jC | apply jD | apply jE | apply jF | apply hb3 | omega | (simp; done) | (simp; omega) | (dsimp only; omega))))))
    go_ret
    exact ⟨rfl, bl_tr hb0 hv⟩
theorem votes_ref (bs : List Bc) (l : List Rd) (k : Int) (h : l.length ≤ 8) : okB bs l k = fun p => !decide (((agrL bs l p).length : Int) + k < (l.length : Int)) := by
  funext p
  exact okB_ref bs l k p h
theorem agrL_le (bs : List Bc) (l : List Rd) (p : Pl) (h : l.length ≤ 8) : (agrL bs l p).length ≤ 1000 := by
  have := pickL_len (agrAt bs p l) l.length
  unfold agrL
  omega
/-- The reference's vote of a box that is searched. -/
theorem r_Voted (n : Nt) (b : Bx) (v : Vt) (A A' : Option Addr) (c c' : Nat) (w : World) (hn : NtIn n A c w) (hl : Sl cRd 4 w A' v.rs) (h0 : votedE n b v = 0) (hsz : b.size ≤ 20000) :
    Calls Try.prog 86 #[vNt n.world (.slice A n.bs.length c), vBx b, .slice A' v.rs.length c', .int .i64 v.wrong] w (Ret (.tuple #[vBx (votesB n b v).1, .int .i64 (votesB n b v).2]) w) := by
  obtain ⟨hbo, h8, hr⟩ := voted_ok h0
  have hw : 0 ≤ v.wrong ∧ v.wrong ≤ v.rs.length := by
    unfold votedE voteE at h0
    simp only [fst_cons, unl_zero (show (2 : Int) ≠ 0 by decide), inR_iff] at h0
    exact h0.2.1.2.1
  rw [votesB, votes_ref n.bs v.rs v.wrong h8]
  exact r_Voted0 n.world b n.bs.length v.rs.length A A' c c' v.wrong (agrL n.bs v.rs) _ w (fun W hb p hp => r_Agreeing n.world n.bs A A' c c' v.rs p W (hn.sl.below hb) hn.len (hl.below hb) (by omega) hp hr)
    (fun p => agrL_le n.bs v.rs p h8) hw.1 (by omega) (fun _ => rfl) (fun p h => pts_in hbo h) (by have := pts_size hbo; omega) hbo.in
set_option maxHeartbeats 4000000 in
/-- Whether a vote is as specified, where the error of the arguments is so. -/
theorem r_matches (n : Nt) (b : Bx) (v : Vt) (x : Int) (A A' : Option Addr) (c c' : Nat) (w : World) (hn : NtIn n A c w) (hl : Sl cRd 4 w A' v.rs)
    (hx1 : x ≠ 0 → votedS n b v = (bx0, 0, x)) (hx0 : x = 0 → votedE n b v = 0 ∧ b.size ≤ 20000) :
    Calls Try.prog 28 #[vNt n.world (.slice A n.bs.length c), vBx b, vVt A' v.rs.length c' v.wrong, .int .i64 x, vBx (votedS n b v).1, .int .i64 (votedS n b v).2.1, .int .i64 (votedS n b v).2.2] w (Ret (.bool true) w) := by
  by_cases h0 : x = 0
  · obtain ⟨h1, h2⟩ := hx0 h0
    subst h0
    have hrv := Lib.hid fun (W : World) (hb : Below w.heap.size w W) => r_Voted n b v A A' c c' W (hn.below hb) (hl.below hb) h1 h2
    have hS : votedS n b v = if (votesB n b v).2 = 0 then (bx0, 0, 12) else ((votesB n b v).1, ((votesB n b v).2 : Int), 0) := by rw [votedS, if_pos h1, if_pos h2]
    rw [hS]
    clear hS hx1 hx0 hn hl h1 h2
    generalize n.bs.length = nl at *
    generalize v.rs.length = rl at *
    generalize votesB n b v = s at *
    obtain ⟨o, m⟩ := s
    dsimp only at hrv ⊢
    by_cases hm : m = 0
    · subst hm
      rw [if_pos rfl]
      dsimp only [bx0]
      go_enter Try.func28, Try.ntmps28
      go_upto_region 3 with fail
      apply absB4 (w0 := w) (g0 := w.heap.size) (g1 := w.heap.size + 1) (g2 := w.heap.size + 2) (g3 := w.heap.size + 3)
      iterate 5 (focus ((with_reducible (repeat' (first | assumption | apply jA | apply jB | apply jC | apply jD | apply jE | apply jF | apply hb3 | apply jG | apply jH | apply jI | apply jJ | apply jK | apply hb3x | (apply jL; first | (simp; done) | rfl) | apply jM | apply jN | apply jO | apply jP | apply jQ | apply jR | apply jS | apply jT (hb := hb3 _ (jA _)) | omega | (simp; done) | (simp; omega) | (dsimp only; omega)))); done))
      intro wa hb0' k0' k1' k2' k3'
      (try simp only [List.setIfInBounds_toArray, List.set_cons_zero, List.set_cons_succ] at k0' k1' k2' k3')
      try clear hb3
      try clear hb0
      try clear k0
      try clear k1
      try clear k2
      try clear k3
      have hb0 := hb0'; clear hb0'
      have k0 := k0'; clear k0'
      have k1 := k1'; clear k1'
      have k2 := k2'; clear k2'
      have k3 := k3'; clear k3'
      have Lk0 := k0.later
      have Fk0 := k0.laterF
      have Qk0 := k0.lt
      have Lk1 := k1.later
      have Fk1 := k1.laterF
      have Qk1 := k1.lt
      have Lk2 := k2.later
      have Fk2 := k2.laterF
      have Qk2 := k2.lt
      have Lk3 := k3.later
      have Fk3 := k3.laterF
      have Qk3 := k3.lt
      go_upto_region 4 with (go_at_call 86; (with_reducible refine (hrv.out _ (bl_tr hb0 (by (with_reducible (repeat' (first | assumption | apply jA | apply jB | apply jC | apply jD | apply jE | apply jF | apply hb3 | omega | (simp; done) | (simp; omega) | (dsimp only; omega))))))).mono ?_); rintro e w3 ⟨rfl, hb3⟩; replace hb3 := bl_tt hb3)
      apply absB5 (w0 := w) (g0 := w.heap.size) (g1 := w.heap.size + 1) (g2 := w.heap.size + 2) (g3 := w.heap.size + 3) (g4 := w3.heap.size)
      iterate 6 (focus ((with_reducible (repeat' (first | assumption | apply jA | apply jB | apply jC | apply jD | apply jE | apply jF | apply hb3 | apply jG | apply jH | apply jI | apply jJ | apply jK | apply hb3x | (apply jL; first | (simp; done) | rfl) | apply jM | apply jN | apply jO | apply jP | apply jQ | apply jR | apply jS | apply jT (hb := hb3 _ (jA _)) | omega | (simp; done) | (simp; omega) | (dsimp only; omega)))); done))
      intro wb hb0' k0' k1' k2' k3' k4'
      (try simp only [List.setIfInBounds_toArray, List.set_cons_zero, List.set_cons_succ] at k0' k1' k2' k3' k4')
      try clear hb3
      try clear Lk0
      try clear Fk0
      try clear Qk0
      try clear Lk1
      try clear Fk1
      try clear Qk1
      try clear Lk2
      try clear Fk2
      try clear Qk2
      try clear Lk3
      try clear Fk3
      try clear Qk3
      try clear hb0
      try clear k0
      try clear k1
      try clear k2
      try clear k3
      try clear k4
      have hb0 := hb0'; clear hb0'
      have k0 := k0'; clear k0'
      have k1 := k1'; clear k1'
      have k2 := k2'; clear k2'
      have k3 := k3'; clear k3'
      have k4 := k4'; clear k4'
      have Lk0 := k0.later
      have Fk0 := k0.laterF
      have Qk0 := k0.lt
      have Lk1 := k1.later
      have Fk1 := k1.laterF
      have Qk1 := k1.lt
      have Lk2 := k2.later
      have Fk2 := k2.laterF
      have Qk2 := k2.lt
      have Lk3 := k3.later
      have Fk3 := k3.laterF
      have Qk3 := k3.lt
      have Lk4 := k4.later
      have Fk4 := k4.laterF
      have Qk4 := k4.lt
      go_wp2
      go_ret
      exact ⟨rfl, hb0⟩
    · rw [if_neg hm]
      dsimp only
      have hm' : decide ((m : Int) = 0) = false := by simp [hm]
      go_enter Try.func28, Try.ntmps28
      go_upto_region 3 with fail
      apply absB4 (w0 := w) (g0 := w.heap.size) (g1 := w.heap.size + 1) (g2 := w.heap.size + 2) (g3 := w.heap.size + 3)
      iterate 5 (focus ((with_reducible (repeat' (first | assumption | apply jA | apply jB | apply jC | apply jD | apply jE | apply jF | apply hb3 | apply jG | apply jH | apply jI | apply jJ | apply jK | apply hb3x | (apply jL; first | (simp; done) | rfl) | apply jM | apply jN | apply jO | apply jP | apply jQ | apply jR | apply jS | apply jT (hb := hb3 _ (jA _)) | omega | (simp; done) | (simp; omega) | (dsimp only; omega)))); done))
      intro wa hb0' k0' k1' k2' k3'
      (try simp only [List.setIfInBounds_toArray, List.set_cons_zero, List.set_cons_succ] at k0' k1' k2' k3')
      try clear hb3
      try clear hb0
      try clear k0
      try clear k1
      try clear k2
      try clear k3
      have hb0 := hb0'; clear hb0'
      have k0 := k0'; clear k0'
      have k1 := k1'; clear k1'
      have k2 := k2'; clear k2'
      have k3 := k3'; clear k3'
      have Lk0 := k0.later
      have Fk0 := k0.laterF
      have Qk0 := k0.lt
      have Lk1 := k1.later
      have Fk1 := k1.laterF
      have Qk1 := k1.lt
      have Lk2 := k2.later
      have Fk2 := k2.laterF
      have Qk2 := k2.lt
      have Lk3 := k3.later
      have Fk3 := k3.laterF
      have Qk3 := k3.lt
      go_upto_region 4 with (go_at_call 86; (with_reducible refine (hrv.out _ (bl_tr hb0 (by (with_reducible (repeat' (first | assumption | apply jA | apply jB | apply jC | apply jD | apply jE | apply jF | apply hb3 | omega | (simp; done) | (simp; omega) | (dsimp only; omega))))))).mono ?_); rintro e w3 ⟨rfl, hb3⟩; replace hb3 := bl_tt hb3)
      apply absB5 (w0 := w) (g0 := w.heap.size) (g1 := w.heap.size + 1) (g2 := w.heap.size + 2) (g3 := w.heap.size + 3) (g4 := w3.heap.size)
      iterate 6 (focus ((with_reducible (repeat' (first | assumption | apply jA | apply jB | apply jC | apply jD | apply jE | apply jF | apply hb3 | apply jG | apply jH | apply jI | apply jJ | apply jK | apply hb3x | (apply jL; first | (simp; done) | rfl) | apply jM | apply jN | apply jO | apply jP | apply jQ | apply jR | apply jS | apply jT (hb := hb3 _ (jA _)) | omega | (simp; done) | (simp; omega) | (dsimp only; omega)))); done))
      intro wb hb0' k0' k1' k2' k3' k4'
      (try simp only [List.setIfInBounds_toArray, List.set_cons_zero, List.set_cons_succ] at k0' k1' k2' k3' k4')
      try clear hb3
      try clear Lk0
      try clear Fk0
      try clear Qk0
      try clear Lk1
      try clear Fk1
      try clear Qk1
      try clear Lk2
      try clear Fk2
      try clear Qk2
      try clear Lk3
      try clear Fk3
      try clear Qk3
      try clear hb0
      try clear k0
      try clear k1
      try clear k2
      try clear k3
      try clear k4
      have hb0 := hb0'; clear hb0'
      have k0 := k0'; clear k0'
      have k1 := k1'; clear k1'
      have k2 := k2'; clear k2'
      have k3 := k3'; clear k3'
      have k4 := k4'; clear k4'
      have Lk0 := k0.later
      have Fk0 := k0.laterF
      have Qk0 := k0.lt
      have Lk1 := k1.later
      have Fk1 := k1.laterF
      have Qk1 := k1.lt
      have Lk2 := k2.later
      have Fk2 := k2.laterF
      have Qk2 := k2.lt
      have Lk3 := k3.later
      have Fk3 := k3.laterF
      have Qk3 := k3.lt
      have Lk4 := k4.later
      have Fk4 := k4.laterF
      have Qk4 := k4.lt
      go_wp2
      go_ret
      exact ⟨by simp, hb0⟩
  · rw [hx1 h0]
    have h0' : (x != 0) = true := by simp [h0]
    clear hx1 hx0 hn hl
    replace h0 := Lib.hid h0
    generalize n.bs.length = nl at *
    generalize v.rs.length = rl at *
    dsimp only [bx0]
    go_enter Try.func28, Try.ntmps28
    go_upto_region 1 with fail
    apply absB1 (w0 := w) (g0 := w.heap.size + 3)
    iterate 2 (focus ((with_reducible (repeat' (first | assumption | apply jA | apply jB | apply jC | apply jD | apply jE | apply jF | apply hb3 | apply jG | apply jH | apply jI | apply jJ | apply jK | apply hb3x | (apply jL; first | (simp; done) | rfl) | apply jM | apply jN | apply jO | apply jP | apply jQ | apply jR | apply jS | apply jT (hb := hb3 _ (jA _)) | omega | (simp; done) | (simp; omega) | (dsimp only; omega)))); done))
    intro wa hb0' k3'
    (try simp only [List.setIfInBounds_toArray, List.set_cons_zero, List.set_cons_succ] at k3')
    try clear hb3
    try clear hb0
    try clear k3
    have hb0 := hb0'; clear hb0'
    have k3 := k3'; clear k3'
    have Lk3 := k3.later
    have Fk3 := k3.laterF
    have Qk3 := k3.lt
    go_wp2
    go_ret
    exact ⟨by simp, hb0⟩
end Go.Proofs.Ytephimmamkafoaa
namespace Go.Proofs.Ytephimmamkafoaa
set_option linter.unusedSimpArgs false
set_option linter.unusedVariables false
theorem snoc_ind {α : Type} {P : List α → Prop} (h0 : P []) (hs : ∀ l a, P l → P (l ++ [a])) (l : List α) : P l := by
  have h : ∀ m : List α, P m.reverse := fun m => by
    induction m with
    | nil => exact h0
    | cons a m ih => rw [List.reverse_cons]; exact hs _ _ ih
  have := h l.reverse
  rwa [List.reverse_reverse] at this
/-- A box within another. -/
def Bx.sub (a B : Bx) : Prop := (B.x.lo ≤ a.x.lo ∧ a.x.hi ≤ B.x.hi) ∧ (B.y.lo ≤ a.y.lo ∧ a.y.hi ≤ B.y.hi) ∧ B.z.lo ≤ a.z.lo ∧ a.z.hi ≤ B.z.hi
theorem has_iff {a : Bx} {p : Pl} : a.has p = true ↔ (a.x.lo ≤ p.x ∧ p.x ≤ a.x.hi) ∧ (a.y.lo ≤ p.y ∧ p.y ≤ a.y.hi) ∧ a.z.lo ≤ p.z ∧ p.z ≤ a.z.hi := by
  unfold Bx.has
  simp only [Bool.and_eq_true, inR_iff]
  exact ⟨fun h => ⟨h.1.1, h.1.2, h.2⟩, fun h => ⟨⟨h.1, h.2.1⟩, h.2.2⟩⟩
theorem Bx.sub.has {a B : Bx} (h : a.sub B) {p : Pl} (hp : a.has p = true) : B.has p = true := by
  rw [has_iff] at hp ⊢
  obtain ⟨h1, h2, h3⟩ := h
  omega
theorem join_has {a : Bx} {p q : Pl} : (a.has p = true → (a.join q.one).has p = true) ∧ (a.join q.one).has q = true := by
  simp only [has_iff, Bx.join, Rg.join, Pl.one]
  omega
theorem one_has (q : Pl) : q.one.has q = true := by
  simp only [has_iff, Pl.one]
  omega
theorem votes_inv (ok : Pl → Bool) (ps : List Pl) : (votesOf ok ps).2 = ps.countP ok ∧ ((votesOf ok ps).2 ≠ 0 → (∀ p ∈ ps, ok p = true → (votesOf ok ps).1.has p = true) ∧ ∀ B : Bx, (∀ p ∈ ps, ok p = true → B.has p = true) → (votesOf ok ps).1.sub B) := by
  induction ps using snoc_ind with
  | h0 => exact ⟨rfl, fun h => absurd rfl h⟩
  | hs ps q ih =>
    obtain ⟨h1, h2⟩ := ih
    rw [votesOf_snoc, voteF, List.countP_append, List.countP_cons, List.countP_nil]
    by_cases hq : ok q = true
    · rw [if_pos hq]
      refine ⟨by simp [hq, h1], fun _ => ?_⟩
      by_cases h0 : (votesOf ok ps).2 = 0
      · rw [if_pos h0]
        have hn : ∀ p ∈ ps, ¬ ok p = true := by
          rw [h1] at h0
          exact List.countP_eq_zero.1 h0
        refine ⟨fun p hp hk => ?_, fun B hB => ?_⟩
        · rcases List.mem_append.1 hp with h | h
          · exact absurd hk (hn p h)
          · rw [List.mem_singleton.1 h]
            exact one_has q
        · have := has_iff.1 (hB q (by simp) hq)
          unfold Bx.sub Pl.one
          dsimp only
          omega
      · rw [if_neg h0]
        obtain ⟨h3, h4⟩ := h2 h0
        refine ⟨fun p hp hk => ?_, fun B hB => ?_⟩
        · rcases List.mem_append.1 hp with h | h
          · exact join_has.1 (h3 p h hk)
          · rw [List.mem_singleton.1 h]
            exact (join_has (p := q)).2
        · have ha := has_iff.1 (hB q (by simp) hq)
          obtain ⟨b1, b2, b3⟩ := h4 B fun p hp hk => hB p (List.mem_append_left _ hp) hk
          unfold Bx.sub Bx.join Rg.join Pl.one
          dsimp only
          omega
    · rw [if_neg hq]
      refine ⟨by simp [hq, h1], fun h0 => ?_⟩
      obtain ⟨h3, h4⟩ := h2 h0
      refine ⟨fun p hp hk => ?_, fun B hB => h4 B fun p hp hk => hB p (List.mem_append_left _ hp) hk⟩
      rcases List.mem_append.1 hp with h | h
      · exact h3 p h hk
      · rw [List.mem_singleton.1 h] at hk
        exact absurd hk hq
theorem best_inv (g : Pl → List Int) (ps : List Pl) : ((bestOf g ps).2.2 = false ↔ ps = []) ∧ (ps ≠ [] → (bestOf g ps).2.1 ∈ ps ∧ (bestOf g ps).1 = g (bestOf g ps).2.1 ∧ ∀ p ∈ ps, (bestOf g ps).1.length ≤ (g p).length) := by
  induction ps using snoc_ind with
  | h0 => exact ⟨⟨fun _ => rfl, fun _ => rfl⟩, fun h => absurd rfl h⟩
  | hs ps q ih =>
    obtain ⟨h1, h2⟩ := ih
    rw [bestOf_snoc, bestF]
    have hne : ps ++ [q] ≠ [] := by simp
    by_cases ht : bestTest (g q) (bestOf g ps) = true
    · rw [if_pos ht]
      refine ⟨⟨fun h => Bool.noConfusion (show true = false from h), fun h => absurd h hne⟩, fun _ => ⟨by simp, rfl, fun p hp => ?_⟩⟩
      rcases List.mem_append.1 hp with h | h
      · have hps : ps ≠ [] := fun e => by rw [e] at h; cases h
        obtain ⟨_, _, h5⟩ := h2 hps
        have h6 := h5 p h
        have hf : (bestOf g ps).2.2 = true := by
          cases h7 : (bestOf g ps).2.2 with
          | true => rfl
          | false => exact absurd (h1.1 h7) hps
        unfold bestTest at ht
        rw [hf] at ht
        simp at ht
        dsimp only
        omega
      · rw [List.mem_singleton.1 h]
        exact Nat.le_refl _
    · rw [if_neg ht]
      unfold bestTest at ht
      simp at ht
      obtain ⟨⟨h3, h4⟩, -⟩ := ht
      have hps : ps ≠ [] := fun e => by rw [h1.2 e] at h3; cases h3
      obtain ⟨h5, h6, h7⟩ := h2 hps
      refine ⟨⟨fun h => (by rw [h] at h3; cases h3), fun h => absurd h hne⟩, fun _ => ⟨List.mem_append_left _ h5, h6, fun p hp => ?_⟩⟩
      rcases List.mem_append.1 hp with h | h
      · exact h7 p h
      · rw [List.mem_singleton.1 h]
        exact h4
theorem pts_ne {b : Bx} (h : b.ordered = true) : b.pts ≠ [] := fun e => by
  rw [Bx.ordered_iff] at h
  have : (⟨b.x.lo, b.y.lo, b.z.lo⟩ : Pl) ∈ b.pts := by
    rw [mem_pts, has_iff]
    dsimp only
    omega
  rw [e] at this
  cases this
end Go.Proofs.Ytephimmamkafoaa
namespace Go.Proofs.Ytephimmamkafoaa
set_option linter.unusedSimpArgs false
set_option linter.unusedVariables false
open Go.RowKit Go.Shelf
/-- What a ghost keeps of a slice: where it lies. -/
def OwnG (L : List Int) (g : Gh) (W : World) : Prop := Sl cI 1 W g.A L ∧ (L ≠ [] → ∃ o, g.A = some ⟨g.n, o, none⟩)
def blG (L : List Int) (g : Gh) : List Nat := if L = [] then [] else [g.n]
theorem own_gh {W w' : World} {A : Option Addr} {c : Nat} {L : List Int} (h : w'.ownsRow W.heap.size 3 1 (.slice A L.length c) L.length (L.map (.int .i64))) :
    ∃ n, OwnG L ⟨n, undef, A, c⟩ w' ∧ ∀ x ∈ blG L ⟨n, undef, A, c⟩, W.heap.size ≤ x ∧ x < w'.heap.size := by
  have hs := own_sl h
  rcases h.2 with ⟨_, e0⟩ | ⟨g, cap, cur, e1, e2, e3, _⟩
  · have hL : L = [] := List.eq_nil_of_length_eq_zero (by omega)
    subst hL
    exact ⟨0, ⟨hs, fun h => absurd rfl h⟩, fun x hx => by simp [blG] at hx⟩
  · injection e1 with e1 _ _
    refine ⟨g, ⟨hs, fun _ => ⟨0, e1⟩⟩, fun x hx => ?_⟩
    unfold blG at hx
    split at hx
    · cases hx
    · have : x = g := by simpa using hx
      subst this
      exact ⟨e2, (Array.getElem?_eq_some_iff.1 e3).1⟩
theorem OwnG.below {L : List Int} {g : Gh} {W W' : World} (h : OwnG L g W) (hb : Below W.heap.size W W') : OwnG L g W' := ⟨h.1.below hb, h.2⟩
theorem sl_bx {W W' : World} {X : List Nat} {L : List Int} {A : Option Addr} (h : Sl cI 1 W A L) (hb : BX X W W') (hX : ∀ x ∈ X, ∀ b o, A = some ⟨b, o, none⟩ → b ≠ x) : Sl cI 1 W' A L := fun k x hx => by
  obtain ⟨b, off, e, hc⟩ := h k x hx
  refine ⟨b, off, e, fun j v hv => ?_⟩
  have h1 := hc j v hv
  have hlt := World.block_lt_of_cell? W _ h1
  have hne : b ∉ X := fun hm => hX b hm b off e rfl
  have : W'.heap[b]? = W.heap[b]? := hb.block b hlt hne
  simp only [World.cell?] at h1 ⊢
  rw [this]
  exact h1
theorem OwnG.bx {L : List Int} {g : Gh} {W W' : World} {x : Nat} (h : OwnG L g W) (hb : BX [x] W W') (hne : ∀ y ∈ blG L g, y ≠ x) : Sl cI 1 W' g.A L := by
  by_cases hL : L = []
  · subst hL
    intro k y hy
    simp at hy
  · obtain ⟨o, e⟩ := h.2 hL
    refine sl_bx h.1 hb fun z hz b o' e' => ?_
    rw [e] at e'
    injection e' with e'
    injection e' with e1 _ _
    rw [← e1, List.mem_singleton.1 hz]
    exact hne g.n (by simp [blG, hL])
end Go.Proofs.Ytephimmamkafoaa
namespace Go.Proofs.Ytephimmamkafoaa
set_option linter.unusedSimpArgs false
set_option linter.unusedVariables false
open Go.RowKit Go.Shelf
attribute [local go_sem] bl_al bl_drew bl_drewN bl_refl bx_al bx_drew bx_drewN bx_refl
set_option maxRecDepth 20000
set_option maxHeartbeats 4000000 in
theorem r_others (n : Nat) (l : List Int) (A : Option Addr) (c : Nat) (w : World) (hl : Sl cI 1 w A l) (hll : l.length ≤ 1000) (hn : n ≤ 1000) :
    Calls Try.prog 102 #[.int .i64 (n : Nat), .slice A l.length c] w (RetI (pickL (fun i : Nat => !l.contains (i : Int)) n) w) := by
  obtain ⟨i0, hi0, hz0, hz1, hz2⟩ := info_parts info3
  have hh := Lib.hid fun (W : World) (hb : Below w.heap.size w W) (x : Int) => r_Has l x A c W (hl.below hb) hll
  clear hl
  obtain ⟨f, Hf⟩ : ∃ f : Nat → Bool, Hid (f = fun i : Nat => !l.contains (i : Int)) := ⟨_, rfl⟩
  rw [← Hf.out]
  generalize l.length = ll at *
  go_enter Try.func102, Try.ntmps102
  go_wp2
  go_loopw [5, 6] (fun v i wr => ∃ k : Nat, k ≤ n ∧ i = .int .i64 k ∧ Below w.heap.size w wr ∧ wr.ownsRow w.heap.size 3 1 v (pickL f k).length ((pickL f k).map (.int .i64))) (fun _ i _ => n - (intOf i).toNat)
  case atStart => exact ⟨0, Nat.zero_le _, rfl, Below.refl _ _, World.ownsRow_nil _ _ _ _⟩
  case round =>
    obtain ⟨k, hk, rfl, hb, hown⟩ := hrel
    by_cases hlt : k < n
    · have hlen := pickL_len f k
      have hsz := hb.size
      obtain ⟨B, hB⟩ : ∃ b', l.contains (k : Int) = b' := ⟨_, rfl⟩
      have hca := Lib.hid fun (W : World) (h : Below w.heap.size w W) => hB ▸ hh.out W h (k : Int)
      have hfk : Hid (f k = !B) := by refine Lib.hid ?_; rw [Hf.out, ← hB]
      clear hB
      cases B
      · have hm2 := Lib.hid (pickL_hit (f := f) (k := k) (by rw [hfk.out]; rfl))
        replace hown := Lib.hid hown
        go_upto_region 6 with (go_at_call 122; (with_reducible refine (hca.out _ hb).mono ?_); rintro e wh ⟨rfl, hbh⟩)
        have hown' := Lib.hid (own_below hown.out hbh)
        have hbj := bl_tr hb hbh
        have hszj := hbj.size
        clear hown
        go_wp2_with (at_builtin; refine wpList_append_own _ rfl _ _ 79 rfl w.heap.size 3 i0 (.int .i64 0) 1 8 Try.underlying79 hi0 hz0 hz1 hz2 rfl (by decide) _ _ _ rfl (hown'.out.alloc _) ⟨wh.heap.size, 0, none⟩ 1 1 [.int .i64 k] rfl rfl ?c1 ?c2 ?c3 ?c4 ?c5 ?_)
        case c1 =>
          intro j u hj
          match j, hj with
          | 0, hj => simp at hj; subst hj; simp [Addr.add]
        case c2 => intro u hu; simp at hu; subst hu; rfl
        case c3 => unfold maxLen; omega
        case c4 => omega
        case c5 => simp; omega
        intro v' w1 hown2 hgrow _
        have hb1 : Below w.heap.size w w1 := (bl_al _ hbj).grown hgrow (by simp; omega) (own_ge hown'.out)
        clear hgrow hown'
        replace hown2 := Lib.hid hown2
        go_wp2
        go_roundw
        case rel => exact ⟨k + 1, by omega, by go_num, hb1, by rw [hm2.out]; simpa using hown2.out⟩
        case measure => simp [intOf]; omega
      · have hm2 := Lib.hid (pickL_miss (f := f) (k := k) (by rw [hfk.out]; rfl))
        replace hown := Lib.hid hown
        go_wp2_with (go_at_call 122; (with_reducible refine (hca.out _ hb).mono ?_); rintro e wh ⟨rfl, hbh⟩)
        go_roundw
        case rel => exact ⟨k + 1, by omega, by go_num, bl_tr hb hbh, by rw [hm2.out]; exact own_below hown.out hbh⟩
        case measure => simp [intOf]; omega
    · go_wp2
      go_ret
      have : k = n := by omega
      subst this
      exact RetI.of hb hown
end Go.Proofs.Ytephimmamkafoaa
namespace Go.Proofs.Ytephimmamkafoaa
set_option linter.unusedSimpArgs false
set_option linter.unusedVariables false
open Go.RowKit Go.Shelf
attribute [local go_sem] bl_al bl_drew bl_drewN bl_refl bx_al bx_drew bx_drewN bx_refl
set_option maxRecDepth 20000
set_option maxHeartbeats 4000000 in
theorem r_Before (a b : List Int) (A B : Option Addr) (c d : Nat) (w : World) (ha : Sl cI 1 w A a) (hb : Sl cI 1 w B b) (h1 : a.length ≤ 1000) (h2 : b.length ≤ 1000) :
    Calls Try.prog 103 #[.slice A a.length c, .slice B b.length d] w (Ret (.bool (lexB a b)) w) := by
  have Ha := Lib.hid ha
  have Hb := Lib.hid hb
  clear ha hb
  have hend := Lib.hid (fun k => lexB_end (a := a) (b := b) (k := k))
  obtain ⟨n, Hn⟩ : ∃ n, Hid (a.length = n) := ⟨_, rfl⟩
  obtain ⟨m, Hm⟩ : ∃ n, Hid (b.length = n) := ⟨_, rfl⟩
  rw [Hn.out] at h1 hend ⊢
  rw [Hm.out] at h2 hend ⊢
  go_enter Try.func103, Try.ntmps103
  go_wp2
  go_loopw [5] (fun i wr => ∃ k : Nat, k ≤ n ∧ k ≤ m ∧ i = .int .i64 k ∧ Below w.heap.size w wr ∧ lexB a b = lexB (a.drop k) (b.drop k)) (fun i _ => n - (intOf i).toNat)
  case atStart => exact ⟨0, Nat.zero_le _, Nat.zero_le _, rfl, Below.refl _ _, rfl⟩
  case round =>
    obtain ⟨k, hk, hk2, rfl, hbw, hi⟩ := hrel
    replace hi := Lib.hid hi
    by_cases hlt : k < n
    · by_cases hlt2 : k < m
      · have hx : a[k]? = some (a[k]'(by rw [Hn.out]; exact hlt)) := List.getElem?_eq_getElem _
        generalize a[k]'(by rw [Hn.out]; exact hlt) = x at hx
        have hy : b[k]? = some (b[k]'(by rw [Hm.out]; exact hlt2)) := List.getElem?_eq_getElem _
        generalize b[k]'(by rw [Hm.out]; exact hlt2) = y at hy
        obtain ⟨ba, oa, hA, hca⟩ := Ha.out k x hx
        obtain ⟨bb, ob, hB, hcb⟩ := Hb.out k y hy
        have c0 : ∀ W, Below wr.heap.size wr W → W.cell? ⟨ba, oa + k, none⟩ = some (.int .i64 x) := later (by have := kcell hbw (hca 0 _ rfl); simpa using this)
        have c1 : ∀ W, Below wr.heap.size wr W → W.cell? ⟨bb, ob + k, none⟩ = some (.int .i64 y) := later (by have := kcell hbw (hcb 0 _ rfl); simpa using this)
        have hd := Lib.hid (lexB_drop hx hy)
        clear hca hcb hx hy hend
        subst hA hB
        go_wp2
        refine wp_any (w0 := wr) ⟨[], [], [some 18, some 19, some 20, some 21, some 22, some 23, some 24, some 25, some 26], [[], [], [0, 1], [0, 1, 2], [], [], [4, 5], [4, 5, 6], [0, 1, 2, 3, 4, 5, 6, 7]], [[], [], [0, 1], [2], [], [], [4, 5], [6], [3, 7]]⟩ (fun _ => []) (by kernel_rfl) (by kernel_rfl) (by (with_reducible (repeat' (first | assumption | apply jA | apply jB | apply jC | apply jD | apply jE | apply jF | apply hb3 | omega | (simp; done) | (simp; omega) | (dsimp only; omega))))) (fun u => by simp only [putD, Act.put, List.setIfInBounds_toArray, List.set_cons_zero, List.set_cons_succ, Nat.zero_add, Nat.reduceAdd]; rfl) ?_
        apply RGW.on (i := 0) rfl
        · (simp only [gA, gB, gC] <;> rfl)
        · intro γ u W hcur hd
          clear hd
          (try dsimp only)
          refine ⟨rfl, ?_⟩
          go_simp <;> (try go_bits) <;> with_reducible rfl
        · exact fun _ _ _ => rfl
        · rfl
        dsimp only [nA, cA]
        apply RGW.on (i := 1) rfl
        · (simp only [gA, gB, gC] <;> rfl)
        · intro γ u W hcur hd
          clear hd
          (try dsimp only)
          refine ⟨rfl, ?_⟩
          go_simp <;> (try go_bits) <;> with_reducible rfl
        · exact fun _ _ _ => rfl
        · rfl
        dsimp only [nA, cA]
        apply RGW.on (i := 2) rfl
        · (simp only [gA, gB, gC] <;> rfl)
        · intro γ u W hcur hd
          obtain ⟨⟨h0, -, -⟩, ⟨h1, -, -⟩, -⟩ := hd
          dsimp only at h0 h1
          (try simp only [h0, h1])
          refine ⟨rfl, ?_⟩
          go_simp <;> (try go_bits) <;> with_reducible rfl
        · exact fun _ _ _ => rfl
        · rfl
        dsimp only [nA, cA]
        apply RGW.on (i := 3) rfl
        · (simp only [gA, gB, gC] <;> rfl)
        · intro γ u W hcur hd
          obtain ⟨⟨h2, -, -⟩, -⟩ := hd
          dsimp only at h2
          (try simp only [h2])
          refine ⟨rfl, ?_⟩
          go_simp <;> (try go_bits) <;> with_reducible rfl
        · exact fun _ _ _ => rfl
        · rfl
        dsimp only [nA, cA]
        apply RGW.on (i := 4) rfl
        · (simp only [gA, gB, gC] <;> rfl)
        · intro γ u W hcur hd
          clear hd
          (try dsimp only)
          refine ⟨rfl, ?_⟩
          go_simp <;> (try go_bits) <;> with_reducible rfl
        · exact fun _ _ _ => rfl
        · rfl
        dsimp only [nA, cA]
        apply RGW.on (i := 5) rfl
        · (simp only [gA, gB, gC] <;> rfl)
        · intro γ u W hcur hd
          clear hd
          (try dsimp only)
          refine ⟨rfl, ?_⟩
          go_simp <;> (try go_bits) <;> with_reducible rfl
        · exact fun _ _ _ => rfl
        · rfl
        dsimp only [nA, cA]
        apply RGW.on (i := 6) rfl
        · (simp only [gA, gB, gC] <;> rfl)
        · intro γ u W hcur hd
          obtain ⟨⟨h4, -, -⟩, ⟨h5, -, -⟩, -⟩ := hd
          dsimp only at h4 h5
          (try simp only [h4, h5])
          refine ⟨rfl, ?_⟩
          go_simp <;> (try go_bits) <;> with_reducible rfl
        · exact fun _ _ _ => rfl
        · rfl
        dsimp only [nA, cA]
        apply RGW.on (i := 7) rfl
        · (simp only [gA, gB, gC] <;> rfl)
        · intro γ u W hcur hd
          obtain ⟨⟨h6, -, -⟩, -⟩ := hd
          dsimp only at h6
          (try simp only [h6])
          refine ⟨rfl, ?_⟩
          go_simp <;> (try go_bits) <;> with_reducible rfl
        · exact fun _ _ _ => rfl
        · rfl
        dsimp only [nA, cA]
        apply RGW.on (i := 8) rfl
        · (simp only [gA, gB, gC] <;> rfl)
        · intro γ u W hcur hd
          obtain ⟨⟨h3, -, -⟩, ⟨h7, -, -⟩, -⟩ := hd
          dsimp only at h3 h7
          (try simp only [h3, h7])
          refine ⟨rfl, ?_⟩
          go_simp <;> (try go_bits) <;> with_reducible rfl
        · exact fun _ _ _ => rfl
        · rfl
        dsimp only [nA, cA]
        refine RGW.fin (fun γ u wj hwj hd hdis => ?_)
        obtain ⟨⟨h0, -, -⟩, ⟨h1, -, -⟩, ⟨h2, -, -⟩, ⟨h3, -, -⟩, ⟨h4, -, -⟩, ⟨h5, -, -⟩, ⟨h6, -, -⟩, ⟨h7, -, -⟩, ⟨h8, -, -⟩, -⟩ := hd
        dsimp only at h0 h1 h2 h3 h4 h5 h6 h7 h8
        clear hdis
        simp only [h0, h1, h2, h3, h4, h5, h6, h7, h8]
        clear h8 h7 h6 h5 h4 h3 h2 h1 h0
        clear u
        simp only [List.map_nil]
        refine PlanW.done ?_
        have hb3 := bl_tt hwj
        have hbj := bl_tr hbw hwj
        by_cases hxy : x = y
        · have e : (x != y) = false := by simp [hxy]
          have h' : Hid (lexB a b = lexB (a.drop (k + 1)) (b.drop (k + 1))) := Lib.hid (by rw [hi.out, hd.out, if_pos hxy])
          clear hxy hd hi
          go_wp2
          go_roundw
          case rel => exact ⟨k + 1, by omega, by omega, by go_num, hbj, h'.out⟩
          case measure => simp [intOf]; omega
        · have e : (x != y) = true := by simp [hxy]
          have h' : Hid (lexB a b = decide (x < y)) := Lib.hid (by rw [hi.out, hd.out, if_neg hxy])
          clear hxy hd hi
          have c2 := fun W (h : Below wj.heap.size wj W) => c0 W (bl_tr hwj h)
          have c3 := fun W (h : Below wj.heap.size wj W) => c1 W (bl_tr hwj h)
          clear c0 c1
          go_wp2
          refine wp_any (w0 := wj) ⟨[], [], [some 27, some 28, some 29, some 30, some 31, some 32, some 33, some 34, some 35, some 4], [[], [], [0, 1], [0, 1, 2], [], [], [4, 5], [4, 5, 6], [0, 1, 2, 3, 4, 5, 6, 7], [0, 1, 2, 3, 4, 5, 6, 7, 8]], [[], [], [0, 1], [2], [], [], [4, 5], [6], [3, 7], [8]]⟩ (fun _ => []) (by kernel_rfl) (by kernel_rfl) (by (with_reducible (repeat' (first | assumption | apply jA | apply jB | apply jC | apply jD | apply jE | apply jF | apply hb3 | omega | (simp; done) | (simp; omega) | (dsimp only; omega))))) (fun u => by simp only [putD, Act.put, List.setIfInBounds_toArray, List.set_cons_zero, List.set_cons_succ, Nat.zero_add, Nat.reduceAdd]; rfl) ?_
          apply RGW.on (i := 0) rfl
          · (simp only [gA, gB, gC] <;> rfl)
          · intro γ u W hcur hd
            clear hd
            (try dsimp only)
            refine ⟨rfl, ?_⟩
            go_simp <;> (try go_bits) <;> with_reducible rfl
          · exact fun _ _ _ => rfl
          · rfl
          dsimp only [nA, cA]
          apply RGW.on (i := 1) rfl
          · (simp only [gA, gB, gC] <;> rfl)
          · intro γ u W hcur hd
            clear hd
            (try dsimp only)
            refine ⟨rfl, ?_⟩
            go_simp <;> (try go_bits) <;> with_reducible rfl
          · exact fun _ _ _ => rfl
          · rfl
          dsimp only [nA, cA]
          apply RGW.on (i := 2) rfl
          · (simp only [gA, gB, gC] <;> rfl)
          · intro γ u W hcur hd
            obtain ⟨⟨h0, -, -⟩, ⟨h1, -, -⟩, -⟩ := hd
            dsimp only at h0 h1
            (try simp only [h0, h1])
            refine ⟨rfl, ?_⟩
            go_simp <;> (try go_bits) <;> with_reducible rfl
          · exact fun _ _ _ => rfl
          · rfl
          dsimp only [nA, cA]
          apply RGW.on (i := 3) rfl
          · (simp only [gA, gB, gC] <;> rfl)
          · intro γ u W hcur hd
            obtain ⟨⟨h2, -, -⟩, -⟩ := hd
            dsimp only at h2
            (try simp only [h2])
            refine ⟨rfl, ?_⟩
            go_simp <;> (try go_bits) <;> with_reducible rfl
          · exact fun _ _ _ => rfl
          · rfl
          dsimp only [nA, cA]
          apply RGW.on (i := 4) rfl
          · (simp only [gA, gB, gC] <;> rfl)
          · intro γ u W hcur hd
            clear hd
            (try dsimp only)
            refine ⟨rfl, ?_⟩
            go_simp <;> (try go_bits) <;> with_reducible rfl
          · exact fun _ _ _ => rfl
          · rfl
          dsimp only [nA, cA]
          apply RGW.on (i := 5) rfl
          · (simp only [gA, gB, gC] <;> rfl)
          · intro γ u W hcur hd
            clear hd
            (try dsimp only)
            refine ⟨rfl, ?_⟩
            go_simp <;> (try go_bits) <;> with_reducible rfl
          · exact fun _ _ _ => rfl
          · rfl
          dsimp only [nA, cA]
          apply RGW.on (i := 6) rfl
          · (simp only [gA, gB, gC] <;> rfl)
          · intro γ u W hcur hd
            obtain ⟨⟨h4, -, -⟩, ⟨h5, -, -⟩, -⟩ := hd
            dsimp only at h4 h5
            (try simp only [h4, h5])
            refine ⟨rfl, ?_⟩
            go_simp <;> (try go_bits) <;> with_reducible rfl
          · exact fun _ _ _ => rfl
          · rfl
          dsimp only [nA, cA]
          apply RGW.on (i := 7) rfl
          · (simp only [gA, gB, gC] <;> rfl)
          · intro γ u W hcur hd
            obtain ⟨⟨h6, -, -⟩, -⟩ := hd
            dsimp only at h6
            (try simp only [h6])
            refine ⟨rfl, ?_⟩
            go_simp <;> (try go_bits) <;> with_reducible rfl
          · exact fun _ _ _ => rfl
          · rfl
          dsimp only [nA, cA]
          apply RGW.on (i := 8) rfl
          · (simp only [gA, gB, gC] <;> rfl)
          · intro γ u W hcur hd
            obtain ⟨⟨h3, -, -⟩, ⟨h7, -, -⟩, -⟩ := hd
            dsimp only at h3 h7
            (try simp only [h3, h7])
            refine ⟨rfl, ?_⟩
            go_simp <;> (try go_bits) <;> with_reducible rfl
          · exact fun _ _ _ => rfl
          · rfl
          dsimp only [nA, cA]
          apply RGW.on (i := 9) rfl
          · (simp only [gA, gB, gC] <;> rfl)
          · intro γ u W hcur hd
            obtain ⟨⟨h8, -, -⟩, -⟩ := hd
            dsimp only at h8
            (try simp only [h8])
            refine ⟨rfl, ?_⟩
            go_simp <;> (try go_bits) <;> with_reducible rfl
          · exact fun _ _ _ => rfl
          · rfl
          dsimp only [nA, cA]
          refine RGW.fin (fun γ u wk hwk hd hdis => ?_)
          obtain ⟨⟨h0, -, -⟩, ⟨h1, -, -⟩, ⟨h2, -, -⟩, ⟨h3, -, -⟩, ⟨h4, -, -⟩, ⟨h5, -, -⟩, ⟨h6, -, -⟩, ⟨h7, -, -⟩, ⟨h8, -, -⟩, ⟨h9, -, -⟩, -⟩ := hd
          dsimp only at h0 h1 h2 h3 h4 h5 h6 h7 h8 h9
          clear hdis
          simp only [h0, h1, h2, h3, h4, h5, h6, h7, h8, h9]
          clear h9 h8 h7 h6 h5 h4 h3 h2 h1 h0
          clear u
          simp only [List.map_nil]
          refine PlanW.done ?_
          have hb3 := bl_tt hwk
          have hbk := bl_tr hbj hwk
          go_wp2
          go_ret
          exact ⟨by rw [h'.out] <;> rfl, hbk⟩
      · have h' : Hid (lexB a b = decide (n < m)) := Lib.hid (by rw [hi.out]; exact hend.out k (by omega) (by omega) (by omega))
        have e : decide ((n : Int) < (m : Int)) = decide (n < m) := by simp
        clear hend hi
        go_wp2
        go_ret
        exact ⟨by rw [h'.out] <;> first | rfl | simp, hbw⟩
    · have h' : Hid (lexB a b = decide (n < m)) := Lib.hid (by rw [hi.out]; exact hend.out k (by omega) (by omega) (by omega))
      clear hend hi
      go_wp2
      go_ret
      exact ⟨by rw [h'.out] <;> first | rfl | simp, hbw⟩
end Go.Proofs.Ytephimmamkafoaa
