/-
  Walk: the law on silence.
-/
import Derived.Test.YtdlmkblmljhbfaaDoorAwake
import Derived.Test.YtdlmkblmljhbfaaDoorSilent
namespace Go.Proofs.YtdlmkblmljhbfaaDoor
set_option linter.unusedSimpArgs false
set_option linter.unusedVariables false
open Go.RowKit Go.Shelf
attribute [local go_sem] bl_al bl_drew bl_drewN bl_refl bx_al bx_drew bx_drewN bx_refl
set_option maxRecDepth 20000
theorem silE_ok {l : List Int} {lo hi t : Int} (h : silE l ⟨lo, hi⟩ t = 0) : l.length ≤ 60 ∧ (∀ n ∈ l, 0 ≤ n ∧ n ≤ 1000000000000) ∧ (0 ≤ t ∧ t ≤ 1000000000000) ∧ (0 ≤ lo ∧ lo ≤ 1000000000000) ∧ (0 ≤ hi ∧ hi ≤ 1000000000000) := by
  obtain ⟨a1, a2⟩ := (fst_cons _ _).1 h
  obtain ⟨a3, a4⟩ := (fst_cons _ _).1 a2
  obtain ⟨a5, a6⟩ := (fst_cons _ _).1 a4
  obtain ⟨-, a7⟩ := (fst_cons _ _).1 a6
  obtain ⟨a8, -⟩ := (fst_cons _ _).1 a7
  have b1 := (unl_zero (by decide)).1 a1
  have b5 := (unl_zero (by decide)).1 a5
  have b8 := (unl_zero (by decide)).1 a8
  simp [tickB, inR] at b1 b5 b8
  refine ⟨by omega, fun n hn => ?_, by omega, by omega, by omega⟩
  obtain ⟨k, hk⟩ := List.mem_iff_getElem?.1 hn
  rw [heardE_eq] at a3
  have := eachS_ok _ l 0 a3 k n hk
  have := (unl_zero (by decide)).1 ((fst_cons _ _).1 this).1
  simp [tickB, inR] at this
  omega
theorem rgsB_self (l : List Rg) : rgsB l l = true := by simp [rgsB]
theorem silR_len (l : List Int) (s : Rg) (t : Int) : (silR l s t).length ≤ l.length + 1 := by
  unfold silR silS
  split
  · exact silFrom_len _ _ _ _
  · simp
/-- The later end: as long as it is a tick, nothing else is wrong. -/
theorem silE_more {l : List Int} {s : Rg} {t t' : Int} (h : silE l s t = 0) (ht : 0 ≤ t' ∧ t' ≤ 1000000000000) : silE l s t' = 0 := by
  obtain ⟨a1, a2⟩ := (fst_cons _ _).1 h
  obtain ⟨a3, a4⟩ := (fst_cons _ _).1 a2
  obtain ⟨a5, a6⟩ := (fst_cons _ _).1 a4
  obtain ⟨a7, -⟩ := (fst_cons _ _).1 a6
  refine (fst_cons _ _).2 ⟨a1, (fst_cons _ _).2 ⟨a3, (fst_cons _ _).2 ⟨a5, (fst_cons _ _).2 ⟨a7, (fst_cons _ _).2 ⟨?_, rfl⟩⟩⟩⟩⟩
  exact (unl_zero (by decide)).2 (by simp [tickB, inR]; omega)
theorem silFrom_hi (hi t : Int) : ∀ (l : List Int) (f : Int) (r : Rg), r ∈ silFrom hi t l f → r.hi ≤ hi
  | [], f, r, h => by
    have := silOne_mem h
    omega
  | n :: l, f, r, h => by
    rcases List.mem_append.1 h with h | h
    · have := silOne_mem h
      omega
    · exact silFrom_hi hi t l _ r h
theorem silR_bd {l : List Int} {lo hi t : Int} {r : Rg} (h : r ∈ silR l ⟨lo, hi⟩ t) : 0 ≤ r.lo ∧ r.lo ≤ r.hi ∧ r.hi ≤ 1000000000000 := by
  unfold silR at h
  split at h
  · rename_i h0
    have hk := silE_ok h0
    have h1 := silFrom_ge _ _ _ _ _ h
    have h2 := silFrom_le _ _ _ _ _ h
    have h3 := silFrom_hi _ _ _ _ _ h
    dsimp only at h1 h3
    omega
  · simp at h
set_option maxHeartbeats 8000000 in
theorem r_BusSilence (l : List Int) (lo hi t0 t1 : Int) (A : Option Addr) (c : Nat) (w : World) (hs : Sl cI 1 w A l) (hT : Tab w) :
    Calls Tryd.prog 3 #[.slice A l.length c, .agg #[.int .i64 lo, .int .i64 hi], .agg #[.int .i64 t0, .int .i64 t1]] w (Ret (.bool true) w) := by
  have Hs := Lib.hid fun W (hb : Below w.heap.size w W) => hs.below hb
  have haw := Lib.hid fun W (hb : Below w.heap.size w W) => r_awake W (hT.below hb)
  clear hs hT
  by_cases h62 : (l.length : Int) ≤ 62
  rotate_left
  · generalize l.length = n at *
    go_enter Tryd.func3, Tryd.ntmps3
    go_upto_region 1 with fail
    first
    | apply absB2 (w0 := w) (g0 := w.heap.size) (g1 := w.heap.size + 1)
    | apply absTB2 (w0 := w) (g0 := w.heap.size) (g1 := w.heap.size + 1)
    | apply absIB2 (w0 := w) (g0 := w.heap.size) (g1 := w.heap.size + 1)
    iterate 3 (focus ((with_reducible (repeat' (first | assumption | apply jA | apply jB | apply jC | apply jD | apply jE | apply jF | apply hb3 | apply jG | apply jH | apply jI | apply jJ | apply jK | apply hb3x | (apply jL; first | (simp; done) | rfl) | apply jM | apply jN | apply jO | apply jP | apply jQ | apply jR | apply jS | apply jT (hb := hb3 _ (jA _)) | omega | (simp; done) | (simp; omega) | (dsimp only; omega)))); done))
    intro wa hb0' k0' k1'
    (try simp only [List.setIfInBounds_toArray, List.set_cons_zero, List.set_cons_succ] at k0' k1')
    try clear hb3
    try clear hb0
    try clear k0
    try clear k1
    have hb0 := hb0'; clear hb0'
    have k0 := k0'; clear k0'
    have k1 := k1'; clear k1'
    go_wp2_with fail
    refine (haw.out wa hb0).mono ?_
    rintro e w1 ⟨rfl, hb1⟩
    replace hb0 := bl_tr hb0 hb1
    go_wp2
    go_ret
    exact ⟨rfl, hb0⟩
  have hcp := Lib.hid fun W (hb : Below w.heap.size w W) => r_CopyInts l A c W (Hs.out W hb) (by omega)
  have hsi := Lib.hid fun (t : Int) (A' : Option Addr) (c' : Nat) W (h : Sl cI 1 W A' l) => c_SilentIn l ⟨lo, hi⟩ t A' c' W h (by omega)
  have hhe := Lib.hid fun W (hb : Below w.heap.size w W) => r_HeardErr l ⟨lo, hi⟩ t0 A c W (Hs.out W hb) (by omega)
  have hsl := Lib.hid fun (h : silE l ⟨lo, hi⟩ t0 = 0) W (hb : Below w.heap.size w W) =>
    r_Silent l lo hi t0 A c W (Hs.out W hb) (silE_ok h).1 (silE_ok h).2.1 (silE_ok h).2.2.1 (silE_ok h).2.2.2.1 (silE_ok h).2.2.2.2
  have hs0 := Lib.hid (hsi.out t0)
  have hs1 := Lib.hid (hsi.out (t0 + t1))
  have hr0 : Hid (silE l ⟨lo, hi⟩ t0 ≠ 0 → silR l ⟨lo, hi⟩ t0 = []) := fun h => by rw [silR, if_neg h]
  have hp1 : Hid (∀ (i : Nat) (r : Rg), (silR l ⟨lo, hi⟩ t0)[i]? = some r → r.lo ≤ r.hi) := fun i r h => by
    unfold silR at h
    split at h
    · exact silS_le l _ _ h
    · simp at h
  have hp2 : Hid (∀ (i : Nat) (a b : Rg), (silR l ⟨lo, hi⟩ t0)[i]? = some a → (silR l ⟨lo, hi⟩ t0)[i + 1]? = some b → 2 ≤ b.lo - a.hi) := fun i a b h h' => by
    unfold silR at h h'
    split at h
    · rename_i h0
      rw [if_pos h0] at h'
      exact silS_apart l _ (silE_ok h0).2.2.1.1 h h'
    · simp at h
  have hp3 : Hid (silE l ⟨lo, hi⟩ t0 = 0 → 0 ≤ t0 ∧ t0 ≤ 1000000000000) := fun h => (silE_ok h).2.2.1
  have hp4 : Hid (silE l ⟨lo, hi⟩ t0 = 0 → 0 ≤ t1 → t0 + t1 ≤ 1000000000000 → silE l ⟨lo, hi⟩ (t0 + t1) = 0 ∧ ∀ r' ∈ silR l ⟨lo, hi⟩ (t0 + t1), ((silR l ⟨lo, hi⟩ t0).any fun r => decide (r.lo ≤ r'.lo) && decide (r'.hi ≤ r.hi)) = true) := fun h h1 h2 => by
    have h3 := (silE_ok h).2.2.1
    have h4 := silE_more (t' := t0 + t1) h (by omega)
    refine ⟨h4, fun r' hr => ?_⟩
    rw [silR, if_pos h4] at hr
    rw [silR, if_pos h]
    exact silS_sub l _ (by omega) hr
  have hb0' := Lib.hid fun (r : Rg) (h : r ∈ silR l ⟨lo, hi⟩ t0) => silR_bd h
  have hb1' := Lib.hid fun (r : Rg) (h : r ∈ silR l ⟨lo, hi⟩ (t0 + t1)) => silR_bd h
  have hl0 := Lib.hid (silR_len l ⟨lo, hi⟩ t0)
  have hl1 := Lib.hid (silR_len l ⟨lo, hi⟩ (t0 + t1))
  have hsl' : Hid (silE l ⟨lo, hi⟩ t0 = 0 → ∀ W, Below w.heap.size w W → Calls Tryd.prog 20 #[.slice A l.length c, .agg #[.int .i64 lo, .int .i64 hi], .int .i64 t0] W (RetC cRg 24 2 (silR l ⟨lo, hi⟩ t0) W)) := fun h W hb => by
    have := hsl.out h W hb
    rw [silR, if_pos h]
    exact this
  clear hsi hsl
  have hhe' : Hid (∀ W, Below w.heap.size w W → Calls Tryd.prog 18 #[.slice A l.length c, .agg #[.int .i64 lo, .int .i64 hi], .int .i64 t0] W (Ret (.int .i64 (silE l ⟨lo, hi⟩ t0)) W)) := hhe
  have hs0' : Hid (∀ (A' : Option Addr) (c' : Nat) W, Sl cI 1 W A' l → Calls Tryd.prog 16 #[.slice A' l.length c', .agg #[.int .i64 lo, .int .i64 hi], .int .i64 t0] W (RetP cRg 24 2 (silR l ⟨lo, hi⟩ t0) (silE l ⟨lo, hi⟩ t0) W)) := hs0
  have hs1' : Hid (∀ (A' : Option Addr) (c' : Nat) W, Sl cI 1 W A' l → Calls Tryd.prog 16 #[.slice A' l.length c', .agg #[.int .i64 lo, .int .i64 hi], .int .i64 (t0 + t1)] W (RetP cRg 24 2 (silR l ⟨lo, hi⟩ (t0 + t1)) (silE l ⟨lo, hi⟩ (t0 + t1)) W)) := hs1
  clear hs0 hs1 hhe
  generalize silR l ⟨lo, hi⟩ t0 = R0 at *
  generalize silR l ⟨lo, hi⟩ (t0 + t1) = R1 at *
  generalize silE l ⟨lo, hi⟩ t0 = E0 at *
  generalize silE l ⟨lo, hi⟩ (t0 + t1) = E1 at *
  go_enter Tryd.func3, Tryd.ntmps3
  go_upto_region 1 with fail
  first
  | apply absB2 (w0 := w) (g0 := w.heap.size) (g1 := w.heap.size + 1)
  | apply absTB2 (w0 := w) (g0 := w.heap.size) (g1 := w.heap.size + 1)
  | apply absIB2 (w0 := w) (g0 := w.heap.size) (g1 := w.heap.size + 1)
  iterate 3 (focus ((with_reducible (repeat' (first | assumption | apply jA | apply jB | apply jC | apply jD | apply jE | apply jF | apply hb3 | apply jG | apply jH | apply jI | apply jJ | apply jK | apply hb3x | (apply jL; first | (simp; done) | rfl) | apply jM | apply jN | apply jO | apply jP | apply jQ | apply jR | apply jS | apply jT (hb := hb3 _ (jA _)) | omega | (simp; done) | (simp; omega) | (dsimp only; omega)))); done))
  intro wa hb0' k0' k1'
  (try simp only [List.setIfInBounds_toArray, List.set_cons_zero, List.set_cons_succ] at k0' k1')
  try clear hb3
  try clear hb0
  try clear k0
  try clear k1
  have hb0 := hb0'; clear hb0'
  have k0 := k0'; clear k0'
  have k1 := k1'; clear k1'
  go_wp2_with fail
  refine (haw.out wa hb0).mono ?_
  rintro e w1 ⟨rfl, hb1⟩
  replace hb0 := bl_tr hb0 hb1
  replace k0 := k0.below hb1
  replace k1 := k1.below hb1
  clear hb1 haw
  go_upto_region 5 with fail
  have Lk0 := k0.later
  have Fk0 := k0.laterF
  have Qk0 := k0.lt
  have Lk1 := k1.later
  have Fk1 := k1.laterF
  have Qk1 := k1.lt
  refine wp_any (w0 := w1) ⟨[], [], [some 22, some 23, some 24, some 25, some 26, some 27, some 21, some 28, some 29, some 7, some 8], [[], [0], [], [], [3], [0, 1, 2, 3, 4], [0, 1, 2, 3, 4, 5], [0, 1, 2, 3, 4, 5, 6], [0, 1, 2, 3, 4, 5, 6], [0, 1, 2, 3, 4, 5, 6, 7], [0, 1, 2, 3, 4, 5, 6, 7, 8, 9]], [[], [0], [], [], [3], [1, 2, 4], [1, 5], [1, 5, 6], [1, 5, 6], [1, 5, 7], [1, 5, 8]]⟩ (fun _ => []) (by kernel_rfl) (by kernel_rfl) (by (with_reducible (repeat' (first | assumption | apply jA | apply jB | apply jC | apply jD | apply jE | apply jF | apply hb3 | omega | (simp; done) | (simp; omega) | (dsimp only; omega))))) (fun u => by simp only [putD, Act.put, List.setIfInBounds_toArray, List.set_cons_zero, List.set_cons_succ, Nat.zero_add, Nat.reduceAdd]; rfl) ?_
  apply RGW.on (i := 0) rfl
  · (simp only [gA, gB, gC] <;> rfl)
  · intro γ u W hcur hd
    clear hd
    (try dsimp only)
    refine ⟨rfl, ?_⟩
    go_simp <;> (try go_bits) <;> with_reducible rfl
  · exact fun _ _ _ => rfl
  · rfl
  dsimp only [nA, cA]
  apply RGW.gh (⟨fun γ => .slice (γ 1).A l.length (γ 1).c, fun γ W => Sl cI 1 W (γ 1).A l, fun _ => []⟩) (i := 1) rfl
  · (simp only [gA, gB, gC] <;> rfl)
  · intro γ u W hcur hd
    obtain ⟨⟨h0, -, -⟩, -⟩ := hd
    dsimp only at h0
    (try simp only [h0])
    refine ⟨rfl, fun K hK => ?_⟩
    go_simp
    first
    | (go_at_call 17; (with_reducible refine (hcp.out _ (bl_tr hb0 hcur)).mono ?_); rintro e w3 ⟨Ax, cx, rfl, hb3, hox⟩; dsimp only; exact hK.out ⟨0, undef, Ax, cx⟩ _ _ (by simp [up]) hb3 (by simpa [up] using own_sl hox) (by simp))
    | (go_at_call 16; (with_reducible refine (hs0'.out _ _ _ r1).mono ?_); rintro e w3 ⟨Ax, cx, rfl, hb3, hox⟩; dsimp only; exact hK.out ⟨0, undef, Ax, cx⟩ _ _ (by simp [up]) hb3 (by simpa [up] using own_slC (cs := cRg) (fun _ => rfl) (by decide) hox) (by simp))
  · first
    | exact fun _ _ _ => rfl
    | intro γ γ' hg
      try dsimp only
      have e1 := hg 1 (by decide)
      simp only [e1]
      try exact ⟨trivial, fun _ h => h⟩
  · intro γ W W' hbl hR
    first | exact hR.below hbl | exact own_below hR hbl | exact trivial | exact ⟨hR.1.below hbl, hR.2⟩
  · rfl
  dsimp only [nA, cA]
  apply RGW.on (i := 2) rfl
  · (simp only [gA, gB, gC] <;> rfl)
  · intro γ u W hcur hd
    clear hd
    (try dsimp only)
    refine ⟨rfl, ?_⟩
    go_simp <;> (try go_bits) <;> with_reducible rfl
  · exact fun _ _ _ => rfl
  · rfl
  dsimp only [nA, cA]
  apply RGW.on (i := 3) rfl
  · (simp only [gA, gB, gC] <;> rfl)
  · intro γ u W hcur hd
    clear hd
    (try dsimp only)
    refine ⟨rfl, ?_⟩
    go_simp <;> (try go_bits) <;> with_reducible rfl
  · exact fun _ _ _ => rfl
  · rfl
  dsimp only [nA, cA]
  apply RGW.on (i := 4) rfl
  · (simp only [gA, gB, gC] <;> rfl)
  · intro γ u W hcur hd
    obtain ⟨⟨h3, -, -⟩, -⟩ := hd
    dsimp only at h3
    (try simp only [h3])
    refine ⟨rfl, ?_⟩
    go_simp <;> (try go_bits) <;> with_reducible rfl
  · exact fun _ _ _ => rfl
  · rfl
  dsimp only [nA, cA]
  apply RGW.gh (⟨fun γ => .tuple #[.slice (γ 5).A R0.length (γ 5).c, .int .i64 E0], fun γ W => Sl cRg 2 W (γ 5).A R0, fun _ => []⟩) (i := 5) rfl
  · (simp only [gA, gB, gC] <;> rfl)
  · intro γ u W hcur hd
    obtain ⟨⟨h1, r1, -⟩, ⟨h2, -, -⟩, ⟨h4, -, -⟩, -⟩ := hd
    dsimp only at h1 h2 h4 r1
    (try simp only [h1, h2, h4])
    refine ⟨rfl, fun K hK => ?_⟩
    go_simp
    first
    | (go_at_call 17; (with_reducible refine (hcp.out _ (bl_tr hb0 hcur)).mono ?_); rintro e w3 ⟨Ax, cx, rfl, hb3, hox⟩; dsimp only; exact hK.out ⟨0, undef, Ax, cx⟩ _ _ (by simp [up]) hb3 (by simpa [up] using own_sl hox) (by simp))
    | (go_at_call 16; (with_reducible refine (hs0'.out _ _ _ r1).mono ?_); rintro e w3 ⟨Ax, cx, rfl, hb3, hox⟩; dsimp only; exact hK.out ⟨0, undef, Ax, cx⟩ _ _ (by simp [up]) hb3 (by simpa [up] using own_slC (cs := cRg) (fun _ => rfl) (by decide) hox) (by simp))
  · first
    | exact fun _ _ _ => rfl
    | intro γ γ' hg
      try dsimp only
      have e1 := hg 1 (by decide)
      have e5 := hg 5 (by decide)
      simp only [e1, e5]
      try exact ⟨trivial, fun _ h => h⟩
  · intro γ W W' hbl hR
    first | exact hR.below hbl | exact own_below hR hbl | exact trivial | exact ⟨hR.1.below hbl, hR.2⟩
  · rfl
  dsimp only [nA, cA]
  apply RGW.on (i := 6) rfl
  · (simp only [gA, gB, gC] <;> rfl)
  · intro γ u W hcur hd
    obtain ⟨⟨h1, r1, -⟩, ⟨h5, r5, -⟩, -⟩ := hd
    dsimp only at h1 h5 r1 r5
    (try simp only [h1, h5])
    refine ⟨rfl, ?_⟩
    go_simp <;> (try go_bits) <;> with_reducible rfl
  · first
    | exact fun _ _ _ => rfl
    | intro γ γ' hg
      try dsimp only
      have e1 := hg 1 (by decide)
      have e5 := hg 5 (by decide)
      simp only [e1, e5]
  · rfl
  dsimp only [nA, cA]
  apply RGW.on (i := 7) rfl
  · (simp only [gA, gB, gC] <;> rfl)
  · intro γ u W hcur hd
    obtain ⟨⟨h1, r1, -⟩, ⟨h5, r5, -⟩, ⟨h6, -, -⟩, -⟩ := hd
    dsimp only at h1 h5 h6 r1 r5
    (try simp only [h1, h5, h6])
    refine ⟨rfl, ?_⟩
    go_simp <;> (try go_bits) <;> with_reducible rfl
  · first
    | exact fun _ _ _ => rfl
    | intro γ γ' hg
      try dsimp only
      have e1 := hg 1 (by decide)
      have e5 := hg 5 (by decide)
      simp only [e1, e5]
  · rfl
  dsimp only [nA, cA]
  apply RGW.on (i := 8) rfl
  · (simp only [gA, gB, gC] <;> rfl)
  · intro γ u W hcur hd
    obtain ⟨⟨h1, r1, -⟩, ⟨h5, r5, -⟩, ⟨h6, -, -⟩, -⟩ := hd
    dsimp only at h1 h5 h6 r1 r5
    (try simp only [h1, h5, h6])
    refine ⟨rfl, ?_⟩
    go_simp <;> (try go_bits) <;> with_reducible rfl
  · first
    | exact fun _ _ _ => rfl
    | intro γ γ' hg
      try dsimp only
      have e1 := hg 1 (by decide)
      have e5 := hg 5 (by decide)
      simp only [e1, e5]
  · rfl
  dsimp only [nA, cA]
  apply RGW.on (i := 9) rfl
  · (simp only [gA, gB, gC] <;> rfl)
  · intro γ u W hcur hd
    obtain ⟨⟨h1, r1, -⟩, ⟨h5, r5, -⟩, ⟨h7, -, -⟩, -⟩ := hd
    dsimp only at h1 h5 h7 r1 r5
    (try simp only [h1, h5, h7])
    refine ⟨rfl, ?_⟩
    go_simp <;> (try go_bits) <;> with_reducible rfl
  · first
    | exact fun _ _ _ => rfl
    | intro γ γ' hg
      try dsimp only
      have e1 := hg 1 (by decide)
      have e5 := hg 5 (by decide)
      simp only [e1, e5]
  · rfl
  dsimp only [nA, cA]
  apply RGW.on (i := 10) rfl
  · (simp only [gA, gB, gC] <;> rfl)
  · intro γ u W hcur hd
    obtain ⟨⟨h1, r1, -⟩, ⟨h5, r5, -⟩, ⟨h8, -, -⟩, -⟩ := hd
    dsimp only at h1 h5 h8 r1 r5
    (try simp only [h1, h5, h8])
    refine ⟨rfl, ?_⟩
    go_simp <;> (try go_bits) <;> with_reducible rfl
  · first
    | exact fun _ _ _ => rfl
    | intro γ γ' hg
      try dsimp only
      have e1 := hg 1 (by decide)
      have e5 := hg 5 (by decide)
      simp only [e1, e5]
  · rfl
  dsimp only [nA, cA]
  refine RGW.fin (fun γ u w2 hw2 hd hdis => ?_)
  obtain ⟨⟨h0, -, -⟩, ⟨h1, r1, b1⟩, ⟨h2, -, -⟩, ⟨h3, -, -⟩, ⟨h4, -, -⟩, ⟨h5, r5, b5⟩, ⟨h6, -, -⟩, ⟨h7, -, -⟩, ⟨h8, -, -⟩, ⟨h9, -, -⟩, ⟨h10, -, -⟩, -⟩ := hd
  dsimp only at h0 h1 h2 h3 h4 h5 h6 h7 h8 h9 h10 r1 r5 b1 b5
  clear hdis
  simp only [h0, h1, h2, h3, h4, h5, h6, h7, h8, h9, h10]
  clear h10 h9 h8 h7 h6 h5 h4 h3 h2 h1 h0
  clear u
  simp only [List.map_nil]
  refine PlanW.done ?_
  have hb3 := bl_tt hw2
  have hb2 := bl_tr hb0 hw2
  replace k0 := k0.below hw2
  replace k1 := k1.below hw2
  generalize (γ 5).A = A0 at *
  generalize (γ 5).c = c0 at *
  clear hb0 hb3 r1 b1 b5 hs0'
  have L0 := k0.cell
  have L1 := k1.cell
  go_wp2_with fail
  refine (hhe'.out w2 hb2).mono ?_
  rintro e w3 ⟨rfl, hb3⟩
  replace hb2 := bl_tr hb2 hb3
  replace k0 := k0.below hb3
  replace k1 := k1.below hb3
  replace r5 := r5.below hb3
  clear hb3 L0 L1 hhe'
  by_cases hE : E0 = 0
  rotate_left
  · have hR : R0.length = 0 := by rw [hr0.out hE]; rfl
    go_wp2
    go_ret
    exact ⟨by simp [hR], hb2⟩
  have hsl2 := Lib.hid (hsl'.out hE)
  have hp3' := hp3.out hE
  have hp4' := Lib.hid (hp4.out hE)
  clear hsl' hp3 hp4 hr0
  subst hE
  have L0 := k0.cell
  have L1 := k1.cell
  go_wp2_with fail
  refine (hsl2.out w3 hb2).mono ?_
  rintro e w4 ⟨A2, c2, rfl, hb3, ho2⟩
  replace hb2 := bl_tr hb2 hb3
  replace k0 := k0.below hb3
  replace k1 := k1.below hb3
  replace r5 := r5.below hb3
  clear hb3 L0 L1 hsl2
  go_wp2_with fail
  refine (r_Ranges R0 R0 A0 A2 c0 c2 w4 r5 (own_slC (cs := cRg) (fun _ => rfl) (by decide) ho2) (by have := hl0.out; omega) (by have := hl0.out; omega)).mono ?_
  rintro e w5 ⟨rfl, hb3⟩
  rw [rgsB_self]
  replace hb2 := bl_tr hb2 hb3
  replace k0 := k0.below hb3
  replace k1 := k1.below hb3
  replace r5 := r5.below hb3
  clear hb3 ho2
  have hl0' := hl0.out
  go_wp2
  obtain ⟨m, Hm⟩ : ∃ m, Hid (R0.length = m) := ⟨_, rfl⟩
  rw [Hm.out] at hl0'
  simp only [Hm.out]
  go_loopw [10] (fun i wr => ∃ k : Nat, k ≤ m ∧ i = .int .i64 k ∧ Below w.heap.size w wr ∧ Blk wr w.heap.size 24 #[.int .i64 lo, .int .i64 hi] ∧ Blk wr (w.heap.size + 1) 25 #[.int .i64 t0, .int .i64 t1] ∧ Sl cRg 2 wr A0 R0) (fun i _ => m - (intOf i).toNat)
  case atStart => exact ⟨0, Nat.zero_le _, rfl, hb2, k0, k1, r5⟩
  case round =>
    clear hb2 k0 k1 r5
    obtain ⟨k, hk, rfl, hb2, k0, k1, r5⟩ := hrel
    by_cases hkm : k < m
    · have hx : R0[k]? = some (R0[k]'(by rw [Hm.out]; exact hkm)) := List.getElem?_eq_getElem _
      generalize R0[k]'(by rw [Hm.out]; exact hkm) = x at hx
      have hxb := hb0'.out x (List.mem_of_getElem? hx)
      obtain ⟨b, off, rfl, hc⟩ := r5 k x hx
      have d0 : ∀ W, Below wr.heap.size wr W → W.cell? ⟨b, off + k * 2, none⟩ = some (.int .i64 x.lo) := later (hc 0 _ rfl)
      have d1 : ∀ W, Below wr.heap.size wr W → W.cell? ⟨b, off + k * 2 + 1, none⟩ = some (.int .i64 x.hi) := later (hc 1 _ rfl)
      have hR5 := Lib.hid r5
      clear hc
      have hle : ¬ x.hi < x.lo := by omega
      go_upto_region 14 with fail
      by_cases hk0 : k = 0
      · subst hk0
        simp only [Nat.zero_mul, Nat.add_zero] at d0 d1
        clear hx
        refine wp_any (w0 := wr) ⟨[], [], [some 63, some 64, some 65, some 66, some 67, some 68, some 69, some 70, some 71, some 72, some 73, some 74, some 75, some 76, some 77, some 78, some 79, some 80, some 81, some 82, some 83, some 84, some 85, some 86, some 87, some 88, some 89, some 90, some 91, some 92], [[], [], [0, 1], [0, 1, 2], [0, 1, 2, 3], [], [], [5, 6], [5, 6, 7], [5, 6, 7, 8], [0, 1, 2, 3, 4, 5, 6, 7, 8, 9], [0, 1, 2, 3, 4, 5, 6, 7, 8, 9, 10], [0, 1, 2, 3, 4, 5, 6, 7, 8, 9, 10, 11], [0, 1, 2, 3, 4, 5, 6, 7, 8, 9, 10, 11, 12], [0, 1, 2, 3, 4, 5, 6, 7, 8, 9, 10, 11, 12, 13], [0, 1, 2, 3, 4, 5, 6, 7, 8, 9, 10, 11, 12, 13, 14], [0, 1, 2, 3, 4, 5, 6, 7, 8, 9, 10, 11, 12, 13, 14], [0, 1, 2, 3, 4, 5, 6, 7, 8, 9, 10, 11, 12, 13, 14, 15, 16], [0, 1, 2, 3, 4, 5, 6, 7, 8, 9, 10, 11, 12, 13, 14, 15, 16, 17], [0, 1, 2, 3, 4, 5, 6, 7, 8, 9, 10, 11, 12, 13, 14, 15, 16, 17, 18], [0, 1, 2, 3, 4, 5, 6, 7, 8, 9, 10, 11, 12, 13, 14], [0, 1, 2, 3, 4, 5, 6, 7, 8, 9, 10, 11, 12, 13, 14], [0, 1, 2, 3, 4, 5, 6, 7, 8, 9, 10, 11, 12, 13, 14, 21], [0, 1, 2, 3, 4, 5, 6, 7, 8, 9, 10, 11, 12, 13, 14, 20, 21, 22], [0, 1, 2, 3, 4, 5, 6, 7, 8, 9, 10, 11, 12, 13, 14, 20, 21, 22, 23], [0, 1, 2, 3, 4, 5, 6, 7, 8, 9, 10, 11, 12, 13, 14, 20, 21, 22, 23, 24], [0, 1, 2, 3, 4, 5, 6, 7, 8, 9, 10, 11, 12, 13, 14, 15, 16, 17, 18, 19, 20, 21, 22, 23, 24, 25], [0, 1, 2, 3, 4, 5, 6, 7, 8, 9, 10, 11, 12, 13, 14, 15, 16, 17, 18, 19, 20, 21, 22, 23, 24, 25, 26], [0, 1, 2, 3, 4, 5, 6, 7, 8, 9, 10, 11, 12, 13, 14, 15, 16, 17, 18, 19, 20, 21, 22, 23, 24, 25, 26, 27], [0, 1, 2, 3, 4, 5, 6, 7, 8, 9, 10, 11, 12, 13, 14, 15, 16, 17, 18, 19, 20, 21, 22, 23, 24, 25, 26, 27, 28]], [[], [], [0, 1], [2], [3], [], [], [5, 6], [7], [8], [4, 9], [10], [11], [11, 12], [11, 13], [14], [14], [14, 15, 16], [14, 17], [14, 18], [14], [14], [14, 21], [14, 20, 22], [14, 23], [14, 24], [14, 19, 25], [14, 26], [11, 14, 27], [11, 28]]⟩ (fun _ => []) (by kernel_rfl) (by kernel_rfl) (by (with_reducible (repeat' (first | assumption | apply jA | apply jB | apply jC | apply jD | apply jE | apply jF | apply hb3 | omega | (simp; done) | (simp; omega) | (dsimp only; omega))))) (fun u => by simp only [putD, Act.put, List.setIfInBounds_toArray, List.set_cons_zero, List.set_cons_succ, Nat.zero_add, Nat.reduceAdd]; rfl) ?_
        apply RGW.on (i := 0) rfl
        · (simp only [gA, gB, gC] <;> rfl)
        · intro γ u W hcur hd
          clear hd
          (try dsimp only)
          refine ⟨rfl, ?_⟩
          go_simp <;> (try go_bits) <;> with_reducible rfl
        · exact fun _ _ _ => rfl
        · rfl
        dsimp only [nA, cA]
        apply RGW.on (i := 1) rfl
        · (simp only [gA, gB, gC] <;> rfl)
        · intro γ u W hcur hd
          clear hd
          (try dsimp only)
          refine ⟨rfl, ?_⟩
          go_simp <;> (try go_bits) <;> with_reducible rfl
        · exact fun _ _ _ => rfl
        · rfl
        dsimp only [nA, cA]
        apply RGW.on (i := 2) rfl
        · (simp only [gA, gB, gC] <;> rfl)
        · intro γ u W hcur hd
          obtain ⟨⟨h0, -, -⟩, ⟨h1, -, -⟩, -⟩ := hd
          dsimp only at h0 h1
          (try simp only [h0, h1])
          refine ⟨rfl, ?_⟩
          go_simp <;> (try go_bits) <;> with_reducible rfl
        · exact fun _ _ _ => rfl
        · rfl
        dsimp only [nA, cA]
        apply RGW.on (i := 3) rfl
        · (simp only [gA, gB, gC] <;> rfl)
        · intro γ u W hcur hd
          obtain ⟨⟨h2, -, -⟩, -⟩ := hd
          dsimp only at h2
          (try simp only [h2])
          refine ⟨rfl, ?_⟩
          go_simp <;> (try go_bits) <;> with_reducible rfl
        · exact fun _ _ _ => rfl
        · rfl
        dsimp only [nA, cA]
        apply RGW.on (i := 4) rfl
        · (simp only [gA, gB, gC] <;> rfl)
        · intro γ u W hcur hd
          obtain ⟨⟨h3, -, -⟩, -⟩ := hd
          dsimp only at h3
          (try simp only [h3])
          refine ⟨rfl, ?_⟩
          go_simp <;> (try go_bits) <;> with_reducible rfl
        · exact fun _ _ _ => rfl
        · rfl
        dsimp only [nA, cA]
        apply RGW.on (i := 5) rfl
        · (simp only [gA, gB, gC] <;> rfl)
        · intro γ u W hcur hd
          clear hd
          (try dsimp only)
          refine ⟨rfl, ?_⟩
          go_simp <;> (try go_bits) <;> with_reducible rfl
        · exact fun _ _ _ => rfl
        · rfl
        dsimp only [nA, cA]
        apply RGW.on (i := 6) rfl
        · (simp only [gA, gB, gC] <;> rfl)
        · intro γ u W hcur hd
          clear hd
          (try dsimp only)
          refine ⟨rfl, ?_⟩
          go_simp <;> (try go_bits) <;> with_reducible rfl
        · exact fun _ _ _ => rfl
        · rfl
        dsimp only [nA, cA]
        apply RGW.on (i := 7) rfl
        · (simp only [gA, gB, gC] <;> rfl)
        · intro γ u W hcur hd
          obtain ⟨⟨h5, -, -⟩, ⟨h6, -, -⟩, -⟩ := hd
          dsimp only at h5 h6
          (try simp only [h5, h6])
          refine ⟨rfl, ?_⟩
          go_simp <;> (try go_bits) <;> with_reducible rfl
        · exact fun _ _ _ => rfl
        · rfl
        dsimp only [nA, cA]
        apply RGW.on (i := 8) rfl
        · (simp only [gA, gB, gC] <;> rfl)
        · intro γ u W hcur hd
          obtain ⟨⟨h7, -, -⟩, -⟩ := hd
          dsimp only at h7
          (try simp only [h7])
          refine ⟨rfl, ?_⟩
          go_simp <;> (try go_bits) <;> with_reducible rfl
        · exact fun _ _ _ => rfl
        · rfl
        dsimp only [nA, cA]
        apply RGW.on (i := 9) rfl
        · (simp only [gA, gB, gC] <;> rfl)
        · intro γ u W hcur hd
          obtain ⟨⟨h8, -, -⟩, -⟩ := hd
          dsimp only at h8
          (try simp only [h8])
          refine ⟨rfl, ?_⟩
          go_simp <;> (try go_bits) <;> with_reducible rfl
        · exact fun _ _ _ => rfl
        · rfl
        dsimp only [nA, cA]
        apply RGW.on (i := 10) rfl
        · (simp only [gA, gB, gC] <;> rfl)
        · intro γ u W hcur hd
          obtain ⟨⟨h4, -, -⟩, ⟨h9, -, -⟩, -⟩ := hd
          dsimp only at h4 h9
          (try simp only [h4, h9])
          refine ⟨rfl, ?_⟩
          go_simp <;> (try go_bits) <;> with_reducible rfl
        · exact fun _ _ _ => rfl
        · rfl
        dsimp only [nA, cA]
        apply RGW.on (i := 11) rfl
        · (simp only [gA, gB, gC] <;> rfl)
        · intro γ u W hcur hd
          obtain ⟨⟨h10, -, -⟩, -⟩ := hd
          dsimp only at h10
          (try simp only [h10])
          refine ⟨rfl, ?_⟩
          go_simp <;> (try go_bits) <;> with_reducible rfl
        · exact fun _ _ _ => rfl
        · rfl
        dsimp only [nA, cA]
        first
        | apply RGW.on (i := 12) rfl
          · (simp only [gA, gB, gC] <;> rfl)
          · intro γ u W hcur hd
            obtain ⟨⟨h11, -, -⟩, -⟩ := hd
            dsimp only at h11
            (try simp only [h11])
            refine ⟨?_, ?_⟩
            · (simp [Region.wanted, yielded, undef, *]; done)
            go_simp <;> (try go_bits) <;> with_reducible rfl
          · exact fun _ _ _ => rfl
          · rfl
        | apply RGW.off (i := 12) rfl
          · (simp only [gA, gB, gC] <;> rfl)
          · intro γ u W hcur hd
            obtain ⟨⟨h11, -, -⟩, -⟩ := hd
            dsimp only at h11
            (try simp only [h11])
            simp [Region.wanted, yielded, undef, *]
          · rfl
        dsimp only [nA, cA]
        first
        | apply RGW.on (i := 13) rfl
          · (simp only [gA, gB, gC] <;> rfl)
          · intro γ u W hcur hd
            obtain ⟨⟨h11, -, -⟩, ⟨h12, -, -⟩, -⟩ := hd
            dsimp only at h11 h12
            (try simp only [h11, h12])
            refine ⟨?_, ?_⟩
            · (simp [Region.wanted, yielded, undef, *]; done)
            go_simp <;> (try go_bits) <;> with_reducible rfl
          · exact fun _ _ _ => rfl
          · rfl
        | apply RGW.off (i := 13) rfl
          · (simp only [gA, gB, gC] <;> rfl)
          · intro γ u W hcur hd
            obtain ⟨⟨h11, -, -⟩, ⟨h12, -, -⟩, -⟩ := hd
            dsimp only at h11 h12
            (try simp only [h11, h12])
            simp [Region.wanted, yielded, undef, *]
          · rfl
        dsimp only [nA, cA]
        first
        | apply RGW.on (i := 14) rfl
          · (simp only [gA, gB, gC] <;> rfl)
          · intro γ u W hcur hd
            obtain ⟨⟨h11, -, -⟩, ⟨h13, -, -⟩, -⟩ := hd
            dsimp only at h11 h13
            (try simp only [h11, h13])
            refine ⟨?_, ?_⟩
            · (simp [Region.wanted, yielded, undef, *]; done)
            go_simp <;> (try go_bits) <;> with_reducible rfl
          · exact fun _ _ _ => rfl
          · rfl
        | apply RGW.off (i := 14) rfl
          · (simp only [gA, gB, gC] <;> rfl)
          · intro γ u W hcur hd
            obtain ⟨⟨h11, -, -⟩, ⟨h13, -, -⟩, -⟩ := hd
            dsimp only at h11 h13
            (try simp only [h11, h13])
            simp [Region.wanted, yielded, undef, *]
          · rfl
        dsimp only [nA, cA]
        first
        | apply RGW.on (i := 15) rfl
          · (simp only [gA, gB, gC] <;> rfl)
          · intro γ u W hcur hd
            obtain ⟨⟨h14, -, -⟩, -⟩ := hd
            dsimp only at h14
            (try simp only [h14])
            refine ⟨?_, ?_⟩
            · (simp [Region.wanted, yielded, undef, *]; done)
            go_simp <;> (try go_bits) <;> with_reducible rfl
          · exact fun _ _ _ => rfl
          · rfl
        | apply RGW.off (i := 15) rfl
          · (simp only [gA, gB, gC] <;> rfl)
          · intro γ u W hcur hd
            obtain ⟨⟨h14, -, -⟩, -⟩ := hd
            dsimp only at h14
            (try simp only [h14])
            simp [Region.wanted, yielded, undef, *]
          · rfl
        dsimp only [nA, cA]
        first
        | apply RGW.on (i := 16) rfl
          · (simp only [gA, gB, gC] <;> rfl)
          · intro γ u W hcur hd
            obtain ⟨⟨h14, -, -⟩, -⟩ := hd
            dsimp only at h14
            (try simp only [h14])
            refine ⟨?_, ?_⟩
            · (simp [Region.wanted, yielded, undef, *]; done)
            go_simp <;> (try go_bits) <;> with_reducible rfl
          · exact fun _ _ _ => rfl
          · rfl
        | apply RGW.off (i := 16) rfl
          · (simp only [gA, gB, gC] <;> rfl)
          · intro γ u W hcur hd
            obtain ⟨⟨h14, -, -⟩, -⟩ := hd
            dsimp only at h14
            (try simp only [h14])
            simp [Region.wanted, yielded, undef, *]
          · rfl
        dsimp only [nA, cA]
        first
        | apply RGW.on (i := 17) rfl
          · (simp only [gA, gB, gC] <;> rfl)
          · intro γ u W hcur hd
            obtain ⟨⟨h14, -, -⟩, ⟨h15, -, -⟩, ⟨h16, -, -⟩, -⟩ := hd
            dsimp only at h14 h15 h16
            (try simp only [h14, h15, h16])
            refine ⟨?_, ?_⟩
            · (simp [Region.wanted, yielded, undef, *]; done)
            go_simp <;> (try go_bits) <;> with_reducible rfl
          · exact fun _ _ _ => rfl
          · rfl
        | apply RGW.off (i := 17) rfl
          · (simp only [gA, gB, gC] <;> rfl)
          · intro γ u W hcur hd
            obtain ⟨⟨h14, -, -⟩, ⟨h15, -, -⟩, ⟨h16, -, -⟩, -⟩ := hd
            dsimp only at h14 h15 h16
            (try simp only [h14, h15, h16])
            simp [Region.wanted, yielded, undef, *]
          · rfl
        dsimp only [nA, cA]
        first
        | apply RGW.on (i := 18) rfl
          · (simp only [gA, gB, gC] <;> rfl)
          · intro γ u W hcur hd
            obtain ⟨⟨h14, -, -⟩, ⟨h17, -, -⟩, -⟩ := hd
            dsimp only at h14 h17
            (try simp only [h14, h17])
            refine ⟨?_, ?_⟩
            · (simp [Region.wanted, yielded, undef, *]; done)
            go_simp <;> (try go_bits) <;> with_reducible rfl
          · exact fun _ _ _ => rfl
          · rfl
        | apply RGW.off (i := 18) rfl
          · (simp only [gA, gB, gC] <;> rfl)
          · intro γ u W hcur hd
            obtain ⟨⟨h14, -, -⟩, ⟨h17, -, -⟩, -⟩ := hd
            dsimp only at h14 h17
            (try simp only [h14, h17])
            simp [Region.wanted, yielded, undef, *]
          · rfl
        dsimp only [nA, cA]
        first
        | apply RGW.on (i := 19) rfl
          · (simp only [gA, gB, gC] <;> rfl)
          · intro γ u W hcur hd
            obtain ⟨⟨h14, -, -⟩, ⟨h18, -, -⟩, -⟩ := hd
            dsimp only at h14 h18
            (try simp only [h14, h18])
            refine ⟨?_, ?_⟩
            · (simp [Region.wanted, yielded, undef, *]; done)
            go_simp <;> (try go_bits) <;> with_reducible rfl
          · exact fun _ _ _ => rfl
          · rfl
        | apply RGW.off (i := 19) rfl
          · (simp only [gA, gB, gC] <;> rfl)
          · intro γ u W hcur hd
            obtain ⟨⟨h14, -, -⟩, ⟨h18, -, -⟩, -⟩ := hd
            dsimp only at h14 h18
            (try simp only [h14, h18])
            simp [Region.wanted, yielded, undef, *]
          · rfl
        dsimp only [nA, cA]
        first
        | apply RGW.on (i := 20) rfl
          · (simp only [gA, gB, gC] <;> rfl)
          · intro γ u W hcur hd
            obtain ⟨⟨h14, -, -⟩, -⟩ := hd
            dsimp only at h14
            (try simp only [h14])
            refine ⟨?_, ?_⟩
            · (simp [Region.wanted, yielded, undef, *]; done)
            go_simp <;> (try go_bits) <;> with_reducible rfl
          · exact fun _ _ _ => rfl
          · rfl
        | apply RGW.off (i := 20) rfl
          · (simp only [gA, gB, gC] <;> rfl)
          · intro γ u W hcur hd
            obtain ⟨⟨h14, -, -⟩, -⟩ := hd
            dsimp only at h14
            (try simp only [h14])
            simp [Region.wanted, yielded, undef, *]
          · rfl
        dsimp only [nA, cA]
        first
        | apply RGW.on (i := 21) rfl
          · (simp only [gA, gB, gC] <;> rfl)
          · intro γ u W hcur hd
            obtain ⟨⟨h14, -, -⟩, -⟩ := hd
            dsimp only at h14
            (try simp only [h14])
            refine ⟨?_, ?_⟩
            · (simp [Region.wanted, yielded, undef, *]; done)
            go_simp <;> (try go_bits) <;> with_reducible rfl
          · exact fun _ _ _ => rfl
          · rfl
        | apply RGW.off (i := 21) rfl
          · (simp only [gA, gB, gC] <;> rfl)
          · intro γ u W hcur hd
            obtain ⟨⟨h14, -, -⟩, -⟩ := hd
            dsimp only at h14
            (try simp only [h14])
            simp [Region.wanted, yielded, undef, *]
          · rfl
        dsimp only [nA, cA]
        first
        | apply RGW.on (i := 22) rfl
          · (simp only [gA, gB, gC] <;> rfl)
          · intro γ u W hcur hd
            obtain ⟨⟨h14, -, -⟩, ⟨h21, -, -⟩, -⟩ := hd
            dsimp only at h14 h21
            (try simp only [h14, h21])
            refine ⟨?_, ?_⟩
            · (simp [Region.wanted, yielded, undef, *]; done)
            go_simp <;> (try go_bits) <;> with_reducible rfl
          · exact fun _ _ _ => rfl
          · rfl
        | apply RGW.off (i := 22) rfl
          · (simp only [gA, gB, gC] <;> rfl)
          · intro γ u W hcur hd
            obtain ⟨⟨h14, -, -⟩, ⟨h21, -, -⟩, -⟩ := hd
            dsimp only at h14 h21
            (try simp only [h14, h21])
            simp [Region.wanted, yielded, undef, *]
          · rfl
        dsimp only [nA, cA]
        first
        | apply RGW.on (i := 23) rfl
          · (simp only [gA, gB, gC] <;> rfl)
          · intro γ u W hcur hd
            obtain ⟨⟨h14, -, -⟩, ⟨h20, -, -⟩, ⟨h22, -, -⟩, -⟩ := hd
            dsimp only at h14 h20 h22
            (try simp only [h14, h20, h22])
            refine ⟨?_, ?_⟩
            · (simp [Region.wanted, yielded, undef, *]; done)
            go_simp <;> (try go_bits) <;> with_reducible rfl
          · exact fun _ _ _ => rfl
          · rfl
        | apply RGW.off (i := 23) rfl
          · (simp only [gA, gB, gC] <;> rfl)
          · intro γ u W hcur hd
            obtain ⟨⟨h14, -, -⟩, ⟨h20, -, -⟩, ⟨h22, -, -⟩, -⟩ := hd
            dsimp only at h14 h20 h22
            (try simp only [h14, h20, h22])
            simp [Region.wanted, yielded, undef, *]
          · rfl
        dsimp only [nA, cA]
        first
        | apply RGW.on (i := 24) rfl
          · (simp only [gA, gB, gC] <;> rfl)
          · intro γ u W hcur hd
            obtain ⟨⟨h14, -, -⟩, ⟨h23, -, -⟩, -⟩ := hd
            dsimp only at h14 h23
            (try simp only [h14, h23])
            refine ⟨?_, ?_⟩
            · (simp [Region.wanted, yielded, undef, *]; done)
            go_simp <;> (try go_bits) <;> with_reducible rfl
          · exact fun _ _ _ => rfl
          · rfl
        | apply RGW.off (i := 24) rfl
          · (simp only [gA, gB, gC] <;> rfl)
          · intro γ u W hcur hd
            obtain ⟨⟨h14, -, -⟩, ⟨h23, -, -⟩, -⟩ := hd
            dsimp only at h14 h23
            (try simp only [h14, h23])
            simp [Region.wanted, yielded, undef, *]
          · rfl
        dsimp only [nA, cA]
        first
        | apply RGW.on (i := 25) rfl
          · (simp only [gA, gB, gC] <;> rfl)
          · intro γ u W hcur hd
            obtain ⟨⟨h14, -, -⟩, ⟨h24, -, -⟩, -⟩ := hd
            dsimp only at h14 h24
            (try simp only [h14, h24])
            refine ⟨?_, ?_⟩
            · (simp [Region.wanted, yielded, undef, *]; done)
            go_simp <;> (try go_bits) <;> with_reducible rfl
          · exact fun _ _ _ => rfl
          · rfl
        | apply RGW.off (i := 25) rfl
          · (simp only [gA, gB, gC] <;> rfl)
          · intro γ u W hcur hd
            obtain ⟨⟨h14, -, -⟩, ⟨h24, -, -⟩, -⟩ := hd
            dsimp only at h14 h24
            (try simp only [h14, h24])
            simp [Region.wanted, yielded, undef, *]
          · rfl
        dsimp only [nA, cA]
        first
        | apply RGW.on (i := 26) rfl
          · (simp only [gA, gB, gC] <;> rfl)
          · intro γ u W hcur hd
            obtain ⟨⟨h14, -, -⟩, ⟨h19, -, -⟩, ⟨h25, -, -⟩, -⟩ := hd
            dsimp only at h14 h19 h25
            (try simp only [h14, h19, h25])
            refine ⟨?_, ?_⟩
            · (simp [Region.wanted, yielded, undef, *]; done)
            go_simp <;> (try go_bits) <;> with_reducible rfl
          · exact fun _ _ _ => rfl
          · rfl
        | apply RGW.off (i := 26) rfl
          · (simp only [gA, gB, gC] <;> rfl)
          · intro γ u W hcur hd
            obtain ⟨⟨h14, -, -⟩, ⟨h19, -, -⟩, ⟨h25, -, -⟩, -⟩ := hd
            dsimp only at h14 h19 h25
            (try simp only [h14, h19, h25])
            simp [Region.wanted, yielded, undef, *]
          · rfl
        dsimp only [nA, cA]
        first
        | apply RGW.on (i := 27) rfl
          · (simp only [gA, gB, gC] <;> rfl)
          · intro γ u W hcur hd
            obtain ⟨⟨h14, -, -⟩, ⟨h26, -, -⟩, -⟩ := hd
            dsimp only at h14 h26
            (try simp only [h14, h26])
            refine ⟨?_, ?_⟩
            · (simp [Region.wanted, yielded, undef, *]; done)
            go_simp <;> (try go_bits) <;> with_reducible rfl
          · exact fun _ _ _ => rfl
          · rfl
        | apply RGW.off (i := 27) rfl
          · (simp only [gA, gB, gC] <;> rfl)
          · intro γ u W hcur hd
            obtain ⟨⟨h14, -, -⟩, ⟨h26, -, -⟩, -⟩ := hd
            dsimp only at h14 h26
            (try simp only [h14, h26])
            simp [Region.wanted, yielded, undef, *]
          · rfl
        dsimp only [nA, cA]
        first
        | apply RGW.on (i := 28) rfl
          · (simp only [gA, gB, gC] <;> rfl)
          · intro γ u W hcur hd
            obtain ⟨⟨h11, -, -⟩, ⟨h14, -, -⟩, ⟨h27, -, -⟩, -⟩ := hd
            dsimp only at h11 h14 h27
            (try simp only [h11, h14, h27])
            refine ⟨?_, ?_⟩
            · (simp [Region.wanted, yielded, undef, *]; done)
            go_simp <;> (try go_bits) <;> with_reducible rfl
          · exact fun _ _ _ => rfl
          · rfl
        | apply RGW.off (i := 28) rfl
          · (simp only [gA, gB, gC] <;> rfl)
          · intro γ u W hcur hd
            obtain ⟨⟨h11, -, -⟩, ⟨h14, -, -⟩, ⟨h27, -, -⟩, -⟩ := hd
            dsimp only at h11 h14 h27
            (try simp only [h11, h14, h27])
            simp [Region.wanted, yielded, undef, *]
          · rfl
        dsimp only [nA, cA]
        apply RGW.on (i := 29) rfl
        · (simp only [gA, gB, gC] <;> rfl)
        · intro γ u W hcur hd
          obtain ⟨⟨h11, -, -⟩, ⟨h28, -, -⟩, -⟩ := hd
          dsimp only at h11 h28
          (try simp only [h11, h28])
          refine ⟨rfl, ?_⟩
          go_simp <;> (try go_bits) <;> with_reducible rfl
        · exact fun _ _ _ => rfl
        · rfl
        dsimp only [nA, cA]
        refine RGW.fin (fun γ u wj hwj hd hdis => ?_)
        obtain ⟨⟨h0, -, -⟩, ⟨h1, -, -⟩, ⟨h2, -, -⟩, ⟨h3, -, -⟩, ⟨h4, -, -⟩, ⟨h5, -, -⟩, ⟨h6, -, -⟩, ⟨h7, -, -⟩, ⟨h8, -, -⟩, ⟨h9, -, -⟩, ⟨h10, -, -⟩, ⟨h11, -, -⟩, ⟨h12, -, -⟩, ⟨h13, -, -⟩, ⟨h14, -, -⟩, ⟨h15, -, -⟩, ⟨h16, -, -⟩, ⟨h17, -, -⟩, ⟨h18, -, -⟩, ⟨h19, -, -⟩, ⟨h20, -, -⟩, ⟨h21, -, -⟩, ⟨h22, -, -⟩, ⟨h23, -, -⟩, ⟨h24, -, -⟩, ⟨h25, -, -⟩, ⟨h26, -, -⟩, ⟨h27, -, -⟩, ⟨h28, -, -⟩, ⟨h29, -, -⟩, -⟩ := hd
        dsimp only at h0 h1 h2 h3 h4 h5 h6 h7 h8 h9 h10 h11 h12 h13 h14 h15 h16 h17 h18 h19 h20 h21 h22 h23 h24 h25 h26 h27 h28 h29
        clear hdis
        simp only [h0, h1, h2, h3, h4, h5, h6, h7, h8, h9, h10, h11, h12, h13, h14, h15, h16, h17, h18, h19, h20, h21, h22, h23, h24, h25, h26, h27, h28, h29]
        clear h29 h28 h27 h26 h25 h24 h23 h22 h21 h20 h19 h18 h17 h16 h15 h14 h13 h12 h11 h10 h9 h8 h7 h6 h5 h4 h3 h2 h1 h0
        clear u
        simp only [List.map_nil]
        refine PlanW.done ?_
        have hb3 := bl_tt hwj
        have hbj := bl_tr hb2 hwj
        go_wp2
        go_roundw
        case rel => exact ⟨1, by omega, by go_num, hbj, k0.below hwj, k1.below hwj, hR5.out.below hwj⟩
        case measure => simp [intOf] <;> omega
      · obtain ⟨j, rfl⟩ : ∃ j, k = j + 1 := ⟨k - 1, by omega⟩
        have hy : R0[j]? = some (R0[j]'(by rw [Hm.out]; omega)) := List.getElem?_eq_getElem _
        generalize R0[j]'(by rw [Hm.out]; omega) = y at hy
        have hyb := hb0'.out y (List.mem_of_getElem? hy)
        have hgap := hp2.out j y x hy hx
        obtain ⟨b2, off2, e2, hc⟩ := hR5.out j y hy
        injection e2 with e2
        injection e2 with e2 e3 _
        subst e2 e3
        have d2 : ∀ W, Below wr.heap.size wr W → W.cell? ⟨b, off + j * 2 + 1, none⟩ = some (.int .i64 y.hi) := later (hc 1 _ rfl)
        have hj0 : (0 : Int) < (j : Int) + 1 := by omega
        have hj1 : (j : Int) + 1 < m := by omega
        have hj3 : (j : Int) < m := by omega
        have hj4 : (0 : Int) ≤ (j : Int) + 1 := by omega
        have hgap2 : ¬ x.lo - y.hi < 2 := by omega
        clear hc hx hy hk0
        refine wp_any (w0 := wr) ⟨[], [], [some 63, some 64, some 65, some 66, some 67, some 68, some 69, some 70, some 71, some 72, some 73, some 74, some 75, some 76, some 77, some 78, some 79, some 80, some 81, some 82, some 83, some 84, some 85, some 86, some 87, some 88, some 89, some 90, some 91, some 92], [[], [], [0, 1], [0, 1, 2], [0, 1, 2, 3], [], [], [5, 6], [5, 6, 7], [5, 6, 7, 8], [0, 1, 2, 3, 4, 5, 6, 7, 8, 9], [0, 1, 2, 3, 4, 5, 6, 7, 8, 9, 10], [0, 1, 2, 3, 4, 5, 6, 7, 8, 9, 10, 11], [0, 1, 2, 3, 4, 5, 6, 7, 8, 9, 10, 11, 12], [0, 1, 2, 3, 4, 5, 6, 7, 8, 9, 10, 11, 12, 13], [0, 1, 2, 3, 4, 5, 6, 7, 8, 9, 10, 11, 12, 13, 14], [0, 1, 2, 3, 4, 5, 6, 7, 8, 9, 10, 11, 12, 13, 14], [0, 1, 2, 3, 4, 5, 6, 7, 8, 9, 10, 11, 12, 13, 14, 15, 16], [0, 1, 2, 3, 4, 5, 6, 7, 8, 9, 10, 11, 12, 13, 14, 15, 16, 17], [0, 1, 2, 3, 4, 5, 6, 7, 8, 9, 10, 11, 12, 13, 14, 15, 16, 17, 18], [0, 1, 2, 3, 4, 5, 6, 7, 8, 9, 10, 11, 12, 13, 14], [0, 1, 2, 3, 4, 5, 6, 7, 8, 9, 10, 11, 12, 13, 14], [0, 1, 2, 3, 4, 5, 6, 7, 8, 9, 10, 11, 12, 13, 14, 21], [0, 1, 2, 3, 4, 5, 6, 7, 8, 9, 10, 11, 12, 13, 14, 20, 21, 22], [0, 1, 2, 3, 4, 5, 6, 7, 8, 9, 10, 11, 12, 13, 14, 20, 21, 22, 23], [0, 1, 2, 3, 4, 5, 6, 7, 8, 9, 10, 11, 12, 13, 14, 20, 21, 22, 23, 24], [0, 1, 2, 3, 4, 5, 6, 7, 8, 9, 10, 11, 12, 13, 14, 15, 16, 17, 18, 19, 20, 21, 22, 23, 24, 25], [0, 1, 2, 3, 4, 5, 6, 7, 8, 9, 10, 11, 12, 13, 14, 15, 16, 17, 18, 19, 20, 21, 22, 23, 24, 25, 26], [0, 1, 2, 3, 4, 5, 6, 7, 8, 9, 10, 11, 12, 13, 14, 15, 16, 17, 18, 19, 20, 21, 22, 23, 24, 25, 26, 27], [0, 1, 2, 3, 4, 5, 6, 7, 8, 9, 10, 11, 12, 13, 14, 15, 16, 17, 18, 19, 20, 21, 22, 23, 24, 25, 26, 27, 28]], [[], [], [0, 1], [2], [3], [], [], [5, 6], [7], [8], [4, 9], [10], [11], [11, 12], [11, 13], [14], [14], [14, 15, 16], [14, 17], [14, 18], [14], [14], [14, 21], [14, 20, 22], [14, 23], [14, 24], [14, 19, 25], [14, 26], [11, 14, 27], [11, 28]]⟩ (fun _ => []) (by kernel_rfl) (by kernel_rfl) (by (with_reducible (repeat' (first | assumption | apply jA | apply jB | apply jC | apply jD | apply jE | apply jF | apply hb3 | omega | (simp; done) | (simp; omega) | (dsimp only; omega))))) (fun u => by simp only [putD, Act.put, List.setIfInBounds_toArray, List.set_cons_zero, List.set_cons_succ, Nat.zero_add, Nat.reduceAdd]; rfl) ?_
        apply RGW.on (i := 0) rfl
        · (simp only [gA, gB, gC] <;> rfl)
        · intro γ u W hcur hd
          clear hd
          (try dsimp only)
          refine ⟨rfl, ?_⟩
          go_simp <;> (try go_bits) <;> with_reducible rfl
        · exact fun _ _ _ => rfl
        · rfl
        dsimp only [nA, cA]
        apply RGW.on (i := 1) rfl
        · (simp only [gA, gB, gC] <;> rfl)
        · intro γ u W hcur hd
          clear hd
          (try dsimp only)
          refine ⟨rfl, ?_⟩
          go_simp <;> (try go_bits) <;> with_reducible rfl
        · exact fun _ _ _ => rfl
        · rfl
        dsimp only [nA, cA]
        apply RGW.on (i := 2) rfl
        · (simp only [gA, gB, gC] <;> rfl)
        · intro γ u W hcur hd
          obtain ⟨⟨h0, -, -⟩, ⟨h1, -, -⟩, -⟩ := hd
          dsimp only at h0 h1
          (try simp only [h0, h1])
          refine ⟨rfl, ?_⟩
          go_simp <;> (try go_bits) <;> with_reducible rfl
        · exact fun _ _ _ => rfl
        · rfl
        dsimp only [nA, cA]
        apply RGW.on (i := 3) rfl
        · (simp only [gA, gB, gC] <;> rfl)
        · intro γ u W hcur hd
          obtain ⟨⟨h2, -, -⟩, -⟩ := hd
          dsimp only at h2
          (try simp only [h2])
          refine ⟨rfl, ?_⟩
          go_simp <;> (try go_bits) <;> with_reducible rfl
        · exact fun _ _ _ => rfl
        · rfl
        dsimp only [nA, cA]
        apply RGW.on (i := 4) rfl
        · (simp only [gA, gB, gC] <;> rfl)
        · intro γ u W hcur hd
          obtain ⟨⟨h3, -, -⟩, -⟩ := hd
          dsimp only at h3
          (try simp only [h3])
          refine ⟨rfl, ?_⟩
          go_simp <;> (try go_bits) <;> with_reducible rfl
        · exact fun _ _ _ => rfl
        · rfl
        dsimp only [nA, cA]
        apply RGW.on (i := 5) rfl
        · (simp only [gA, gB, gC] <;> rfl)
        · intro γ u W hcur hd
          clear hd
          (try dsimp only)
          refine ⟨rfl, ?_⟩
          go_simp <;> (try go_bits) <;> with_reducible rfl
        · exact fun _ _ _ => rfl
        · rfl
        dsimp only [nA, cA]
        apply RGW.on (i := 6) rfl
        · (simp only [gA, gB, gC] <;> rfl)
        · intro γ u W hcur hd
          clear hd
          (try dsimp only)
          refine ⟨rfl, ?_⟩
          go_simp <;> (try go_bits) <;> with_reducible rfl
        · exact fun _ _ _ => rfl
        · rfl
        dsimp only [nA, cA]
        apply RGW.on (i := 7) rfl
        · (simp only [gA, gB, gC] <;> rfl)
        · intro γ u W hcur hd
          obtain ⟨⟨h5, -, -⟩, ⟨h6, -, -⟩, -⟩ := hd
          dsimp only at h5 h6
          (try simp only [h5, h6])
          refine ⟨rfl, ?_⟩
          go_simp <;> (try go_bits) <;> with_reducible rfl
        · exact fun _ _ _ => rfl
        · rfl
        dsimp only [nA, cA]
        apply RGW.on (i := 8) rfl
        · (simp only [gA, gB, gC] <;> rfl)
        · intro γ u W hcur hd
          obtain ⟨⟨h7, -, -⟩, -⟩ := hd
          dsimp only at h7
          (try simp only [h7])
          refine ⟨rfl, ?_⟩
          go_simp <;> (try go_bits) <;> with_reducible rfl
        · exact fun _ _ _ => rfl
        · rfl
        dsimp only [nA, cA]
        apply RGW.on (i := 9) rfl
        · (simp only [gA, gB, gC] <;> rfl)
        · intro γ u W hcur hd
          obtain ⟨⟨h8, -, -⟩, -⟩ := hd
          dsimp only at h8
          (try simp only [h8])
          refine ⟨rfl, ?_⟩
          go_simp <;> (try go_bits) <;> with_reducible rfl
        · exact fun _ _ _ => rfl
        · rfl
        dsimp only [nA, cA]
        apply RGW.on (i := 10) rfl
        · (simp only [gA, gB, gC] <;> rfl)
        · intro γ u W hcur hd
          obtain ⟨⟨h4, -, -⟩, ⟨h9, -, -⟩, -⟩ := hd
          dsimp only at h4 h9
          (try simp only [h4, h9])
          refine ⟨rfl, ?_⟩
          go_simp <;> (try go_bits) <;> with_reducible rfl
        · exact fun _ _ _ => rfl
        · rfl
        dsimp only [nA, cA]
        apply RGW.on (i := 11) rfl
        · (simp only [gA, gB, gC] <;> rfl)
        · intro γ u W hcur hd
          obtain ⟨⟨h10, -, -⟩, -⟩ := hd
          dsimp only at h10
          (try simp only [h10])
          refine ⟨rfl, ?_⟩
          go_simp <;> (try go_bits) <;> with_reducible rfl
        · exact fun _ _ _ => rfl
        · rfl
        dsimp only [nA, cA]
        first
        | apply RGW.on (i := 12) rfl
          · (simp only [gA, gB, gC] <;> rfl)
          · intro γ u W hcur hd
            obtain ⟨⟨h11, -, -⟩, -⟩ := hd
            dsimp only at h11
            (try simp only [h11])
            refine ⟨?_, ?_⟩
            · (simp [Region.wanted, yielded, undef, *]; done)
            go_simp <;> (try go_bits) <;> with_reducible rfl
          · exact fun _ _ _ => rfl
          · rfl
        | apply RGW.off (i := 12) rfl
          · (simp only [gA, gB, gC] <;> rfl)
          · intro γ u W hcur hd
            obtain ⟨⟨h11, -, -⟩, -⟩ := hd
            dsimp only at h11
            (try simp only [h11])
            simp [Region.wanted, yielded, undef, *]
          · rfl
        dsimp only [nA, cA]
        first
        | apply RGW.on (i := 13) rfl
          · (simp only [gA, gB, gC] <;> rfl)
          · intro γ u W hcur hd
            obtain ⟨⟨h11, -, -⟩, ⟨h12, -, -⟩, -⟩ := hd
            dsimp only at h11 h12
            (try simp only [h11, h12])
            refine ⟨?_, ?_⟩
            · (simp [Region.wanted, yielded, undef, *]; done)
            go_simp <;> (try go_bits) <;> with_reducible rfl
          · exact fun _ _ _ => rfl
          · rfl
        | apply RGW.off (i := 13) rfl
          · (simp only [gA, gB, gC] <;> rfl)
          · intro γ u W hcur hd
            obtain ⟨⟨h11, -, -⟩, ⟨h12, -, -⟩, -⟩ := hd
            dsimp only at h11 h12
            (try simp only [h11, h12])
            simp [Region.wanted, yielded, undef, *]
          · rfl
        dsimp only [nA, cA]
        first
        | apply RGW.on (i := 14) rfl
          · (simp only [gA, gB, gC] <;> rfl)
          · intro γ u W hcur hd
            obtain ⟨⟨h11, -, -⟩, ⟨h13, -, -⟩, -⟩ := hd
            dsimp only at h11 h13
            (try simp only [h11, h13])
            refine ⟨?_, ?_⟩
            · (simp [Region.wanted, yielded, undef, *]; done)
            go_simp <;> (try go_bits) <;> with_reducible rfl
          · exact fun _ _ _ => rfl
          · rfl
        | apply RGW.off (i := 14) rfl
          · (simp only [gA, gB, gC] <;> rfl)
          · intro γ u W hcur hd
            obtain ⟨⟨h11, -, -⟩, ⟨h13, -, -⟩, -⟩ := hd
            dsimp only at h11 h13
            (try simp only [h11, h13])
            simp [Region.wanted, yielded, undef, *]
          · rfl
        dsimp only [nA, cA]
        first
        | apply RGW.on (i := 15) rfl
          · (simp only [gA, gB, gC] <;> rfl)
          · intro γ u W hcur hd
            obtain ⟨⟨h14, -, -⟩, -⟩ := hd
            dsimp only at h14
            (try simp only [h14])
            refine ⟨?_, ?_⟩
            · (simp [Region.wanted, yielded, undef, *]; done)
            go_simp <;> (try go_bits) <;> with_reducible rfl
          · exact fun _ _ _ => rfl
          · rfl
        | apply RGW.off (i := 15) rfl
          · (simp only [gA, gB, gC] <;> rfl)
          · intro γ u W hcur hd
            obtain ⟨⟨h14, -, -⟩, -⟩ := hd
            dsimp only at h14
            (try simp only [h14])
            simp [Region.wanted, yielded, undef, *]
          · rfl
        dsimp only [nA, cA]
        first
        | apply RGW.on (i := 16) rfl
          · (simp only [gA, gB, gC] <;> rfl)
          · intro γ u W hcur hd
            obtain ⟨⟨h14, -, -⟩, -⟩ := hd
            dsimp only at h14
            (try simp only [h14])
            refine ⟨?_, ?_⟩
            · (simp [Region.wanted, yielded, undef, *]; done)
            go_simp <;> (try go_bits) <;> with_reducible rfl
          · exact fun _ _ _ => rfl
          · rfl
        | apply RGW.off (i := 16) rfl
          · (simp only [gA, gB, gC] <;> rfl)
          · intro γ u W hcur hd
            obtain ⟨⟨h14, -, -⟩, -⟩ := hd
            dsimp only at h14
            (try simp only [h14])
            simp [Region.wanted, yielded, undef, *]
          · rfl
        dsimp only [nA, cA]
        first
        | apply RGW.on (i := 17) rfl
          · (simp only [gA, gB, gC] <;> rfl)
          · intro γ u W hcur hd
            obtain ⟨⟨h14, -, -⟩, ⟨h15, -, -⟩, ⟨h16, -, -⟩, -⟩ := hd
            dsimp only at h14 h15 h16
            (try simp only [h14, h15, h16])
            refine ⟨?_, ?_⟩
            · (simp [Region.wanted, yielded, undef, *]; done)
            go_simp <;> (try go_bits) <;> with_reducible rfl
          · exact fun _ _ _ => rfl
          · rfl
        | apply RGW.off (i := 17) rfl
          · (simp only [gA, gB, gC] <;> rfl)
          · intro γ u W hcur hd
            obtain ⟨⟨h14, -, -⟩, ⟨h15, -, -⟩, ⟨h16, -, -⟩, -⟩ := hd
            dsimp only at h14 h15 h16
            (try simp only [h14, h15, h16])
            simp [Region.wanted, yielded, undef, *]
          · rfl
        dsimp only [nA, cA]
        first
        | apply RGW.on (i := 18) rfl
          · (simp only [gA, gB, gC] <;> rfl)
          · intro γ u W hcur hd
            obtain ⟨⟨h14, -, -⟩, ⟨h17, -, -⟩, -⟩ := hd
            dsimp only at h14 h17
            (try simp only [h14, h17])
            refine ⟨?_, ?_⟩
            · (simp [Region.wanted, yielded, undef, *]; done)
            go_simp <;> (try go_bits) <;> with_reducible rfl
          · exact fun _ _ _ => rfl
          · rfl
        | apply RGW.off (i := 18) rfl
          · (simp only [gA, gB, gC] <;> rfl)
          · intro γ u W hcur hd
            obtain ⟨⟨h14, -, -⟩, ⟨h17, -, -⟩, -⟩ := hd
            dsimp only at h14 h17
            (try simp only [h14, h17])
            simp [Region.wanted, yielded, undef, *]
          · rfl
        dsimp only [nA, cA]
        first
        | apply RGW.on (i := 19) rfl
          · (simp only [gA, gB, gC] <;> rfl)
          · intro γ u W hcur hd
            obtain ⟨⟨h14, -, -⟩, ⟨h18, -, -⟩, -⟩ := hd
            dsimp only at h14 h18
            (try simp only [h14, h18])
            refine ⟨?_, ?_⟩
            · (simp [Region.wanted, yielded, undef, *]; done)
            go_simp <;> (try go_bits) <;> with_reducible rfl
          · exact fun _ _ _ => rfl
          · rfl
        | apply RGW.off (i := 19) rfl
          · (simp only [gA, gB, gC] <;> rfl)
          · intro γ u W hcur hd
            obtain ⟨⟨h14, -, -⟩, ⟨h18, -, -⟩, -⟩ := hd
            dsimp only at h14 h18
            (try simp only [h14, h18])
            simp [Region.wanted, yielded, undef, *]
          · rfl
        dsimp only [nA, cA]
        first
        | apply RGW.on (i := 20) rfl
          · (simp only [gA, gB, gC] <;> rfl)
          · intro γ u W hcur hd
            obtain ⟨⟨h14, -, -⟩, -⟩ := hd
            dsimp only at h14
            (try simp only [h14])
            refine ⟨?_, ?_⟩
            · (simp [Region.wanted, yielded, undef, *]; done)
            go_simp <;> (try go_bits) <;> with_reducible rfl
          · exact fun _ _ _ => rfl
          · rfl
        | apply RGW.off (i := 20) rfl
          · (simp only [gA, gB, gC] <;> rfl)
          · intro γ u W hcur hd
            obtain ⟨⟨h14, -, -⟩, -⟩ := hd
            dsimp only at h14
            (try simp only [h14])
            simp [Region.wanted, yielded, undef, *]
          · rfl
        dsimp only [nA, cA]
        first
        | apply RGW.on (i := 21) rfl
          · (simp only [gA, gB, gC] <;> rfl)
          · intro γ u W hcur hd
            obtain ⟨⟨h14, -, -⟩, -⟩ := hd
            dsimp only at h14
            (try simp only [h14])
            refine ⟨?_, ?_⟩
            · (simp [Region.wanted, yielded, undef, *]; done)
            go_simp <;> (try go_bits) <;> with_reducible rfl
          · exact fun _ _ _ => rfl
          · rfl
        | apply RGW.off (i := 21) rfl
          · (simp only [gA, gB, gC] <;> rfl)
          · intro γ u W hcur hd
            obtain ⟨⟨h14, -, -⟩, -⟩ := hd
            dsimp only at h14
            (try simp only [h14])
            simp [Region.wanted, yielded, undef, *]
          · rfl
        dsimp only [nA, cA]
        first
        | apply RGW.on (i := 22) rfl
          · (simp only [gA, gB, gC] <;> rfl)
          · intro γ u W hcur hd
            obtain ⟨⟨h14, -, -⟩, ⟨h21, -, -⟩, -⟩ := hd
            dsimp only at h14 h21
            (try simp only [h14, h21])
            refine ⟨?_, ?_⟩
            · (simp [Region.wanted, yielded, undef, *]; done)
            go_simp <;> (try go_bits) <;> with_reducible rfl
          · exact fun _ _ _ => rfl
          · rfl
        | apply RGW.off (i := 22) rfl
          · (simp only [gA, gB, gC] <;> rfl)
          · intro γ u W hcur hd
            obtain ⟨⟨h14, -, -⟩, ⟨h21, -, -⟩, -⟩ := hd
            dsimp only at h14 h21
            (try simp only [h14, h21])
            simp [Region.wanted, yielded, undef, *]
          · rfl
        dsimp only [nA, cA]
        first
        | apply RGW.on (i := 23) rfl
          · (simp only [gA, gB, gC] <;> rfl)
          · intro γ u W hcur hd
            obtain ⟨⟨h14, -, -⟩, ⟨h20, -, -⟩, ⟨h22, -, -⟩, -⟩ := hd
            dsimp only at h14 h20 h22
            (try simp only [h14, h20, h22])
            refine ⟨?_, ?_⟩
            · (simp [Region.wanted, yielded, undef, *]; done)
            go_simp <;> (try go_bits) <;> with_reducible rfl
          · exact fun _ _ _ => rfl
          · rfl
        | apply RGW.off (i := 23) rfl
          · (simp only [gA, gB, gC] <;> rfl)
          · intro γ u W hcur hd
            obtain ⟨⟨h14, -, -⟩, ⟨h20, -, -⟩, ⟨h22, -, -⟩, -⟩ := hd
            dsimp only at h14 h20 h22
            (try simp only [h14, h20, h22])
            simp [Region.wanted, yielded, undef, *]
          · rfl
        dsimp only [nA, cA]
        first
        | apply RGW.on (i := 24) rfl
          · (simp only [gA, gB, gC] <;> rfl)
          · intro γ u W hcur hd
            obtain ⟨⟨h14, -, -⟩, ⟨h23, -, -⟩, -⟩ := hd
            dsimp only at h14 h23
            (try simp only [h14, h23])
            refine ⟨?_, ?_⟩
            · (simp [Region.wanted, yielded, undef, *]; done)
            go_simp <;> (try go_bits) <;> with_reducible rfl
          · exact fun _ _ _ => rfl
          · rfl
        | apply RGW.off (i := 24) rfl
          · (simp only [gA, gB, gC] <;> rfl)
          · intro γ u W hcur hd
            obtain ⟨⟨h14, -, -⟩, ⟨h23, -, -⟩, -⟩ := hd
            dsimp only at h14 h23
            (try simp only [h14, h23])
            simp [Region.wanted, yielded, undef, *]
          · rfl
        dsimp only [nA, cA]
        first
        | apply RGW.on (i := 25) rfl
          · (simp only [gA, gB, gC] <;> rfl)
          · intro γ u W hcur hd
            obtain ⟨⟨h14, -, -⟩, ⟨h24, -, -⟩, -⟩ := hd
            dsimp only at h14 h24
            (try simp only [h14, h24])
            refine ⟨?_, ?_⟩
            · (simp [Region.wanted, yielded, undef, *]; done)
            go_simp <;> (try go_bits) <;> with_reducible rfl
          · exact fun _ _ _ => rfl
          · rfl
        | apply RGW.off (i := 25) rfl
          · (simp only [gA, gB, gC] <;> rfl)
          · intro γ u W hcur hd
            obtain ⟨⟨h14, -, -⟩, ⟨h24, -, -⟩, -⟩ := hd
            dsimp only at h14 h24
            (try simp only [h14, h24])
            simp [Region.wanted, yielded, undef, *]
          · rfl
        dsimp only [nA, cA]
        first
        | apply RGW.on (i := 26) rfl
          · (simp only [gA, gB, gC] <;> rfl)
          · intro γ u W hcur hd
            obtain ⟨⟨h14, -, -⟩, ⟨h19, -, -⟩, ⟨h25, -, -⟩, -⟩ := hd
            dsimp only at h14 h19 h25
            (try simp only [h14, h19, h25])
            refine ⟨?_, ?_⟩
            · (simp [Region.wanted, yielded, undef, *]; done)
            go_simp <;> (try go_bits) <;> with_reducible rfl
          · exact fun _ _ _ => rfl
          · rfl
        | apply RGW.off (i := 26) rfl
          · (simp only [gA, gB, gC] <;> rfl)
          · intro γ u W hcur hd
            obtain ⟨⟨h14, -, -⟩, ⟨h19, -, -⟩, ⟨h25, -, -⟩, -⟩ := hd
            dsimp only at h14 h19 h25
            (try simp only [h14, h19, h25])
            simp [Region.wanted, yielded, undef, *]
          · rfl
        dsimp only [nA, cA]
        first
        | apply RGW.on (i := 27) rfl
          · (simp only [gA, gB, gC] <;> rfl)
          · intro γ u W hcur hd
            obtain ⟨⟨h14, -, -⟩, ⟨h26, -, -⟩, -⟩ := hd
            dsimp only at h14 h26
            (try simp only [h14, h26])
            refine ⟨?_, ?_⟩
            · (simp [Region.wanted, yielded, undef, *]; done)
            go_simp <;> (try go_bits) <;> with_reducible rfl
          · exact fun _ _ _ => rfl
          · rfl
        | apply RGW.off (i := 27) rfl
          · (simp only [gA, gB, gC] <;> rfl)
          · intro γ u W hcur hd
            obtain ⟨⟨h14, -, -⟩, ⟨h26, -, -⟩, -⟩ := hd
            dsimp only at h14 h26
            (try simp only [h14, h26])
            simp [Region.wanted, yielded, undef, *]
          · rfl
        dsimp only [nA, cA]
        first
        | apply RGW.on (i := 28) rfl
          · (simp only [gA, gB, gC] <;> rfl)
          · intro γ u W hcur hd
            obtain ⟨⟨h11, -, -⟩, ⟨h14, -, -⟩, ⟨h27, -, -⟩, -⟩ := hd
            dsimp only at h11 h14 h27
            (try simp only [h11, h14, h27])
            refine ⟨?_, ?_⟩
            · (simp [Region.wanted, yielded, undef, *]; done)
            go_simp <;> (try go_bits) <;> with_reducible rfl
          · exact fun _ _ _ => rfl
          · rfl
        | apply RGW.off (i := 28) rfl
          · (simp only [gA, gB, gC] <;> rfl)
          · intro γ u W hcur hd
            obtain ⟨⟨h11, -, -⟩, ⟨h14, -, -⟩, ⟨h27, -, -⟩, -⟩ := hd
            dsimp only at h11 h14 h27
            (try simp only [h11, h14, h27])
            simp [Region.wanted, yielded, undef, *]
          · rfl
        dsimp only [nA, cA]
        apply RGW.on (i := 29) rfl
        · (simp only [gA, gB, gC] <;> rfl)
        · intro γ u W hcur hd
          obtain ⟨⟨h11, -, -⟩, ⟨h28, -, -⟩, -⟩ := hd
          dsimp only at h11 h28
          (try simp only [h11, h28])
          refine ⟨rfl, ?_⟩
          go_simp <;> (try go_bits) <;> with_reducible rfl
        · exact fun _ _ _ => rfl
        · rfl
        dsimp only [nA, cA]
        refine RGW.fin (fun γ u wj hwj hd hdis => ?_)
        obtain ⟨⟨h0, -, -⟩, ⟨h1, -, -⟩, ⟨h2, -, -⟩, ⟨h3, -, -⟩, ⟨h4, -, -⟩, ⟨h5, -, -⟩, ⟨h6, -, -⟩, ⟨h7, -, -⟩, ⟨h8, -, -⟩, ⟨h9, -, -⟩, ⟨h10, -, -⟩, ⟨h11, -, -⟩, ⟨h12, -, -⟩, ⟨h13, -, -⟩, ⟨h14, -, -⟩, ⟨h15, -, -⟩, ⟨h16, -, -⟩, ⟨h17, -, -⟩, ⟨h18, -, -⟩, ⟨h19, -, -⟩, ⟨h20, -, -⟩, ⟨h21, -, -⟩, ⟨h22, -, -⟩, ⟨h23, -, -⟩, ⟨h24, -, -⟩, ⟨h25, -, -⟩, ⟨h26, -, -⟩, ⟨h27, -, -⟩, ⟨h28, -, -⟩, ⟨h29, -, -⟩, -⟩ := hd
        dsimp only at h0 h1 h2 h3 h4 h5 h6 h7 h8 h9 h10 h11 h12 h13 h14 h15 h16 h17 h18 h19 h20 h21 h22 h23 h24 h25 h26 h27 h28 h29
        clear hdis
        simp only [h0, h1, h2, h3, h4, h5, h6, h7, h8, h9, h10, h11, h12, h13, h14, h15, h16, h17, h18, h19, h20, h21, h22, h23, h24, h25, h26, h27, h28, h29]
        clear h29 h28 h27 h26 h25 h24 h23 h22 h21 h20 h19 h18 h17 h16 h15 h14 h13 h12 h11 h10 h9 h8 h7 h6 h5 h4 h3 h2 h1 h0
        clear u
        simp only [List.map_nil]
        refine PlanW.done ?_
        have hb3 := bl_tt hwj
        have hbj := bl_tr hb2 hwj
        go_wp2
        go_roundw
        case rel => exact ⟨j + 2, by omega, by go_num, hbj, k0.below hwj, k1.below hwj, hR5.out.below hwj⟩
        case measure => simp [intOf] <;> omega
    · have hR5 := Lib.hid r5
      clear r5
      have hkm' : m = k := by omega
      subst hkm'
      have L1 := k1.cell
      cases hW : inR t1 0 1000
      · go_wp2_with (go_at_call 21; (with_reducible refine (hW ▸ r_Within t1 0 1000 _).mono ?_); rintro e w3 ⟨rfl, rfl⟩)
        go_ret
        exact ⟨rfl, hb2⟩
      have hw1 := inR_iff.1 hW
      obtain ⟨hw0, hw1⟩ := hw1
      by_cases hM : t0 + t1 ≤ 1000000000000
      rotate_left
      · have hM' : ¬ t0 + t1 ≤ 1000000000000 := hM
        have hM2 : 1000000000000 < t0 + t1 := by omega
        clear hM hM'
        go_wp2_with (go_at_call 21; (with_reducible refine (hW ▸ r_Within t1 0 1000 _).mono ?_); rintro e w3 ⟨rfl, rfl⟩)
        go_ret
        exact ⟨rfl, hb2⟩
      have hM3 : ¬ 1000000000000 < t0 + t1 := by omega
      have hp5 := hp4'.out hw0 hM
      obtain ⟨hE1, hp6⟩ := hp5
      replace hp6 := Lib.hid hp6
      go_upto_region 18 with (go_at_call 21; (with_reducible refine (hW ▸ r_Within t1 0 1000 _).mono ?_); rintro e w3 ⟨rfl, rfl⟩)
      clear L1 hM3
      have Lk0 := k0.later
      have Fk0 := k0.laterF
      have Qk0 := k0.lt
      have Lk1 := k1.later
      have Fk1 := k1.laterF
      have Qk1 := k1.lt
      refine wp_any (w0 := wr) ⟨[], [], [some 106, some 107, some 108, some 109, some 110, some 111, some 112, some 113, some 114, some 105, some 115, some 116, some 11, some 12], [[], [0], [], [], [3], [], [5], [3, 4, 5, 6], [0, 1, 2, 3, 4, 5, 6, 7], [0, 1, 2, 3, 4, 5, 6, 7, 8], [0, 1, 2, 3, 4, 5, 6, 7, 8, 9], [0, 1, 2, 3, 4, 5, 6, 7, 8, 9], [0, 1, 2, 3, 4, 5, 6, 7, 8, 9, 10], [0, 1, 2, 3, 4, 5, 6, 7, 8, 9, 10, 11, 12]], [[], [0], [], [], [3], [], [5], [4, 6], [1, 2, 7], [1, 8], [1, 8, 9], [1, 8, 9], [1, 8, 10], [1, 8, 11]]⟩ (fun _ => []) (by kernel_rfl) (by kernel_rfl) (by (with_reducible (repeat' (first | assumption | apply jA | apply jB | apply jC | apply jD | apply jE | apply jF | apply hb3 | omega | (simp; done) | (simp; omega) | (dsimp only; omega))))) (fun u => by simp only [putD, Act.put, List.setIfInBounds_toArray, List.set_cons_zero, List.set_cons_succ, Nat.zero_add, Nat.reduceAdd]; rfl) ?_
      apply RGW.on (i := 0) rfl
      · (simp only [gA, gB, gC] <;> rfl)
      · intro γ u W hcur hd
        clear hd
        (try dsimp only)
        refine ⟨rfl, ?_⟩
        go_simp <;> (try go_bits) <;> with_reducible rfl
      · exact fun _ _ _ => rfl
      · rfl
      dsimp only [nA, cA]
      apply RGW.gh (⟨fun γ => .slice (γ 1).A l.length (γ 1).c, fun γ W => Sl cI 1 W (γ 1).A l, fun _ => []⟩) (i := 1) rfl
      · (simp only [gA, gB, gC] <;> rfl)
      · intro γ u W hcur hd
        obtain ⟨⟨h0, -, -⟩, -⟩ := hd
        dsimp only at h0
        (try simp only [h0])
        refine ⟨rfl, fun K hK => ?_⟩
        go_simp
        first
        | (go_at_call 17; (with_reducible refine (hcp.out _ (bl_tr hb2 hcur)).mono ?_); rintro e w3 ⟨Ax, cx, rfl, hb3, hox⟩; dsimp only; exact hK.out ⟨0, undef, Ax, cx⟩ _ _ (by simp [up]) hb3 (by simpa [up] using own_sl hox) (by simp))
        | (go_at_call 16; (with_reducible refine (hs1'.out _ _ _ r1).mono ?_); rintro e w3 ⟨Ax, cx, rfl, hb3, hox⟩; dsimp only; exact hK.out ⟨0, undef, Ax, cx⟩ _ _ (by simp [up]) hb3 (by simpa [up] using own_slC (cs := cRg) (fun _ => rfl) (by decide) hox) (by simp))
      · first
        | exact fun _ _ _ => rfl
        | intro γ γ' hg
          try dsimp only
          have e1 := hg 1 (by decide)
          simp only [e1]
          try exact ⟨trivial, fun _ h => h⟩
      · intro γ W W' hbl hR
        first | exact hR.below hbl | exact own_below hR hbl | exact trivial | exact ⟨hR.1.below hbl, hR.2⟩
      · rfl
      dsimp only [nA, cA]
      apply RGW.on (i := 2) rfl
      · (simp only [gA, gB, gC] <;> rfl)
      · intro γ u W hcur hd
        clear hd
        (try dsimp only)
        refine ⟨rfl, ?_⟩
        go_simp <;> (try go_bits) <;> with_reducible rfl
      · exact fun _ _ _ => rfl
      · rfl
      dsimp only [nA, cA]
      apply RGW.on (i := 3) rfl
      · (simp only [gA, gB, gC] <;> rfl)
      · intro γ u W hcur hd
        clear hd
        (try dsimp only)
        refine ⟨rfl, ?_⟩
        go_simp <;> (try go_bits) <;> with_reducible rfl
      · exact fun _ _ _ => rfl
      · rfl
      dsimp only [nA, cA]
      apply RGW.on (i := 4) rfl
      · (simp only [gA, gB, gC] <;> rfl)
      · intro γ u W hcur hd
        obtain ⟨⟨h3, -, -⟩, -⟩ := hd
        dsimp only at h3
        (try simp only [h3])
        refine ⟨rfl, ?_⟩
        go_simp <;> (try go_bits) <;> with_reducible rfl
      · exact fun _ _ _ => rfl
      · rfl
      dsimp only [nA, cA]
      apply RGW.on (i := 5) rfl
      · (simp only [gA, gB, gC] <;> rfl)
      · intro γ u W hcur hd
        clear hd
        (try dsimp only)
        refine ⟨rfl, ?_⟩
        go_simp <;> (try go_bits) <;> with_reducible rfl
      · exact fun _ _ _ => rfl
      · rfl
      dsimp only [nA, cA]
      apply RGW.on (i := 6) rfl
      · (simp only [gA, gB, gC] <;> rfl)
      · intro γ u W hcur hd
        obtain ⟨⟨h5, -, -⟩, -⟩ := hd
        dsimp only at h5
        (try simp only [h5])
        refine ⟨rfl, ?_⟩
        go_simp <;> (try go_bits) <;> with_reducible rfl
      · exact fun _ _ _ => rfl
      · rfl
      dsimp only [nA, cA]
      apply RGW.on (i := 7) rfl
      · (simp only [gA, gB, gC] <;> rfl)
      · intro γ u W hcur hd
        obtain ⟨⟨h4, -, -⟩, ⟨h6, -, -⟩, -⟩ := hd
        dsimp only at h4 h6
        (try simp only [h4, h6])
        refine ⟨rfl, ?_⟩
        go_simp <;> (try go_bits) <;> with_reducible rfl
      · exact fun _ _ _ => rfl
      · rfl
      dsimp only [nA, cA]
      apply RGW.gh (⟨fun γ => .tuple #[.slice (γ 8).A R1.length (γ 8).c, .int .i64 E1], fun γ W => Sl cRg 2 W (γ 8).A R1, fun _ => []⟩) (i := 8) rfl
      · (simp only [gA, gB, gC] <;> rfl)
      · intro γ u W hcur hd
        obtain ⟨⟨h1, r1, -⟩, ⟨h2, -, -⟩, ⟨h7, -, -⟩, -⟩ := hd
        dsimp only at h1 h2 h7 r1
        (try simp only [h1, h2, h7])
        refine ⟨rfl, fun K hK => ?_⟩
        go_simp
        first
        | (go_at_call 17; (with_reducible refine (hcp.out _ (bl_tr hb2 hcur)).mono ?_); rintro e w3 ⟨Ax, cx, rfl, hb3, hox⟩; dsimp only; exact hK.out ⟨0, undef, Ax, cx⟩ _ _ (by simp [up]) hb3 (by simpa [up] using own_sl hox) (by simp))
        | (go_at_call 16; (with_reducible refine (hs1'.out _ _ _ r1).mono ?_); rintro e w3 ⟨Ax, cx, rfl, hb3, hox⟩; dsimp only; exact hK.out ⟨0, undef, Ax, cx⟩ _ _ (by simp [up]) hb3 (by simpa [up] using own_slC (cs := cRg) (fun _ => rfl) (by decide) hox) (by simp))
      · first
        | exact fun _ _ _ => rfl
        | intro γ γ' hg
          try dsimp only
          have e1 := hg 1 (by decide)
          have e8 := hg 8 (by decide)
          simp only [e1, e8]
          try exact ⟨trivial, fun _ h => h⟩
      · intro γ W W' hbl hR
        first | exact hR.below hbl | exact own_below hR hbl | exact trivial | exact ⟨hR.1.below hbl, hR.2⟩
      · rfl
      dsimp only [nA, cA]
      apply RGW.on (i := 9) rfl
      · (simp only [gA, gB, gC] <;> rfl)
      · intro γ u W hcur hd
        obtain ⟨⟨h1, r1, -⟩, ⟨h8, r8, -⟩, -⟩ := hd
        dsimp only at h1 h8 r1 r8
        (try simp only [h1, h8])
        refine ⟨rfl, ?_⟩
        go_simp <;> (try go_bits) <;> with_reducible rfl
      · first
        | exact fun _ _ _ => rfl
        | intro γ γ' hg
          try dsimp only
          have e1 := hg 1 (by decide)
          have e8 := hg 8 (by decide)
          simp only [e1, e8]
      · rfl
      dsimp only [nA, cA]
      apply RGW.on (i := 10) rfl
      · (simp only [gA, gB, gC] <;> rfl)
      · intro γ u W hcur hd
        obtain ⟨⟨h1, r1, -⟩, ⟨h8, r8, -⟩, ⟨h9, -, -⟩, -⟩ := hd
        dsimp only at h1 h8 h9 r1 r8
        (try simp only [h1, h8, h9])
        refine ⟨rfl, ?_⟩
        go_simp <;> (try go_bits) <;> with_reducible rfl
      · first
        | exact fun _ _ _ => rfl
        | intro γ γ' hg
          try dsimp only
          have e1 := hg 1 (by decide)
          have e8 := hg 8 (by decide)
          simp only [e1, e8]
      · rfl
      dsimp only [nA, cA]
      apply RGW.on (i := 11) rfl
      · (simp only [gA, gB, gC] <;> rfl)
      · intro γ u W hcur hd
        obtain ⟨⟨h1, r1, -⟩, ⟨h8, r8, -⟩, ⟨h9, -, -⟩, -⟩ := hd
        dsimp only at h1 h8 h9 r1 r8
        (try simp only [h1, h8, h9])
        refine ⟨rfl, ?_⟩
        go_simp <;> (try go_bits) <;> with_reducible rfl
      · first
        | exact fun _ _ _ => rfl
        | intro γ γ' hg
          try dsimp only
          have e1 := hg 1 (by decide)
          have e8 := hg 8 (by decide)
          simp only [e1, e8]
      · rfl
      dsimp only [nA, cA]
      apply RGW.on (i := 12) rfl
      · (simp only [gA, gB, gC] <;> rfl)
      · intro γ u W hcur hd
        obtain ⟨⟨h1, r1, -⟩, ⟨h8, r8, -⟩, ⟨h10, -, -⟩, -⟩ := hd
        dsimp only at h1 h8 h10 r1 r8
        (try simp only [h1, h8, h10])
        refine ⟨rfl, ?_⟩
        go_simp <;> (try go_bits) <;> with_reducible rfl
      · first
        | exact fun _ _ _ => rfl
        | intro γ γ' hg
          try dsimp only
          have e1 := hg 1 (by decide)
          have e8 := hg 8 (by decide)
          simp only [e1, e8]
      · rfl
      dsimp only [nA, cA]
      apply RGW.on (i := 13) rfl
      · (simp only [gA, gB, gC] <;> rfl)
      · intro γ u W hcur hd
        obtain ⟨⟨h1, r1, -⟩, ⟨h8, r8, -⟩, ⟨h11, -, -⟩, -⟩ := hd
        dsimp only at h1 h8 h11 r1 r8
        (try simp only [h1, h8, h11])
        refine ⟨rfl, ?_⟩
        go_simp <;> (try go_bits) <;> with_reducible rfl
      · first
        | exact fun _ _ _ => rfl
        | intro γ γ' hg
          try dsimp only
          have e1 := hg 1 (by decide)
          have e8 := hg 8 (by decide)
          simp only [e1, e8]
      · rfl
      dsimp only [nA, cA]
      refine RGW.fin (fun γ u wz hwz hd hdis => ?_)
      obtain ⟨⟨h0, -, -⟩, ⟨h1, r1, b1⟩, ⟨h2, -, -⟩, ⟨h3, -, -⟩, ⟨h4, -, -⟩, ⟨h5, -, -⟩, ⟨h6, -, -⟩, ⟨h7, -, -⟩, ⟨h8, r8, b8⟩, ⟨h9, -, -⟩, ⟨h10, -, -⟩, ⟨h11, -, -⟩, ⟨h12, -, -⟩, ⟨h13, -, -⟩, -⟩ := hd
      dsimp only at h0 h1 h2 h3 h4 h5 h6 h7 h8 h9 h10 h11 h12 h13 r1 r8 b1 b8
      clear hdis
      simp only [h0, h1, h2, h3, h4, h5, h6, h7, h8, h9, h10, h11, h12, h13]
      clear h13 h12 h11 h10 h9 h8 h7 h6 h5 h4 h3 h2 h1 h0
      clear u
      simp only [List.map_nil]
      refine PlanW.done ?_
      have hb3 := bl_tt hwz
      have hb4 := bl_tr hb2 hwz
      have hR6 := Lib.hid (hR5.out.below hwz)
      replace r8 := Lib.hid r8
      subst hE1
      generalize (γ 8).A = A1 at *
      generalize (γ 8).c = c1 at *
      clear hb2 hb3 r1 b1 b8 hcp hs1' k0 k1 Lk0 Lk1 Fk0 Fk1 Qk0 Qk1 hR5
      have hl1' := hl1.out
      obtain ⟨q, Hq⟩ : ∃ q, Hid (R1.length = q) := ⟨_, rfl⟩
      rw [Hq.out] at hl1'
      simp only [Hq.out]
      go_wp2
      go_loopw [13] (fun i wr => ∃ j : Nat, j ≤ q ∧ i = .int .i64 j ∧ Below w.heap.size w wr ∧ Sl cRg 2 wr A0 R0 ∧ Sl cRg 2 wr A1 R1) (fun i _ => q - (intOf i).toNat)
      case atStart => exact ⟨0, Nat.zero_le _, rfl, hb4, hR6.out, r8.out⟩
      case round =>
        clear hb4 hR6 r8
        obtain ⟨j, hj, rfl, hb4, hR6, r8⟩ := hrel
        replace hR6 := Lib.hid hR6
        replace r8 := Lib.hid r8
        by_cases hjq : j < q
        · have hx : R1[j]? = some (R1[j]'(by rw [Hq.out]; exact hjq)) := List.getElem?_eq_getElem _
          generalize R1[j]'(by rw [Hq.out]; exact hjq) = x at hx
          have hfin := hp6.out x (List.mem_of_getElem? hx)
          obtain ⟨g, hg⟩ : ∃ g : Nat → Bool, ∀ k, (R0.take k).any (fun r => decide (r.lo ≤ x.lo) && decide (x.hi ≤ r.hi)) = g k := ⟨_, fun _ => rfl⟩
          have hg0 : Hid (g 0 = false) := Lib.hid (by rw [← hg]; rfl)
          have hgm : Hid (g m = true) := Lib.hid (by rw [← hg, List.take_of_length_le (by rw [Hm.out]; exact Nat.le_refl _)]; exact hfin)
          have hgs : Hid (∀ k y, R0[k]? = some y → g (k + 1) = (g k || (decide (y.lo ≤ x.lo) && decide (x.hi ≤ y.hi)))) := Lib.hid (fun k y hy => by rw [← hg, ← hg, List.take_add_one, hy]; simp [List.any_append])
          clear hfin hg
          replace hx := Lib.hid hx
          go_wp2
          go_loopw [14, 15] (fun b i wi => ∃ k : Nat, k ≤ m ∧ i = .int .i64 k ∧ b = .bool (g k) ∧ Below w.heap.size w wi ∧ Sl cRg 2 wi A0 R0 ∧ Sl cRg 2 wi A1 R1) (fun _ i _ => m - (intOf i).toNat)
          case atStart => exact ⟨0, Nat.zero_le _, rfl, by rw [hg0.out], hb4, hR6.out, r8.out⟩
          case round =>
            clear hb4 hR6 r8
            obtain ⟨k, hk, rfl, rfl, hb4, hR6, r8⟩ := hrel
            replace hR6 := Lib.hid hR6
            replace r8 := Lib.hid r8
            by_cases hkm : k < m
            · have hy : R0[k]? = some (R0[k]'(by rw [Hm.out]; exact hkm)) := List.getElem?_eq_getElem _
              generalize R0[k]'(by rw [Hm.out]; exact hkm) = y at hy
              have hst := Lib.hid (hgs.out k y hy)
              obtain ⟨ba, oa, eA, hca⟩ := hR6.out k y hy
              obtain ⟨bb, ob, eB, hcb⟩ := r8.out j x hx.out
              have c0 : ∀ W, Below wr.heap.size wr W → W.cell? ⟨ba, oa + k * 2, none⟩ = some (.int .i64 y.lo) := later (hca 0 _ rfl)
              have c1 : ∀ W, Below wr.heap.size wr W → W.cell? ⟨ba, oa + k * 2 + 1, none⟩ = some (.int .i64 y.hi) := later (hca 1 _ rfl)
              have c2 : ∀ W, Below wr.heap.size wr W → W.cell? ⟨bb, ob + j * 2, none⟩ = some (.int .i64 x.lo) := later (hcb 0 _ rfl)
              have c3 : ∀ W, Below wr.heap.size wr W → W.cell? ⟨bb, ob + j * 2 + 1, none⟩ = some (.int .i64 x.hi) := later (hcb 1 _ rfl)
              clear hca hcb hy
              subst eA eB
              have hjm : (k : Int) < m := by omega
              have hjq' : (j : Int) < q := by omega
              go_upto_region 28 with fail
              generalize hgk : g k = gk at *
              replace hgk := Lib.hid hgk
              cases gk
              · by_cases h1 : y.lo ≤ x.lo
                · by_cases h2 : x.hi ≤ y.hi
                  · have hn := Lib.hid (show g (k + 1) = true by rw [hst.out]; simp [h1, h2])
                    refine wp_any (w0 := wr) ⟨[27], [], [some 131, some 132, some 133, some 134, some 135, some 136, some 137, some 138, some 139, some 140, some 141, some 142, some 143, some 144, some 145, some 146, some 147, some 148, some 149, some 150, some 151, some 152, some 153, some 154, some 155, some 156, some 157, none], [[], [0], [0, 1], [0, 1], [0, 1, 2, 3], [0, 1, 2, 3, 4], [0, 1, 2, 3, 4, 5], [0, 1], [0, 1], [0, 1, 7, 8], [0, 1, 7, 8, 9], [0, 1, 7, 8, 9, 10], [0, 1, 2, 3, 4, 5, 6, 7, 8, 9, 10, 11], [0, 1, 2, 3, 4, 5, 6, 7, 8, 9, 10, 11, 12], [0, 1, 2, 3, 4, 5, 6, 7, 8, 9, 10, 11, 12, 13], [0, 1, 2, 3, 4, 5, 6, 7, 8, 9, 10, 11, 12, 13], [0, 1, 2, 3, 4, 5, 6, 7, 8, 9, 10, 11, 12, 13, 14, 15], [0, 1, 2, 3, 4, 5, 6, 7, 8, 9, 10, 11, 12, 13, 14, 15, 16], [0, 1, 2, 3, 4, 5, 6, 7, 8, 9, 10, 11, 12, 13, 14, 15, 16, 17], [0, 1, 2, 3, 4, 5, 6, 7, 8, 9, 10, 11, 12, 13], [0, 1, 2, 3, 4, 5, 6, 7, 8, 9, 10, 11, 12, 13], [0, 1, 2, 3, 4, 5, 6, 7, 8, 9, 10, 11, 12, 13, 19, 20], [0, 1, 2, 3, 4, 5, 6, 7, 8, 9, 10, 11, 12, 13, 19, 20, 21], [0, 1, 2, 3, 4, 5, 6, 7, 8, 9, 10, 11, 12, 13, 19, 20, 21, 22], [0, 1, 2, 3, 4, 5, 6, 7, 8, 9, 10, 11, 12, 13, 14, 15, 16, 17, 18, 19, 20, 21, 22, 23], [0, 1, 2, 3, 4, 5, 6, 7, 8, 9, 10, 11, 12, 13, 14, 15, 16, 17, 18, 19, 20, 21, 22, 23, 24], [0, 1, 2, 3, 4, 5, 6, 7, 8, 9, 10, 11, 12, 13, 14, 15, 16, 17, 18, 19, 20, 21, 22, 23, 24, 25], [0, 1, 2, 3, 4, 5, 6, 7, 8, 9, 10, 11, 12, 13, 14, 15, 16, 17, 18, 19, 20, 21, 22, 23, 24, 25, 26]], [[], [0], [1], [1], [1, 2, 3], [1, 4], [1, 5], [1], [1], [1, 7, 8], [1, 9], [1, 10], [1, 6, 11], [1, 12], [13], [13], [13, 14, 15], [13, 16], [13, 17], [13], [13], [13, 19, 20], [13, 21], [13, 22], [13, 18, 23], [1, 13, 24], [1, 25], []]⟩ (fun _ => []) (by kernel_rfl) (by kernel_rfl) (by (with_reducible (repeat' (first | assumption | apply jA | apply jB | apply jC | apply jD | apply jE | apply jF | apply hb3 | omega | (simp; done) | (simp; omega) | (dsimp only; omega))))) (fun u => by simp only [putD, Act.put, List.setIfInBounds_toArray, List.set_cons_zero, List.set_cons_succ, Nat.zero_add, Nat.reduceAdd]; rfl) ?_
                    apply RGW.on (i := 0) rfl
                    · (simp only [gA, gB, gC] <;> rfl)
                    · intro γ u W hcur hd
                      clear hd
                      (try dsimp only)
                      refine ⟨rfl, ?_⟩
                      go_simp <;> (try go_bits) <;> with_reducible rfl
                    · exact fun _ _ _ => rfl
                    · rfl
                    dsimp only [nA, cA]
                    apply RGW.on (i := 1) rfl
                    · (simp only [gA, gB, gC] <;> rfl)
                    · intro γ u W hcur hd
                      obtain ⟨⟨h0, -, -⟩, -⟩ := hd
                      dsimp only at h0
                      (try simp only [h0])
                      refine ⟨rfl, ?_⟩
                      go_simp <;> (try go_bits) <;> with_reducible rfl
                    · exact fun _ _ _ => rfl
                    · rfl
                    dsimp only [nA, cA]
                    first
                    | apply RGW.on (i := 2) rfl
                      · (simp only [gA, gB, gC] <;> rfl)
                      · intro γ u W hcur hd
                        obtain ⟨⟨h1, -, -⟩, -⟩ := hd
                        dsimp only at h1
                        (try simp only [h1])
                        refine ⟨?_, ?_⟩
                        · (simp [Region.wanted, yielded, undef, *]; done)
                        go_simp <;> (try go_bits) <;> with_reducible rfl
                      · exact fun _ _ _ => rfl
                      · rfl
                    | apply RGW.off (i := 2) rfl
                      · (simp only [gA, gB, gC] <;> rfl)
                      · intro γ u W hcur hd
                        obtain ⟨⟨h1, -, -⟩, -⟩ := hd
                        dsimp only at h1
                        (try simp only [h1])
                        simp [Region.wanted, yielded, undef, *]
                      · rfl
                    dsimp only [nA, cA]
                    first
                    | apply RGW.on (i := 3) rfl
                      · (simp only [gA, gB, gC] <;> rfl)
                      · intro γ u W hcur hd
                        obtain ⟨⟨h1, -, -⟩, -⟩ := hd
                        dsimp only at h1
                        (try simp only [h1])
                        refine ⟨?_, ?_⟩
                        · (simp [Region.wanted, yielded, undef, *]; done)
                        go_simp <;> (try go_bits) <;> with_reducible rfl
                      · exact fun _ _ _ => rfl
                      · rfl
                    | apply RGW.off (i := 3) rfl
                      · (simp only [gA, gB, gC] <;> rfl)
                      · intro γ u W hcur hd
                        obtain ⟨⟨h1, -, -⟩, -⟩ := hd
                        dsimp only at h1
                        (try simp only [h1])
                        simp [Region.wanted, yielded, undef, *]
                      · rfl
                    dsimp only [nA, cA]
                    first
                    | apply RGW.on (i := 4) rfl
                      · (simp only [gA, gB, gC] <;> rfl)
                      · intro γ u W hcur hd
                        obtain ⟨⟨h1, -, -⟩, ⟨h2, -, -⟩, ⟨h3, -, -⟩, -⟩ := hd
                        dsimp only at h1 h2 h3
                        (try simp only [h1, h2, h3])
                        refine ⟨?_, ?_⟩
                        · (simp [Region.wanted, yielded, undef, *]; done)
                        go_simp <;> (try go_bits) <;> with_reducible rfl
                      · exact fun _ _ _ => rfl
                      · rfl
                    | apply RGW.off (i := 4) rfl
                      · (simp only [gA, gB, gC] <;> rfl)
                      · intro γ u W hcur hd
                        obtain ⟨⟨h1, -, -⟩, ⟨h2, -, -⟩, ⟨h3, -, -⟩, -⟩ := hd
                        dsimp only at h1 h2 h3
                        (try simp only [h1, h2, h3])
                        simp [Region.wanted, yielded, undef, *]
                      · rfl
                    dsimp only [nA, cA]
                    first
                    | apply RGW.on (i := 5) rfl
                      · (simp only [gA, gB, gC] <;> rfl)
                      · intro γ u W hcur hd
                        obtain ⟨⟨h1, -, -⟩, ⟨h4, -, -⟩, -⟩ := hd
                        dsimp only at h1 h4
                        (try simp only [h1, h4])
                        refine ⟨?_, ?_⟩
                        · (simp [Region.wanted, yielded, undef, *]; done)
                        go_simp <;> (try go_bits) <;> with_reducible rfl
                      · exact fun _ _ _ => rfl
                      · rfl
                    | apply RGW.off (i := 5) rfl
                      · (simp only [gA, gB, gC] <;> rfl)
                      · intro γ u W hcur hd
                        obtain ⟨⟨h1, -, -⟩, ⟨h4, -, -⟩, -⟩ := hd
                        dsimp only at h1 h4
                        (try simp only [h1, h4])
                        simp [Region.wanted, yielded, undef, *]
                      · rfl
                    dsimp only [nA, cA]
                    first
                    | apply RGW.on (i := 6) rfl
                      · (simp only [gA, gB, gC] <;> rfl)
                      · intro γ u W hcur hd
                        obtain ⟨⟨h1, -, -⟩, ⟨h5, -, -⟩, -⟩ := hd
                        dsimp only at h1 h5
                        (try simp only [h1, h5])
                        refine ⟨?_, ?_⟩
                        · (simp [Region.wanted, yielded, undef, *]; done)
                        go_simp <;> (try go_bits) <;> with_reducible rfl
                      · exact fun _ _ _ => rfl
                      · rfl
                    | apply RGW.off (i := 6) rfl
                      · (simp only [gA, gB, gC] <;> rfl)
                      · intro γ u W hcur hd
                        obtain ⟨⟨h1, -, -⟩, ⟨h5, -, -⟩, -⟩ := hd
                        dsimp only at h1 h5
                        (try simp only [h1, h5])
                        simp [Region.wanted, yielded, undef, *]
                      · rfl
                    dsimp only [nA, cA]
                    first
                    | apply RGW.on (i := 7) rfl
                      · (simp only [gA, gB, gC] <;> rfl)
                      · intro γ u W hcur hd
                        obtain ⟨⟨h1, -, -⟩, -⟩ := hd
                        dsimp only at h1
                        (try simp only [h1])
                        refine ⟨?_, ?_⟩
                        · (simp [Region.wanted, yielded, undef, *]; done)
                        go_simp <;> (try go_bits) <;> with_reducible rfl
                      · exact fun _ _ _ => rfl
                      · rfl
                    | apply RGW.off (i := 7) rfl
                      · (simp only [gA, gB, gC] <;> rfl)
                      · intro γ u W hcur hd
                        obtain ⟨⟨h1, -, -⟩, -⟩ := hd
                        dsimp only at h1
                        (try simp only [h1])
                        simp [Region.wanted, yielded, undef, *]
                      · rfl
                    dsimp only [nA, cA]
                    first
                    | apply RGW.on (i := 8) rfl
                      · (simp only [gA, gB, gC] <;> rfl)
                      · intro γ u W hcur hd
                        obtain ⟨⟨h1, -, -⟩, -⟩ := hd
                        dsimp only at h1
                        (try simp only [h1])
                        refine ⟨?_, ?_⟩
                        · (simp [Region.wanted, yielded, undef, *]; done)
                        go_simp <;> (try go_bits) <;> with_reducible rfl
                      · exact fun _ _ _ => rfl
                      · rfl
                    | apply RGW.off (i := 8) rfl
                      · (simp only [gA, gB, gC] <;> rfl)
                      · intro γ u W hcur hd
                        obtain ⟨⟨h1, -, -⟩, -⟩ := hd
                        dsimp only at h1
                        (try simp only [h1])
                        simp [Region.wanted, yielded, undef, *]
                      · rfl
                    dsimp only [nA, cA]
                    first
                    | apply RGW.on (i := 9) rfl
                      · (simp only [gA, gB, gC] <;> rfl)
                      · intro γ u W hcur hd
                        obtain ⟨⟨h1, -, -⟩, ⟨h7, -, -⟩, ⟨h8, -, -⟩, -⟩ := hd
                        dsimp only at h1 h7 h8
                        (try simp only [h1, h7, h8])
                        refine ⟨?_, ?_⟩
                        · (simp [Region.wanted, yielded, undef, *]; done)
                        go_simp <;> (try go_bits) <;> with_reducible rfl
                      · exact fun _ _ _ => rfl
                      · rfl
                    | apply RGW.off (i := 9) rfl
                      · (simp only [gA, gB, gC] <;> rfl)
                      · intro γ u W hcur hd
                        obtain ⟨⟨h1, -, -⟩, ⟨h7, -, -⟩, ⟨h8, -, -⟩, -⟩ := hd
                        dsimp only at h1 h7 h8
                        (try simp only [h1, h7, h8])
                        simp [Region.wanted, yielded, undef, *]
                      · rfl
                    dsimp only [nA, cA]
                    first
                    | apply RGW.on (i := 10) rfl
                      · (simp only [gA, gB, gC] <;> rfl)
                      · intro γ u W hcur hd
                        obtain ⟨⟨h1, -, -⟩, ⟨h9, -, -⟩, -⟩ := hd
                        dsimp only at h1 h9
                        (try simp only [h1, h9])
                        refine ⟨?_, ?_⟩
                        · (simp [Region.wanted, yielded, undef, *]; done)
                        go_simp <;> (try go_bits) <;> with_reducible rfl
                      · exact fun _ _ _ => rfl
                      · rfl
                    | apply RGW.off (i := 10) rfl
                      · (simp only [gA, gB, gC] <;> rfl)
                      · intro γ u W hcur hd
                        obtain ⟨⟨h1, -, -⟩, ⟨h9, -, -⟩, -⟩ := hd
                        dsimp only at h1 h9
                        (try simp only [h1, h9])
                        simp [Region.wanted, yielded, undef, *]
                      · rfl
                    dsimp only [nA, cA]
                    first
                    | apply RGW.on (i := 11) rfl
                      · (simp only [gA, gB, gC] <;> rfl)
                      · intro γ u W hcur hd
                        obtain ⟨⟨h1, -, -⟩, ⟨h10, -, -⟩, -⟩ := hd
                        dsimp only at h1 h10
                        (try simp only [h1, h10])
                        refine ⟨?_, ?_⟩
                        · (simp [Region.wanted, yielded, undef, *]; done)
                        go_simp <;> (try go_bits) <;> with_reducible rfl
                      · exact fun _ _ _ => rfl
                      · rfl
                    | apply RGW.off (i := 11) rfl
                      · (simp only [gA, gB, gC] <;> rfl)
                      · intro γ u W hcur hd
                        obtain ⟨⟨h1, -, -⟩, ⟨h10, -, -⟩, -⟩ := hd
                        dsimp only at h1 h10
                        (try simp only [h1, h10])
                        simp [Region.wanted, yielded, undef, *]
                      · rfl
                    dsimp only [nA, cA]
                    first
                    | apply RGW.on (i := 12) rfl
                      · (simp only [gA, gB, gC] <;> rfl)
                      · intro γ u W hcur hd
                        obtain ⟨⟨h1, -, -⟩, ⟨h6, -, -⟩, ⟨h11, -, -⟩, -⟩ := hd
                        dsimp only at h1 h6 h11
                        (try simp only [h1, h6, h11])
                        refine ⟨?_, ?_⟩
                        · (simp [Region.wanted, yielded, undef, *]; done)
                        go_simp <;> (try go_bits) <;> with_reducible rfl
                      · exact fun _ _ _ => rfl
                      · rfl
                    | apply RGW.off (i := 12) rfl
                      · (simp only [gA, gB, gC] <;> rfl)
                      · intro γ u W hcur hd
                        obtain ⟨⟨h1, -, -⟩, ⟨h6, -, -⟩, ⟨h11, -, -⟩, -⟩ := hd
                        dsimp only at h1 h6 h11
                        (try simp only [h1, h6, h11])
                        simp [Region.wanted, yielded, undef, *]
                      · rfl
                    dsimp only [nA, cA]
                    first
                    | apply RGW.on (i := 13) rfl
                      · (simp only [gA, gB, gC] <;> rfl)
                      · intro γ u W hcur hd
                        obtain ⟨⟨h1, -, -⟩, ⟨h12, -, -⟩, -⟩ := hd
                        dsimp only at h1 h12
                        (try simp only [h1, h12])
                        refine ⟨?_, ?_⟩
                        · (simp [Region.wanted, yielded, undef, *]; done)
                        go_simp <;> (try go_bits) <;> with_reducible rfl
                      · exact fun _ _ _ => rfl
                      · rfl
                    | apply RGW.off (i := 13) rfl
                      · (simp only [gA, gB, gC] <;> rfl)
                      · intro γ u W hcur hd
                        obtain ⟨⟨h1, -, -⟩, ⟨h12, -, -⟩, -⟩ := hd
                        dsimp only at h1 h12
                        (try simp only [h1, h12])
                        simp [Region.wanted, yielded, undef, *]
                      · rfl
                    dsimp only [nA, cA]
                    first
                    | apply RGW.on (i := 14) rfl
                      · (simp only [gA, gB, gC] <;> rfl)
                      · intro γ u W hcur hd
                        obtain ⟨⟨h13, -, -⟩, -⟩ := hd
                        dsimp only at h13
                        (try simp only [h13])
                        refine ⟨?_, ?_⟩
                        · (simp [Region.wanted, yielded, undef, *]; done)
                        go_simp <;> (try go_bits) <;> with_reducible rfl
                      · exact fun _ _ _ => rfl
                      · rfl
                    | apply RGW.off (i := 14) rfl
                      · (simp only [gA, gB, gC] <;> rfl)
                      · intro γ u W hcur hd
                        obtain ⟨⟨h13, -, -⟩, -⟩ := hd
                        dsimp only at h13
                        (try simp only [h13])
                        simp [Region.wanted, yielded, undef, *]
                      · rfl
                    dsimp only [nA, cA]
                    first
                    | apply RGW.on (i := 15) rfl
                      · (simp only [gA, gB, gC] <;> rfl)
                      · intro γ u W hcur hd
                        obtain ⟨⟨h13, -, -⟩, -⟩ := hd
                        dsimp only at h13
                        (try simp only [h13])
                        refine ⟨?_, ?_⟩
                        · (simp [Region.wanted, yielded, undef, *]; done)
                        go_simp <;> (try go_bits) <;> with_reducible rfl
                      · exact fun _ _ _ => rfl
                      · rfl
                    | apply RGW.off (i := 15) rfl
                      · (simp only [gA, gB, gC] <;> rfl)
                      · intro γ u W hcur hd
                        obtain ⟨⟨h13, -, -⟩, -⟩ := hd
                        dsimp only at h13
                        (try simp only [h13])
                        simp [Region.wanted, yielded, undef, *]
                      · rfl
                    dsimp only [nA, cA]
                    first
                    | apply RGW.on (i := 16) rfl
                      · (simp only [gA, gB, gC] <;> rfl)
                      · intro γ u W hcur hd
                        obtain ⟨⟨h13, -, -⟩, ⟨h14, -, -⟩, ⟨h15, -, -⟩, -⟩ := hd
                        dsimp only at h13 h14 h15
                        (try simp only [h13, h14, h15])
                        refine ⟨?_, ?_⟩
                        · (simp [Region.wanted, yielded, undef, *]; done)
                        go_simp <;> (try go_bits) <;> with_reducible rfl
                      · exact fun _ _ _ => rfl
                      · rfl
                    | apply RGW.off (i := 16) rfl
                      · (simp only [gA, gB, gC] <;> rfl)
                      · intro γ u W hcur hd
                        obtain ⟨⟨h13, -, -⟩, ⟨h14, -, -⟩, ⟨h15, -, -⟩, -⟩ := hd
                        dsimp only at h13 h14 h15
                        (try simp only [h13, h14, h15])
                        simp [Region.wanted, yielded, undef, *]
                      · rfl
                    dsimp only [nA, cA]
                    first
                    | apply RGW.on (i := 17) rfl
                      · (simp only [gA, gB, gC] <;> rfl)
                      · intro γ u W hcur hd
                        obtain ⟨⟨h13, -, -⟩, ⟨h16, -, -⟩, -⟩ := hd
                        dsimp only at h13 h16
                        (try simp only [h13, h16])
                        refine ⟨?_, ?_⟩
                        · (simp [Region.wanted, yielded, undef, *]; done)
                        go_simp <;> (try go_bits) <;> with_reducible rfl
                      · exact fun _ _ _ => rfl
                      · rfl
                    | apply RGW.off (i := 17) rfl
                      · (simp only [gA, gB, gC] <;> rfl)
                      · intro γ u W hcur hd
                        obtain ⟨⟨h13, -, -⟩, ⟨h16, -, -⟩, -⟩ := hd
                        dsimp only at h13 h16
                        (try simp only [h13, h16])
                        simp [Region.wanted, yielded, undef, *]
                      · rfl
                    dsimp only [nA, cA]
                    first
                    | apply RGW.on (i := 18) rfl
                      · (simp only [gA, gB, gC] <;> rfl)
                      · intro γ u W hcur hd
                        obtain ⟨⟨h13, -, -⟩, ⟨h17, -, -⟩, -⟩ := hd
                        dsimp only at h13 h17
                        (try simp only [h13, h17])
                        refine ⟨?_, ?_⟩
                        · (simp [Region.wanted, yielded, undef, *]; done)
                        go_simp <;> (try go_bits) <;> with_reducible rfl
                      · exact fun _ _ _ => rfl
                      · rfl
                    | apply RGW.off (i := 18) rfl
                      · (simp only [gA, gB, gC] <;> rfl)
                      · intro γ u W hcur hd
                        obtain ⟨⟨h13, -, -⟩, ⟨h17, -, -⟩, -⟩ := hd
                        dsimp only at h13 h17
                        (try simp only [h13, h17])
                        simp [Region.wanted, yielded, undef, *]
                      · rfl
                    dsimp only [nA, cA]
                    first
                    | apply RGW.on (i := 19) rfl
                      · (simp only [gA, gB, gC] <;> rfl)
                      · intro γ u W hcur hd
                        obtain ⟨⟨h13, -, -⟩, -⟩ := hd
                        dsimp only at h13
                        (try simp only [h13])
                        refine ⟨?_, ?_⟩
                        · (simp [Region.wanted, yielded, undef, *]; done)
                        go_simp <;> (try go_bits) <;> with_reducible rfl
                      · exact fun _ _ _ => rfl
                      · rfl
                    | apply RGW.off (i := 19) rfl
                      · (simp only [gA, gB, gC] <;> rfl)
                      · intro γ u W hcur hd
                        obtain ⟨⟨h13, -, -⟩, -⟩ := hd
                        dsimp only at h13
                        (try simp only [h13])
                        simp [Region.wanted, yielded, undef, *]
                      · rfl
                    dsimp only [nA, cA]
                    first
                    | apply RGW.on (i := 20) rfl
                      · (simp only [gA, gB, gC] <;> rfl)
                      · intro γ u W hcur hd
                        obtain ⟨⟨h13, -, -⟩, -⟩ := hd
                        dsimp only at h13
                        (try simp only [h13])
                        refine ⟨?_, ?_⟩
                        · (simp [Region.wanted, yielded, undef, *]; done)
                        go_simp <;> (try go_bits) <;> with_reducible rfl
                      · exact fun _ _ _ => rfl
                      · rfl
                    | apply RGW.off (i := 20) rfl
                      · (simp only [gA, gB, gC] <;> rfl)
                      · intro γ u W hcur hd
                        obtain ⟨⟨h13, -, -⟩, -⟩ := hd
                        dsimp only at h13
                        (try simp only [h13])
                        simp [Region.wanted, yielded, undef, *]
                      · rfl
                    dsimp only [nA, cA]
                    first
                    | apply RGW.on (i := 21) rfl
                      · (simp only [gA, gB, gC] <;> rfl)
                      · intro γ u W hcur hd
                        obtain ⟨⟨h13, -, -⟩, ⟨h19, -, -⟩, ⟨h20, -, -⟩, -⟩ := hd
                        dsimp only at h13 h19 h20
                        (try simp only [h13, h19, h20])
                        refine ⟨?_, ?_⟩
                        · (simp [Region.wanted, yielded, undef, *]; done)
                        go_simp <;> (try go_bits) <;> with_reducible rfl
                      · exact fun _ _ _ => rfl
                      · rfl
                    | apply RGW.off (i := 21) rfl
                      · (simp only [gA, gB, gC] <;> rfl)
                      · intro γ u W hcur hd
                        obtain ⟨⟨h13, -, -⟩, ⟨h19, -, -⟩, ⟨h20, -, -⟩, -⟩ := hd
                        dsimp only at h13 h19 h20
                        (try simp only [h13, h19, h20])
                        simp [Region.wanted, yielded, undef, *]
                      · rfl
                    dsimp only [nA, cA]
                    first
                    | apply RGW.on (i := 22) rfl
                      · (simp only [gA, gB, gC] <;> rfl)
                      · intro γ u W hcur hd
                        obtain ⟨⟨h13, -, -⟩, ⟨h21, -, -⟩, -⟩ := hd
                        dsimp only at h13 h21
                        (try simp only [h13, h21])
                        refine ⟨?_, ?_⟩
                        · (simp [Region.wanted, yielded, undef, *]; done)
                        go_simp <;> (try go_bits) <;> with_reducible rfl
                      · exact fun _ _ _ => rfl
                      · rfl
                    | apply RGW.off (i := 22) rfl
                      · (simp only [gA, gB, gC] <;> rfl)
                      · intro γ u W hcur hd
                        obtain ⟨⟨h13, -, -⟩, ⟨h21, -, -⟩, -⟩ := hd
                        dsimp only at h13 h21
                        (try simp only [h13, h21])
                        simp [Region.wanted, yielded, undef, *]
                      · rfl
                    dsimp only [nA, cA]
                    first
                    | apply RGW.on (i := 23) rfl
                      · (simp only [gA, gB, gC] <;> rfl)
                      · intro γ u W hcur hd
                        obtain ⟨⟨h13, -, -⟩, ⟨h22, -, -⟩, -⟩ := hd
                        dsimp only at h13 h22
                        (try simp only [h13, h22])
                        refine ⟨?_, ?_⟩
                        · (simp [Region.wanted, yielded, undef, *]; done)
                        go_simp <;> (try go_bits) <;> with_reducible rfl
                      · exact fun _ _ _ => rfl
                      · rfl
                    | apply RGW.off (i := 23) rfl
                      · (simp only [gA, gB, gC] <;> rfl)
                      · intro γ u W hcur hd
                        obtain ⟨⟨h13, -, -⟩, ⟨h22, -, -⟩, -⟩ := hd
                        dsimp only at h13 h22
                        (try simp only [h13, h22])
                        simp [Region.wanted, yielded, undef, *]
                      · rfl
                    dsimp only [nA, cA]
                    first
                    | apply RGW.on (i := 24) rfl
                      · (simp only [gA, gB, gC] <;> rfl)
                      · intro γ u W hcur hd
                        obtain ⟨⟨h13, -, -⟩, ⟨h18, -, -⟩, ⟨h23, -, -⟩, -⟩ := hd
                        dsimp only at h13 h18 h23
                        (try simp only [h13, h18, h23])
                        refine ⟨?_, ?_⟩
                        · (simp [Region.wanted, yielded, undef, *]; done)
                        go_simp <;> (try go_bits) <;> with_reducible rfl
                      · exact fun _ _ _ => rfl
                      · rfl
                    | apply RGW.off (i := 24) rfl
                      · (simp only [gA, gB, gC] <;> rfl)
                      · intro γ u W hcur hd
                        obtain ⟨⟨h13, -, -⟩, ⟨h18, -, -⟩, ⟨h23, -, -⟩, -⟩ := hd
                        dsimp only at h13 h18 h23
                        (try simp only [h13, h18, h23])
                        simp [Region.wanted, yielded, undef, *]
                      · rfl
                    dsimp only [nA, cA]
                    first
                    | apply RGW.on (i := 25) rfl
                      · (simp only [gA, gB, gC] <;> rfl)
                      · intro γ u W hcur hd
                        obtain ⟨⟨h1, -, -⟩, ⟨h13, -, -⟩, ⟨h24, -, -⟩, -⟩ := hd
                        dsimp only at h1 h13 h24
                        (try simp only [h1, h13, h24])
                        refine ⟨?_, ?_⟩
                        · (simp [Region.wanted, yielded, undef, *]; done)
                        go_simp <;> (try go_bits) <;> with_reducible rfl
                      · exact fun _ _ _ => rfl
                      · rfl
                    | apply RGW.off (i := 25) rfl
                      · (simp only [gA, gB, gC] <;> rfl)
                      · intro γ u W hcur hd
                        obtain ⟨⟨h1, -, -⟩, ⟨h13, -, -⟩, ⟨h24, -, -⟩, -⟩ := hd
                        dsimp only at h1 h13 h24
                        (try simp only [h1, h13, h24])
                        simp [Region.wanted, yielded, undef, *]
                      · rfl
                    dsimp only [nA, cA]
                    apply RGW.on (i := 26) rfl
                    · (simp only [gA, gB, gC] <;> rfl)
                    · intro γ u W hcur hd
                      obtain ⟨⟨h1, -, -⟩, ⟨h25, -, -⟩, -⟩ := hd
                      dsimp only at h1 h25
                      (try simp only [h1, h25])
                      refine ⟨rfl, ?_⟩
                      go_simp <;> (try go_bits) <;> with_reducible rfl
                    · exact fun _ _ _ => rfl
                    · rfl
                    dsimp only [nA, cA]
                    refine RGW.skip (i := 27) rfl rfl ?_
                    dsimp only [nA, cA]
                    refine RGW.fin (fun γ u wj hwj hd hdis => ?_)
                    obtain ⟨⟨h0, -, -⟩, ⟨h1, -, -⟩, ⟨h2, -, -⟩, ⟨h3, -, -⟩, ⟨h4, -, -⟩, ⟨h5, -, -⟩, ⟨h6, -, -⟩, ⟨h7, -, -⟩, ⟨h8, -, -⟩, ⟨h9, -, -⟩, ⟨h10, -, -⟩, ⟨h11, -, -⟩, ⟨h12, -, -⟩, ⟨h13, -, -⟩, ⟨h14, -, -⟩, ⟨h15, -, -⟩, ⟨h16, -, -⟩, ⟨h17, -, -⟩, ⟨h18, -, -⟩, ⟨h19, -, -⟩, ⟨h20, -, -⟩, ⟨h21, -, -⟩, ⟨h22, -, -⟩, ⟨h23, -, -⟩, ⟨h24, -, -⟩, ⟨h25, -, -⟩, ⟨h26, -, -⟩, -⟩ := hd
                    dsimp only at h0 h1 h2 h3 h4 h5 h6 h7 h8 h9 h10 h11 h12 h13 h14 h15 h16 h17 h18 h19 h20 h21 h22 h23 h24 h25 h26
                    clear hdis
                    simp only [h0, h1, h2, h3, h4, h5, h6, h7, h8, h9, h10, h11, h12, h13, h14, h15, h16, h17, h18, h19, h20, h21, h22, h23, h24, h25, h26]
                    clear h26 h25 h24 h23 h22 h21 h20 h19 h18 h17 h16 h15 h14 h13 h12 h11 h10 h9 h8 h7 h6 h5 h4 h3 h2 h1 h0
                    clear u
                    simp only [List.map_cons, List.map_nil]
                    apply PlanW.step
                    · (simp only [gA, gB, gC] <;> rfl)
                    · rfl
                    intro K hK
                    go_simp
                    refine hK.out _ _ (by with_reducible first | assumption | exact bx_refl _ _) (fun hcur => ?_)
                    clear hK K
                    try simp only [Act.put, List.setIfInBounds_toArray, List.set_cons_zero, List.set_cons_succ]
                    refine PlanW.done ?_
                    have hb3 := bl_tt hwj
                    go_wp2
                    go_roundw
                    case rel => exact ⟨k + 1, by omega, by go_num, by rw [hn.out], bl_tr hb4 hwj, hR6.out.below hwj, r8.out.below hwj⟩
                    case measure => simp [intOf] <;> omega
                  · have hn := Lib.hid (show g (k + 1) = false by rw [hst.out]; simp [h1, h2])
                    refine wp_any (w0 := wr) ⟨[27], [], [some 131, some 132, some 133, some 134, some 135, some 136, some 137, some 138, some 139, some 140, some 141, some 142, some 143, some 144, some 145, some 146, some 147, some 148, some 149, some 150, some 151, some 152, some 153, some 154, some 155, some 156, some 157, none], [[], [0], [0, 1], [0, 1], [0, 1, 2, 3], [0, 1, 2, 3, 4], [0, 1, 2, 3, 4, 5], [0, 1], [0, 1], [0, 1, 7, 8], [0, 1, 7, 8, 9], [0, 1, 7, 8, 9, 10], [0, 1, 2, 3, 4, 5, 6, 7, 8, 9, 10, 11], [0, 1, 2, 3, 4, 5, 6, 7, 8, 9, 10, 11, 12], [0, 1, 2, 3, 4, 5, 6, 7, 8, 9, 10, 11, 12, 13], [0, 1, 2, 3, 4, 5, 6, 7, 8, 9, 10, 11, 12, 13], [0, 1, 2, 3, 4, 5, 6, 7, 8, 9, 10, 11, 12, 13, 14, 15], [0, 1, 2, 3, 4, 5, 6, 7, 8, 9, 10, 11, 12, 13, 14, 15, 16], [0, 1, 2, 3, 4, 5, 6, 7, 8, 9, 10, 11, 12, 13, 14, 15, 16, 17], [0, 1, 2, 3, 4, 5, 6, 7, 8, 9, 10, 11, 12, 13], [0, 1, 2, 3, 4, 5, 6, 7, 8, 9, 10, 11, 12, 13], [0, 1, 2, 3, 4, 5, 6, 7, 8, 9, 10, 11, 12, 13, 19, 20], [0, 1, 2, 3, 4, 5, 6, 7, 8, 9, 10, 11, 12, 13, 19, 20, 21], [0, 1, 2, 3, 4, 5, 6, 7, 8, 9, 10, 11, 12, 13, 19, 20, 21, 22], [0, 1, 2, 3, 4, 5, 6, 7, 8, 9, 10, 11, 12, 13, 14, 15, 16, 17, 18, 19, 20, 21, 22, 23], [0, 1, 2, 3, 4, 5, 6, 7, 8, 9, 10, 11, 12, 13, 14, 15, 16, 17, 18, 19, 20, 21, 22, 23, 24], [0, 1, 2, 3, 4, 5, 6, 7, 8, 9, 10, 11, 12, 13, 14, 15, 16, 17, 18, 19, 20, 21, 22, 23, 24, 25], [0, 1, 2, 3, 4, 5, 6, 7, 8, 9, 10, 11, 12, 13, 14, 15, 16, 17, 18, 19, 20, 21, 22, 23, 24, 25, 26]], [[], [0], [1], [1], [1, 2, 3], [1, 4], [1, 5], [1], [1], [1, 7, 8], [1, 9], [1, 10], [1, 6, 11], [1, 12], [13], [13], [13, 14, 15], [13, 16], [13, 17], [13], [13], [13, 19, 20], [13, 21], [13, 22], [13, 18, 23], [1, 13, 24], [1, 25], []]⟩ (fun _ => []) (by kernel_rfl) (by kernel_rfl) (by (with_reducible (repeat' (first | assumption | apply jA | apply jB | apply jC | apply jD | apply jE | apply jF | apply hb3 | omega | (simp; done) | (simp; omega) | (dsimp only; omega))))) (fun u => by simp only [putD, Act.put, List.setIfInBounds_toArray, List.set_cons_zero, List.set_cons_succ, Nat.zero_add, Nat.reduceAdd]; rfl) ?_
                    apply RGW.on (i := 0) rfl
                    · (simp only [gA, gB, gC] <;> rfl)
                    · intro γ u W hcur hd
                      clear hd
                      (try dsimp only)
                      refine ⟨rfl, ?_⟩
                      go_simp <;> (try go_bits) <;> with_reducible rfl
                    · exact fun _ _ _ => rfl
                    · rfl
                    dsimp only [nA, cA]
                    apply RGW.on (i := 1) rfl
                    · (simp only [gA, gB, gC] <;> rfl)
                    · intro γ u W hcur hd
                      obtain ⟨⟨h0, -, -⟩, -⟩ := hd
                      dsimp only at h0
                      (try simp only [h0])
                      refine ⟨rfl, ?_⟩
                      go_simp <;> (try go_bits) <;> with_reducible rfl
                    · exact fun _ _ _ => rfl
                    · rfl
                    dsimp only [nA, cA]
                    first
                    | apply RGW.on (i := 2) rfl
                      · (simp only [gA, gB, gC] <;> rfl)
                      · intro γ u W hcur hd
                        obtain ⟨⟨h1, -, -⟩, -⟩ := hd
                        dsimp only at h1
                        (try simp only [h1])
                        refine ⟨?_, ?_⟩
                        · (simp [Region.wanted, yielded, undef, *]; done)
                        go_simp <;> (try go_bits) <;> with_reducible rfl
                      · exact fun _ _ _ => rfl
                      · rfl
                    | apply RGW.off (i := 2) rfl
                      · (simp only [gA, gB, gC] <;> rfl)
                      · intro γ u W hcur hd
                        obtain ⟨⟨h1, -, -⟩, -⟩ := hd
                        dsimp only at h1
                        (try simp only [h1])
                        simp [Region.wanted, yielded, undef, *]
                      · rfl
                    dsimp only [nA, cA]
                    first
                    | apply RGW.on (i := 3) rfl
                      · (simp only [gA, gB, gC] <;> rfl)
                      · intro γ u W hcur hd
                        obtain ⟨⟨h1, -, -⟩, -⟩ := hd
                        dsimp only at h1
                        (try simp only [h1])
                        refine ⟨?_, ?_⟩
                        · (simp [Region.wanted, yielded, undef, *]; done)
                        go_simp <;> (try go_bits) <;> with_reducible rfl
                      · exact fun _ _ _ => rfl
                      · rfl
                    | apply RGW.off (i := 3) rfl
                      · (simp only [gA, gB, gC] <;> rfl)
                      · intro γ u W hcur hd
                        obtain ⟨⟨h1, -, -⟩, -⟩ := hd
                        dsimp only at h1
                        (try simp only [h1])
                        simp [Region.wanted, yielded, undef, *]
                      · rfl
                    dsimp only [nA, cA]
                    first
                    | apply RGW.on (i := 4) rfl
                      · (simp only [gA, gB, gC] <;> rfl)
                      · intro γ u W hcur hd
                        obtain ⟨⟨h1, -, -⟩, ⟨h2, -, -⟩, ⟨h3, -, -⟩, -⟩ := hd
                        dsimp only at h1 h2 h3
                        (try simp only [h1, h2, h3])
                        refine ⟨?_, ?_⟩
                        · (simp [Region.wanted, yielded, undef, *]; done)
                        go_simp <;> (try go_bits) <;> with_reducible rfl
                      · exact fun _ _ _ => rfl
                      · rfl
                    | apply RGW.off (i := 4) rfl
                      · (simp only [gA, gB, gC] <;> rfl)
                      · intro γ u W hcur hd
                        obtain ⟨⟨h1, -, -⟩, ⟨h2, -, -⟩, ⟨h3, -, -⟩, -⟩ := hd
                        dsimp only at h1 h2 h3
                        (try simp only [h1, h2, h3])
                        simp [Region.wanted, yielded, undef, *]
                      · rfl
                    dsimp only [nA, cA]
                    first
                    | apply RGW.on (i := 5) rfl
                      · (simp only [gA, gB, gC] <;> rfl)
                      · intro γ u W hcur hd
                        obtain ⟨⟨h1, -, -⟩, ⟨h4, -, -⟩, -⟩ := hd
                        dsimp only at h1 h4
                        (try simp only [h1, h4])
                        refine ⟨?_, ?_⟩
                        · (simp [Region.wanted, yielded, undef, *]; done)
                        go_simp <;> (try go_bits) <;> with_reducible rfl
                      · exact fun _ _ _ => rfl
                      · rfl
                    | apply RGW.off (i := 5) rfl
                      · (simp only [gA, gB, gC] <;> rfl)
                      · intro γ u W hcur hd
                        obtain ⟨⟨h1, -, -⟩, ⟨h4, -, -⟩, -⟩ := hd
                        dsimp only at h1 h4
                        (try simp only [h1, h4])
                        simp [Region.wanted, yielded, undef, *]
                      · rfl
                    dsimp only [nA, cA]
                    first
                    | apply RGW.on (i := 6) rfl
                      · (simp only [gA, gB, gC] <;> rfl)
                      · intro γ u W hcur hd
                        obtain ⟨⟨h1, -, -⟩, ⟨h5, -, -⟩, -⟩ := hd
                        dsimp only at h1 h5
                        (try simp only [h1, h5])
                        refine ⟨?_, ?_⟩
                        · (simp [Region.wanted, yielded, undef, *]; done)
                        go_simp <;> (try go_bits) <;> with_reducible rfl
                      · exact fun _ _ _ => rfl
                      · rfl
                    | apply RGW.off (i := 6) rfl
                      · (simp only [gA, gB, gC] <;> rfl)
                      · intro γ u W hcur hd
                        obtain ⟨⟨h1, -, -⟩, ⟨h5, -, -⟩, -⟩ := hd
                        dsimp only at h1 h5
                        (try simp only [h1, h5])
                        simp [Region.wanted, yielded, undef, *]
                      · rfl
                    dsimp only [nA, cA]
                    first
                    | apply RGW.on (i := 7) rfl
                      · (simp only [gA, gB, gC] <;> rfl)
                      · intro γ u W hcur hd
                        obtain ⟨⟨h1, -, -⟩, -⟩ := hd
                        dsimp only at h1
                        (try simp only [h1])
                        refine ⟨?_, ?_⟩
                        · (simp [Region.wanted, yielded, undef, *]; done)
                        go_simp <;> (try go_bits) <;> with_reducible rfl
                      · exact fun _ _ _ => rfl
                      · rfl
                    | apply RGW.off (i := 7) rfl
                      · (simp only [gA, gB, gC] <;> rfl)
                      · intro γ u W hcur hd
                        obtain ⟨⟨h1, -, -⟩, -⟩ := hd
                        dsimp only at h1
                        (try simp only [h1])
                        simp [Region.wanted, yielded, undef, *]
                      · rfl
                    dsimp only [nA, cA]
                    first
                    | apply RGW.on (i := 8) rfl
                      · (simp only [gA, gB, gC] <;> rfl)
                      · intro γ u W hcur hd
                        obtain ⟨⟨h1, -, -⟩, -⟩ := hd
                        dsimp only at h1
                        (try simp only [h1])
                        refine ⟨?_, ?_⟩
                        · (simp [Region.wanted, yielded, undef, *]; done)
                        go_simp <;> (try go_bits) <;> with_reducible rfl
                      · exact fun _ _ _ => rfl
                      · rfl
                    | apply RGW.off (i := 8) rfl
                      · (simp only [gA, gB, gC] <;> rfl)
                      · intro γ u W hcur hd
                        obtain ⟨⟨h1, -, -⟩, -⟩ := hd
                        dsimp only at h1
                        (try simp only [h1])
                        simp [Region.wanted, yielded, undef, *]
                      · rfl
                    dsimp only [nA, cA]
                    first
                    | apply RGW.on (i := 9) rfl
                      · (simp only [gA, gB, gC] <;> rfl)
                      · intro γ u W hcur hd
                        obtain ⟨⟨h1, -, -⟩, ⟨h7, -, -⟩, ⟨h8, -, -⟩, -⟩ := hd
                        dsimp only at h1 h7 h8
                        (try simp only [h1, h7, h8])
                        refine ⟨?_, ?_⟩
                        · (simp [Region.wanted, yielded, undef, *]; done)
                        go_simp <;> (try go_bits) <;> with_reducible rfl
                      · exact fun _ _ _ => rfl
                      · rfl
                    | apply RGW.off (i := 9) rfl
                      · (simp only [gA, gB, gC] <;> rfl)
                      · intro γ u W hcur hd
                        obtain ⟨⟨h1, -, -⟩, ⟨h7, -, -⟩, ⟨h8, -, -⟩, -⟩ := hd
                        dsimp only at h1 h7 h8
                        (try simp only [h1, h7, h8])
                        simp [Region.wanted, yielded, undef, *]
                      · rfl
                    dsimp only [nA, cA]
                    first
                    | apply RGW.on (i := 10) rfl
                      · (simp only [gA, gB, gC] <;> rfl)
                      · intro γ u W hcur hd
                        obtain ⟨⟨h1, -, -⟩, ⟨h9, -, -⟩, -⟩ := hd
                        dsimp only at h1 h9
                        (try simp only [h1, h9])
                        refine ⟨?_, ?_⟩
                        · (simp [Region.wanted, yielded, undef, *]; done)
                        go_simp <;> (try go_bits) <;> with_reducible rfl
                      · exact fun _ _ _ => rfl
                      · rfl
                    | apply RGW.off (i := 10) rfl
                      · (simp only [gA, gB, gC] <;> rfl)
                      · intro γ u W hcur hd
                        obtain ⟨⟨h1, -, -⟩, ⟨h9, -, -⟩, -⟩ := hd
                        dsimp only at h1 h9
                        (try simp only [h1, h9])
                        simp [Region.wanted, yielded, undef, *]
                      · rfl
                    dsimp only [nA, cA]
                    first
                    | apply RGW.on (i := 11) rfl
                      · (simp only [gA, gB, gC] <;> rfl)
                      · intro γ u W hcur hd
                        obtain ⟨⟨h1, -, -⟩, ⟨h10, -, -⟩, -⟩ := hd
                        dsimp only at h1 h10
                        (try simp only [h1, h10])
                        refine ⟨?_, ?_⟩
                        · (simp [Region.wanted, yielded, undef, *]; done)
                        go_simp <;> (try go_bits) <;> with_reducible rfl
                      · exact fun _ _ _ => rfl
                      · rfl
                    | apply RGW.off (i := 11) rfl
                      · (simp only [gA, gB, gC] <;> rfl)
                      · intro γ u W hcur hd
                        obtain ⟨⟨h1, -, -⟩, ⟨h10, -, -⟩, -⟩ := hd
                        dsimp only at h1 h10
                        (try simp only [h1, h10])
                        simp [Region.wanted, yielded, undef, *]
                      · rfl
                    dsimp only [nA, cA]
                    first
                    | apply RGW.on (i := 12) rfl
                      · (simp only [gA, gB, gC] <;> rfl)
                      · intro γ u W hcur hd
                        obtain ⟨⟨h1, -, -⟩, ⟨h6, -, -⟩, ⟨h11, -, -⟩, -⟩ := hd
                        dsimp only at h1 h6 h11
                        (try simp only [h1, h6, h11])
                        refine ⟨?_, ?_⟩
                        · (simp [Region.wanted, yielded, undef, *]; done)
                        go_simp <;> (try go_bits) <;> with_reducible rfl
                      · exact fun _ _ _ => rfl
                      · rfl
                    | apply RGW.off (i := 12) rfl
                      · (simp only [gA, gB, gC] <;> rfl)
                      · intro γ u W hcur hd
                        obtain ⟨⟨h1, -, -⟩, ⟨h6, -, -⟩, ⟨h11, -, -⟩, -⟩ := hd
                        dsimp only at h1 h6 h11
                        (try simp only [h1, h6, h11])
                        simp [Region.wanted, yielded, undef, *]
                      · rfl
                    dsimp only [nA, cA]
                    first
                    | apply RGW.on (i := 13) rfl
                      · (simp only [gA, gB, gC] <;> rfl)
                      · intro γ u W hcur hd
                        obtain ⟨⟨h1, -, -⟩, ⟨h12, -, -⟩, -⟩ := hd
                        dsimp only at h1 h12
                        (try simp only [h1, h12])
                        refine ⟨?_, ?_⟩
                        · (simp [Region.wanted, yielded, undef, *]; done)
                        go_simp <;> (try go_bits) <;> with_reducible rfl
                      · exact fun _ _ _ => rfl
                      · rfl
                    | apply RGW.off (i := 13) rfl
                      · (simp only [gA, gB, gC] <;> rfl)
                      · intro γ u W hcur hd
                        obtain ⟨⟨h1, -, -⟩, ⟨h12, -, -⟩, -⟩ := hd
                        dsimp only at h1 h12
                        (try simp only [h1, h12])
                        simp [Region.wanted, yielded, undef, *]
                      · rfl
                    dsimp only [nA, cA]
                    first
                    | apply RGW.on (i := 14) rfl
                      · (simp only [gA, gB, gC] <;> rfl)
                      · intro γ u W hcur hd
                        obtain ⟨⟨h13, -, -⟩, -⟩ := hd
                        dsimp only at h13
                        (try simp only [h13])
                        refine ⟨?_, ?_⟩
                        · (simp [Region.wanted, yielded, undef, *]; done)
                        go_simp <;> (try go_bits) <;> with_reducible rfl
                      · exact fun _ _ _ => rfl
                      · rfl
                    | apply RGW.off (i := 14) rfl
                      · (simp only [gA, gB, gC] <;> rfl)
                      · intro γ u W hcur hd
                        obtain ⟨⟨h13, -, -⟩, -⟩ := hd
                        dsimp only at h13
                        (try simp only [h13])
                        simp [Region.wanted, yielded, undef, *]
                      · rfl
                    dsimp only [nA, cA]
                    first
                    | apply RGW.on (i := 15) rfl
                      · (simp only [gA, gB, gC] <;> rfl)
                      · intro γ u W hcur hd
                        obtain ⟨⟨h13, -, -⟩, -⟩ := hd
                        dsimp only at h13
                        (try simp only [h13])
                        refine ⟨?_, ?_⟩
                        · (simp [Region.wanted, yielded, undef, *]; done)
                        go_simp <;> (try go_bits) <;> with_reducible rfl
                      · exact fun _ _ _ => rfl
                      · rfl
                    | apply RGW.off (i := 15) rfl
                      · (simp only [gA, gB, gC] <;> rfl)
                      · intro γ u W hcur hd
                        obtain ⟨⟨h13, -, -⟩, -⟩ := hd
                        dsimp only at h13
                        (try simp only [h13])
                        simp [Region.wanted, yielded, undef, *]
                      · rfl
                    dsimp only [nA, cA]
                    first
                    | apply RGW.on (i := 16) rfl
                      · (simp only [gA, gB, gC] <;> rfl)
                      · intro γ u W hcur hd
                        obtain ⟨⟨h13, -, -⟩, ⟨h14, -, -⟩, ⟨h15, -, -⟩, -⟩ := hd
                        dsimp only at h13 h14 h15
                        (try simp only [h13, h14, h15])
                        refine ⟨?_, ?_⟩
                        · (simp [Region.wanted, yielded, undef, *]; done)
                        go_simp <;> (try go_bits) <;> with_reducible rfl
                      · exact fun _ _ _ => rfl
                      · rfl
                    | apply RGW.off (i := 16) rfl
                      · (simp only [gA, gB, gC] <;> rfl)
                      · intro γ u W hcur hd
                        obtain ⟨⟨h13, -, -⟩, ⟨h14, -, -⟩, ⟨h15, -, -⟩, -⟩ := hd
                        dsimp only at h13 h14 h15
                        (try simp only [h13, h14, h15])
                        simp [Region.wanted, yielded, undef, *]
                      · rfl
                    dsimp only [nA, cA]
                    first
                    | apply RGW.on (i := 17) rfl
                      · (simp only [gA, gB, gC] <;> rfl)
                      · intro γ u W hcur hd
                        obtain ⟨⟨h13, -, -⟩, ⟨h16, -, -⟩, -⟩ := hd
                        dsimp only at h13 h16
                        (try simp only [h13, h16])
                        refine ⟨?_, ?_⟩
                        · (simp [Region.wanted, yielded, undef, *]; done)
                        go_simp <;> (try go_bits) <;> with_reducible rfl
                      · exact fun _ _ _ => rfl
                      · rfl
                    | apply RGW.off (i := 17) rfl
                      · (simp only [gA, gB, gC] <;> rfl)
                      · intro γ u W hcur hd
                        obtain ⟨⟨h13, -, -⟩, ⟨h16, -, -⟩, -⟩ := hd
                        dsimp only at h13 h16
                        (try simp only [h13, h16])
                        simp [Region.wanted, yielded, undef, *]
                      · rfl
                    dsimp only [nA, cA]
                    first
                    | apply RGW.on (i := 18) rfl
                      · (simp only [gA, gB, gC] <;> rfl)
                      · intro γ u W hcur hd
                        obtain ⟨⟨h13, -, -⟩, ⟨h17, -, -⟩, -⟩ := hd
                        dsimp only at h13 h17
                        (try simp only [h13, h17])
                        refine ⟨?_, ?_⟩
                        · (simp [Region.wanted, yielded, undef, *]; done)
                        go_simp <;> (try go_bits) <;> with_reducible rfl
                      · exact fun _ _ _ => rfl
                      · rfl
                    | apply RGW.off (i := 18) rfl
                      · (simp only [gA, gB, gC] <;> rfl)
                      · intro γ u W hcur hd
                        obtain ⟨⟨h13, -, -⟩, ⟨h17, -, -⟩, -⟩ := hd
                        dsimp only at h13 h17
                        (try simp only [h13, h17])
                        simp [Region.wanted, yielded, undef, *]
                      · rfl
                    dsimp only [nA, cA]
                    first
                    | apply RGW.on (i := 19) rfl
                      · (simp only [gA, gB, gC] <;> rfl)
                      · intro γ u W hcur hd
                        obtain ⟨⟨h13, -, -⟩, -⟩ := hd
                        dsimp only at h13
                        (try simp only [h13])
                        refine ⟨?_, ?_⟩
                        · (simp [Region.wanted, yielded, undef, *]; done)
                        go_simp <;> (try go_bits) <;> with_reducible rfl
                      · exact fun _ _ _ => rfl
                      · rfl
                    | apply RGW.off (i := 19) rfl
                      · (simp only [gA, gB, gC] <;> rfl)
                      · intro γ u W hcur hd
                        obtain ⟨⟨h13, -, -⟩, -⟩ := hd
                        dsimp only at h13
                        (try simp only [h13])
                        simp [Region.wanted, yielded, undef, *]
                      · rfl
                    dsimp only [nA, cA]
                    first
                    | apply RGW.on (i := 20) rfl
                      · (simp only [gA, gB, gC] <;> rfl)
                      · intro γ u W hcur hd
                        obtain ⟨⟨h13, -, -⟩, -⟩ := hd
                        dsimp only at h13
                        (try simp only [h13])
                        refine ⟨?_, ?_⟩
                        · (simp [Region.wanted, yielded, undef, *]; done)
                        go_simp <;> (try go_bits) <;> with_reducible rfl
                      · exact fun _ _ _ => rfl
                      · rfl
                    | apply RGW.off (i := 20) rfl
                      · (simp only [gA, gB, gC] <;> rfl)
                      · intro γ u W hcur hd
                        obtain ⟨⟨h13, -, -⟩, -⟩ := hd
                        dsimp only at h13
                        (try simp only [h13])
                        simp [Region.wanted, yielded, undef, *]
                      · rfl
                    dsimp only [nA, cA]
                    first
                    | apply RGW.on (i := 21) rfl
                      · (simp only [gA, gB, gC] <;> rfl)
                      · intro γ u W hcur hd
                        obtain ⟨⟨h13, -, -⟩, ⟨h19, -, -⟩, ⟨h20, -, -⟩, -⟩ := hd
                        dsimp only at h13 h19 h20
                        (try simp only [h13, h19, h20])
                        refine ⟨?_, ?_⟩
                        · (simp [Region.wanted, yielded, undef, *]; done)
                        go_simp <;> (try go_bits) <;> with_reducible rfl
                      · exact fun _ _ _ => rfl
                      · rfl
                    | apply RGW.off (i := 21) rfl
                      · (simp only [gA, gB, gC] <;> rfl)
                      · intro γ u W hcur hd
                        obtain ⟨⟨h13, -, -⟩, ⟨h19, -, -⟩, ⟨h20, -, -⟩, -⟩ := hd
                        dsimp only at h13 h19 h20
                        (try simp only [h13, h19, h20])
                        simp [Region.wanted, yielded, undef, *]
                      · rfl
                    dsimp only [nA, cA]
                    first
                    | apply RGW.on (i := 22) rfl
                      · (simp only [gA, gB, gC] <;> rfl)
                      · intro γ u W hcur hd
                        obtain ⟨⟨h13, -, -⟩, ⟨h21, -, -⟩, -⟩ := hd
                        dsimp only at h13 h21
                        (try simp only [h13, h21])
                        refine ⟨?_, ?_⟩
                        · (simp [Region.wanted, yielded, undef, *]; done)
                        go_simp <;> (try go_bits) <;> with_reducible rfl
                      · exact fun _ _ _ => rfl
                      · rfl
                    | apply RGW.off (i := 22) rfl
                      · (simp only [gA, gB, gC] <;> rfl)
                      · intro γ u W hcur hd
                        obtain ⟨⟨h13, -, -⟩, ⟨h21, -, -⟩, -⟩ := hd
                        dsimp only at h13 h21
                        (try simp only [h13, h21])
                        simp [Region.wanted, yielded, undef, *]
                      · rfl
                    dsimp only [nA, cA]
                    first
                    | apply RGW.on (i := 23) rfl
                      · (simp only [gA, gB, gC] <;> rfl)
                      · intro γ u W hcur hd
                        obtain ⟨⟨h13, -, -⟩, ⟨h22, -, -⟩, -⟩ := hd
                        dsimp only at h13 h22
                        (try simp only [h13, h22])
                        refine ⟨?_, ?_⟩
                        · (simp [Region.wanted, yielded, undef, *]; done)
                        go_simp <;> (try go_bits) <;> with_reducible rfl
                      · exact fun _ _ _ => rfl
                      · rfl
                    | apply RGW.off (i := 23) rfl
                      · (simp only [gA, gB, gC] <;> rfl)
                      · intro γ u W hcur hd
                        obtain ⟨⟨h13, -, -⟩, ⟨h22, -, -⟩, -⟩ := hd
                        dsimp only at h13 h22
                        (try simp only [h13, h22])
                        simp [Region.wanted, yielded, undef, *]
                      · rfl
                    dsimp only [nA, cA]
                    first
                    | apply RGW.on (i := 24) rfl
                      · (simp only [gA, gB, gC] <;> rfl)
                      · intro γ u W hcur hd
                        obtain ⟨⟨h13, -, -⟩, ⟨h18, -, -⟩, ⟨h23, -, -⟩, -⟩ := hd
                        dsimp only at h13 h18 h23
                        (try simp only [h13, h18, h23])
                        refine ⟨?_, ?_⟩
                        · (simp [Region.wanted, yielded, undef, *]; done)
                        go_simp <;> (try go_bits) <;> with_reducible rfl
                      · exact fun _ _ _ => rfl
                      · rfl
                    | apply RGW.off (i := 24) rfl
                      · (simp only [gA, gB, gC] <;> rfl)
                      · intro γ u W hcur hd
                        obtain ⟨⟨h13, -, -⟩, ⟨h18, -, -⟩, ⟨h23, -, -⟩, -⟩ := hd
                        dsimp only at h13 h18 h23
                        (try simp only [h13, h18, h23])
                        simp [Region.wanted, yielded, undef, *]
                      · rfl
                    dsimp only [nA, cA]
                    first
                    | apply RGW.on (i := 25) rfl
                      · (simp only [gA, gB, gC] <;> rfl)
                      · intro γ u W hcur hd
                        obtain ⟨⟨h1, -, -⟩, ⟨h13, -, -⟩, ⟨h24, -, -⟩, -⟩ := hd
                        dsimp only at h1 h13 h24
                        (try simp only [h1, h13, h24])
                        refine ⟨?_, ?_⟩
                        · (simp [Region.wanted, yielded, undef, *]; done)
                        go_simp <;> (try go_bits) <;> with_reducible rfl
                      · exact fun _ _ _ => rfl
                      · rfl
                    | apply RGW.off (i := 25) rfl
                      · (simp only [gA, gB, gC] <;> rfl)
                      · intro γ u W hcur hd
                        obtain ⟨⟨h1, -, -⟩, ⟨h13, -, -⟩, ⟨h24, -, -⟩, -⟩ := hd
                        dsimp only at h1 h13 h24
                        (try simp only [h1, h13, h24])
                        simp [Region.wanted, yielded, undef, *]
                      · rfl
                    dsimp only [nA, cA]
                    apply RGW.on (i := 26) rfl
                    · (simp only [gA, gB, gC] <;> rfl)
                    · intro γ u W hcur hd
                      obtain ⟨⟨h1, -, -⟩, ⟨h25, -, -⟩, -⟩ := hd
                      dsimp only at h1 h25
                      (try simp only [h1, h25])
                      refine ⟨rfl, ?_⟩
                      go_simp <;> (try go_bits) <;> with_reducible rfl
                    · exact fun _ _ _ => rfl
                    · rfl
                    dsimp only [nA, cA]
                    refine RGW.skip (i := 27) rfl rfl ?_
                    dsimp only [nA, cA]
                    refine RGW.fin (fun γ u wj hwj hd hdis => ?_)
                    obtain ⟨⟨h0, -, -⟩, ⟨h1, -, -⟩, ⟨h2, -, -⟩, ⟨h3, -, -⟩, ⟨h4, -, -⟩, ⟨h5, -, -⟩, ⟨h6, -, -⟩, ⟨h7, -, -⟩, ⟨h8, -, -⟩, ⟨h9, -, -⟩, ⟨h10, -, -⟩, ⟨h11, -, -⟩, ⟨h12, -, -⟩, ⟨h13, -, -⟩, ⟨h14, -, -⟩, ⟨h15, -, -⟩, ⟨h16, -, -⟩, ⟨h17, -, -⟩, ⟨h18, -, -⟩, ⟨h19, -, -⟩, ⟨h20, -, -⟩, ⟨h21, -, -⟩, ⟨h22, -, -⟩, ⟨h23, -, -⟩, ⟨h24, -, -⟩, ⟨h25, -, -⟩, ⟨h26, -, -⟩, -⟩ := hd
                    dsimp only at h0 h1 h2 h3 h4 h5 h6 h7 h8 h9 h10 h11 h12 h13 h14 h15 h16 h17 h18 h19 h20 h21 h22 h23 h24 h25 h26
                    clear hdis
                    simp only [h0, h1, h2, h3, h4, h5, h6, h7, h8, h9, h10, h11, h12, h13, h14, h15, h16, h17, h18, h19, h20, h21, h22, h23, h24, h25, h26]
                    clear h26 h25 h24 h23 h22 h21 h20 h19 h18 h17 h16 h15 h14 h13 h12 h11 h10 h9 h8 h7 h6 h5 h4 h3 h2 h1 h0
                    clear u
                    simp only [List.map_cons, List.map_nil]
                    apply PlanW.step
                    · (simp only [gA, gB, gC] <;> rfl)
                    · rfl
                    intro K hK
                    go_simp
                    refine hK.out _ _ (by with_reducible first | assumption | exact bx_refl _ _) (fun hcur => ?_)
                    clear hK K
                    try simp only [Act.put, List.setIfInBounds_toArray, List.set_cons_zero, List.set_cons_succ]
                    refine PlanW.done ?_
                    have hb3 := bl_tt hwj
                    go_wp2
                    go_roundw
                    case rel => exact ⟨k + 1, by omega, by go_num, by rw [hn.out], bl_tr hb4 hwj, hR6.out.below hwj, r8.out.below hwj⟩
                    case measure => simp [intOf] <;> omega
                · have hn := Lib.hid (show g (k + 1) = false by rw [hst.out]; simp [h1])
                  refine wp_any (w0 := wr) ⟨[27], [], [some 131, some 132, some 133, some 134, some 135, some 136, some 137, some 138, some 139, some 140, some 141, some 142, some 143, some 144, some 145, some 146, some 147, some 148, some 149, some 150, some 151, some 152, some 153, some 154, some 155, some 156, some 157, none], [[], [0], [0, 1], [0, 1], [0, 1, 2, 3], [0, 1, 2, 3, 4], [0, 1, 2, 3, 4, 5], [0, 1], [0, 1], [0, 1, 7, 8], [0, 1, 7, 8, 9], [0, 1, 7, 8, 9, 10], [0, 1, 2, 3, 4, 5, 6, 7, 8, 9, 10, 11], [0, 1, 2, 3, 4, 5, 6, 7, 8, 9, 10, 11, 12], [0, 1, 2, 3, 4, 5, 6, 7, 8, 9, 10, 11, 12, 13], [0, 1, 2, 3, 4, 5, 6, 7, 8, 9, 10, 11, 12, 13], [0, 1, 2, 3, 4, 5, 6, 7, 8, 9, 10, 11, 12, 13, 14, 15], [0, 1, 2, 3, 4, 5, 6, 7, 8, 9, 10, 11, 12, 13, 14, 15, 16], [0, 1, 2, 3, 4, 5, 6, 7, 8, 9, 10, 11, 12, 13, 14, 15, 16, 17], [0, 1, 2, 3, 4, 5, 6, 7, 8, 9, 10, 11, 12, 13], [0, 1, 2, 3, 4, 5, 6, 7, 8, 9, 10, 11, 12, 13], [0, 1, 2, 3, 4, 5, 6, 7, 8, 9, 10, 11, 12, 13, 19, 20], [0, 1, 2, 3, 4, 5, 6, 7, 8, 9, 10, 11, 12, 13, 19, 20, 21], [0, 1, 2, 3, 4, 5, 6, 7, 8, 9, 10, 11, 12, 13, 19, 20, 21, 22], [0, 1, 2, 3, 4, 5, 6, 7, 8, 9, 10, 11, 12, 13, 14, 15, 16, 17, 18, 19, 20, 21, 22, 23], [0, 1, 2, 3, 4, 5, 6, 7, 8, 9, 10, 11, 12, 13, 14, 15, 16, 17, 18, 19, 20, 21, 22, 23, 24], [0, 1, 2, 3, 4, 5, 6, 7, 8, 9, 10, 11, 12, 13, 14, 15, 16, 17, 18, 19, 20, 21, 22, 23, 24, 25], [0, 1, 2, 3, 4, 5, 6, 7, 8, 9, 10, 11, 12, 13, 14, 15, 16, 17, 18, 19, 20, 21, 22, 23, 24, 25, 26]], [[], [0], [1], [1], [1, 2, 3], [1, 4], [1, 5], [1], [1], [1, 7, 8], [1, 9], [1, 10], [1, 6, 11], [1, 12], [13], [13], [13, 14, 15], [13, 16], [13, 17], [13], [13], [13, 19, 20], [13, 21], [13, 22], [13, 18, 23], [1, 13, 24], [1, 25], []]⟩ (fun _ => []) (by kernel_rfl) (by kernel_rfl) (by (with_reducible (repeat' (first | assumption | apply jA | apply jB | apply jC | apply jD | apply jE | apply jF | apply hb3 | omega | (simp; done) | (simp; omega) | (dsimp only; omega))))) (fun u => by simp only [putD, Act.put, List.setIfInBounds_toArray, List.set_cons_zero, List.set_cons_succ, Nat.zero_add, Nat.reduceAdd]; rfl) ?_
                  apply RGW.on (i := 0) rfl
                  · (simp only [gA, gB, gC] <;> rfl)
                  · intro γ u W hcur hd
                    clear hd
                    (try dsimp only)
                    refine ⟨rfl, ?_⟩
                    go_simp <;> (try go_bits) <;> with_reducible rfl
                  · exact fun _ _ _ => rfl
                  · rfl
                  dsimp only [nA, cA]
                  apply RGW.on (i := 1) rfl
                  · (simp only [gA, gB, gC] <;> rfl)
                  · intro γ u W hcur hd
                    obtain ⟨⟨h0, -, -⟩, -⟩ := hd
                    dsimp only at h0
                    (try simp only [h0])
                    refine ⟨rfl, ?_⟩
                    go_simp <;> (try go_bits) <;> with_reducible rfl
                  · exact fun _ _ _ => rfl
                  · rfl
                  dsimp only [nA, cA]
                  first
                  | apply RGW.on (i := 2) rfl
                    · (simp only [gA, gB, gC] <;> rfl)
                    · intro γ u W hcur hd
                      obtain ⟨⟨h1, -, -⟩, -⟩ := hd
                      dsimp only at h1
                      (try simp only [h1])
                      refine ⟨?_, ?_⟩
                      · (simp [Region.wanted, yielded, undef, *]; done)
                      go_simp <;> (try go_bits) <;> with_reducible rfl
                    · exact fun _ _ _ => rfl
                    · rfl
                  | apply RGW.off (i := 2) rfl
                    · (simp only [gA, gB, gC] <;> rfl)
                    · intro γ u W hcur hd
                      obtain ⟨⟨h1, -, -⟩, -⟩ := hd
                      dsimp only at h1
                      (try simp only [h1])
                      simp [Region.wanted, yielded, undef, *]
                    · rfl
                  dsimp only [nA, cA]
                  first
                  | apply RGW.on (i := 3) rfl
                    · (simp only [gA, gB, gC] <;> rfl)
                    · intro γ u W hcur hd
                      obtain ⟨⟨h1, -, -⟩, -⟩ := hd
                      dsimp only at h1
                      (try simp only [h1])
                      refine ⟨?_, ?_⟩
                      · (simp [Region.wanted, yielded, undef, *]; done)
                      go_simp <;> (try go_bits) <;> with_reducible rfl
                    · exact fun _ _ _ => rfl
                    · rfl
                  | apply RGW.off (i := 3) rfl
                    · (simp only [gA, gB, gC] <;> rfl)
                    · intro γ u W hcur hd
                      obtain ⟨⟨h1, -, -⟩, -⟩ := hd
                      dsimp only at h1
                      (try simp only [h1])
                      simp [Region.wanted, yielded, undef, *]
                    · rfl
                  dsimp only [nA, cA]
                  first
                  | apply RGW.on (i := 4) rfl
                    · (simp only [gA, gB, gC] <;> rfl)
                    · intro γ u W hcur hd
                      obtain ⟨⟨h1, -, -⟩, ⟨h2, -, -⟩, ⟨h3, -, -⟩, -⟩ := hd
                      dsimp only at h1 h2 h3
                      (try simp only [h1, h2, h3])
                      refine ⟨?_, ?_⟩
                      · (simp [Region.wanted, yielded, undef, *]; done)
                      go_simp <;> (try go_bits) <;> with_reducible rfl
                    · exact fun _ _ _ => rfl
                    · rfl
                  | apply RGW.off (i := 4) rfl
                    · (simp only [gA, gB, gC] <;> rfl)
                    · intro γ u W hcur hd
                      obtain ⟨⟨h1, -, -⟩, ⟨h2, -, -⟩, ⟨h3, -, -⟩, -⟩ := hd
                      dsimp only at h1 h2 h3
                      (try simp only [h1, h2, h3])
                      simp [Region.wanted, yielded, undef, *]
                    · rfl
                  dsimp only [nA, cA]
                  first
                  | apply RGW.on (i := 5) rfl
                    · (simp only [gA, gB, gC] <;> rfl)
                    · intro γ u W hcur hd
                      obtain ⟨⟨h1, -, -⟩, ⟨h4, -, -⟩, -⟩ := hd
                      dsimp only at h1 h4
                      (try simp only [h1, h4])
                      refine ⟨?_, ?_⟩
                      · (simp [Region.wanted, yielded, undef, *]; done)
                      go_simp <;> (try go_bits) <;> with_reducible rfl
                    · exact fun _ _ _ => rfl
                    · rfl
                  | apply RGW.off (i := 5) rfl
                    · (simp only [gA, gB, gC] <;> rfl)
                    · intro γ u W hcur hd
                      obtain ⟨⟨h1, -, -⟩, ⟨h4, -, -⟩, -⟩ := hd
                      dsimp only at h1 h4
                      (try simp only [h1, h4])
                      simp [Region.wanted, yielded, undef, *]
                    · rfl
                  dsimp only [nA, cA]
                  first
                  | apply RGW.on (i := 6) rfl
                    · (simp only [gA, gB, gC] <;> rfl)
                    · intro γ u W hcur hd
                      obtain ⟨⟨h1, -, -⟩, ⟨h5, -, -⟩, -⟩ := hd
                      dsimp only at h1 h5
                      (try simp only [h1, h5])
                      refine ⟨?_, ?_⟩
                      · (simp [Region.wanted, yielded, undef, *]; done)
                      go_simp <;> (try go_bits) <;> with_reducible rfl
                    · exact fun _ _ _ => rfl
                    · rfl
                  | apply RGW.off (i := 6) rfl
                    · (simp only [gA, gB, gC] <;> rfl)
                    · intro γ u W hcur hd
                      obtain ⟨⟨h1, -, -⟩, ⟨h5, -, -⟩, -⟩ := hd
                      dsimp only at h1 h5
                      (try simp only [h1, h5])
                      simp [Region.wanted, yielded, undef, *]
                    · rfl
                  dsimp only [nA, cA]
                  first
                  | apply RGW.on (i := 7) rfl
                    · (simp only [gA, gB, gC] <;> rfl)
                    · intro γ u W hcur hd
                      obtain ⟨⟨h1, -, -⟩, -⟩ := hd
                      dsimp only at h1
                      (try simp only [h1])
                      refine ⟨?_, ?_⟩
                      · (simp [Region.wanted, yielded, undef, *]; done)
                      go_simp <;> (try go_bits) <;> with_reducible rfl
                    · exact fun _ _ _ => rfl
                    · rfl
                  | apply RGW.off (i := 7) rfl
                    · (simp only [gA, gB, gC] <;> rfl)
                    · intro γ u W hcur hd
                      obtain ⟨⟨h1, -, -⟩, -⟩ := hd
                      dsimp only at h1
                      (try simp only [h1])
                      simp [Region.wanted, yielded, undef, *]
                    · rfl
                  dsimp only [nA, cA]
                  first
                  | apply RGW.on (i := 8) rfl
                    · (simp only [gA, gB, gC] <;> rfl)
                    · intro γ u W hcur hd
                      obtain ⟨⟨h1, -, -⟩, -⟩ := hd
                      dsimp only at h1
                      (try simp only [h1])
                      refine ⟨?_, ?_⟩
                      · (simp [Region.wanted, yielded, undef, *]; done)
                      go_simp <;> (try go_bits) <;> with_reducible rfl
                    · exact fun _ _ _ => rfl
                    · rfl
                  | apply RGW.off (i := 8) rfl
                    · (simp only [gA, gB, gC] <;> rfl)
                    · intro γ u W hcur hd
                      obtain ⟨⟨h1, -, -⟩, -⟩ := hd
                      dsimp only at h1
                      (try simp only [h1])
                      simp [Region.wanted, yielded, undef, *]
                    · rfl
                  dsimp only [nA, cA]
                  first
                  | apply RGW.on (i := 9) rfl
                    · (simp only [gA, gB, gC] <;> rfl)
                    · intro γ u W hcur hd
                      obtain ⟨⟨h1, -, -⟩, ⟨h7, -, -⟩, ⟨h8, -, -⟩, -⟩ := hd
                      dsimp only at h1 h7 h8
                      (try simp only [h1, h7, h8])
                      refine ⟨?_, ?_⟩
                      · (simp [Region.wanted, yielded, undef, *]; done)
                      go_simp <;> (try go_bits) <;> with_reducible rfl
                    · exact fun _ _ _ => rfl
                    · rfl
                  | apply RGW.off (i := 9) rfl
                    · (simp only [gA, gB, gC] <;> rfl)
                    · intro γ u W hcur hd
                      obtain ⟨⟨h1, -, -⟩, ⟨h7, -, -⟩, ⟨h8, -, -⟩, -⟩ := hd
                      dsimp only at h1 h7 h8
                      (try simp only [h1, h7, h8])
                      simp [Region.wanted, yielded, undef, *]
                    · rfl
                  dsimp only [nA, cA]
                  first
                  | apply RGW.on (i := 10) rfl
                    · (simp only [gA, gB, gC] <;> rfl)
                    · intro γ u W hcur hd
                      obtain ⟨⟨h1, -, -⟩, ⟨h9, -, -⟩, -⟩ := hd
                      dsimp only at h1 h9
                      (try simp only [h1, h9])
                      refine ⟨?_, ?_⟩
                      · (simp [Region.wanted, yielded, undef, *]; done)
                      go_simp <;> (try go_bits) <;> with_reducible rfl
                    · exact fun _ _ _ => rfl
                    · rfl
                  | apply RGW.off (i := 10) rfl
                    · (simp only [gA, gB, gC] <;> rfl)
                    · intro γ u W hcur hd
                      obtain ⟨⟨h1, -, -⟩, ⟨h9, -, -⟩, -⟩ := hd
                      dsimp only at h1 h9
                      (try simp only [h1, h9])
                      simp [Region.wanted, yielded, undef, *]
                    · rfl
                  dsimp only [nA, cA]
                  first
                  | apply RGW.on (i := 11) rfl
                    · (simp only [gA, gB, gC] <;> rfl)
                    · intro γ u W hcur hd
                      obtain ⟨⟨h1, -, -⟩, ⟨h10, -, -⟩, -⟩ := hd
                      dsimp only at h1 h10
                      (try simp only [h1, h10])
                      refine ⟨?_, ?_⟩
                      · (simp [Region.wanted, yielded, undef, *]; done)
                      go_simp <;> (try go_bits) <;> with_reducible rfl
                    · exact fun _ _ _ => rfl
                    · rfl
                  | apply RGW.off (i := 11) rfl
                    · (simp only [gA, gB, gC] <;> rfl)
                    · intro γ u W hcur hd
                      obtain ⟨⟨h1, -, -⟩, ⟨h10, -, -⟩, -⟩ := hd
                      dsimp only at h1 h10
                      (try simp only [h1, h10])
                      simp [Region.wanted, yielded, undef, *]
                    · rfl
                  dsimp only [nA, cA]
                  first
                  | apply RGW.on (i := 12) rfl
                    · (simp only [gA, gB, gC] <;> rfl)
                    · intro γ u W hcur hd
                      obtain ⟨⟨h1, -, -⟩, ⟨h6, -, -⟩, ⟨h11, -, -⟩, -⟩ := hd
                      dsimp only at h1 h6 h11
                      (try simp only [h1, h6, h11])
                      refine ⟨?_, ?_⟩
                      · (simp [Region.wanted, yielded, undef, *]; done)
                      go_simp <;> (try go_bits) <;> with_reducible rfl
                    · exact fun _ _ _ => rfl
                    · rfl
                  | apply RGW.off (i := 12) rfl
                    · (simp only [gA, gB, gC] <;> rfl)
                    · intro γ u W hcur hd
                      obtain ⟨⟨h1, -, -⟩, ⟨h6, -, -⟩, ⟨h11, -, -⟩, -⟩ := hd
                      dsimp only at h1 h6 h11
                      (try simp only [h1, h6, h11])
                      simp [Region.wanted, yielded, undef, *]
                    · rfl
                  dsimp only [nA, cA]
                  first
                  | apply RGW.on (i := 13) rfl
                    · (simp only [gA, gB, gC] <;> rfl)
                    · intro γ u W hcur hd
                      obtain ⟨⟨h1, -, -⟩, ⟨h12, -, -⟩, -⟩ := hd
                      dsimp only at h1 h12
                      (try simp only [h1, h12])
                      refine ⟨?_, ?_⟩
                      · (simp [Region.wanted, yielded, undef, *]; done)
                      go_simp <;> (try go_bits) <;> with_reducible rfl
                    · exact fun _ _ _ => rfl
                    · rfl
                  | apply RGW.off (i := 13) rfl
                    · (simp only [gA, gB, gC] <;> rfl)
                    · intro γ u W hcur hd
                      obtain ⟨⟨h1, -, -⟩, ⟨h12, -, -⟩, -⟩ := hd
                      dsimp only at h1 h12
                      (try simp only [h1, h12])
                      simp [Region.wanted, yielded, undef, *]
                    · rfl
                  dsimp only [nA, cA]
                  first
                  | apply RGW.on (i := 14) rfl
                    · (simp only [gA, gB, gC] <;> rfl)
                    · intro γ u W hcur hd
                      obtain ⟨⟨h13, -, -⟩, -⟩ := hd
                      dsimp only at h13
                      (try simp only [h13])
                      refine ⟨?_, ?_⟩
                      · (simp [Region.wanted, yielded, undef, *]; done)
                      go_simp <;> (try go_bits) <;> with_reducible rfl
                    · exact fun _ _ _ => rfl
                    · rfl
                  | apply RGW.off (i := 14) rfl
                    · (simp only [gA, gB, gC] <;> rfl)
                    · intro γ u W hcur hd
                      obtain ⟨⟨h13, -, -⟩, -⟩ := hd
                      dsimp only at h13
                      (try simp only [h13])
                      simp [Region.wanted, yielded, undef, *]
                    · rfl
                  dsimp only [nA, cA]
                  first
                  | apply RGW.on (i := 15) rfl
                    · (simp only [gA, gB, gC] <;> rfl)
                    · intro γ u W hcur hd
                      obtain ⟨⟨h13, -, -⟩, -⟩ := hd
                      dsimp only at h13
                      (try simp only [h13])
                      refine ⟨?_, ?_⟩
                      · (simp [Region.wanted, yielded, undef, *]; done)
                      go_simp <;> (try go_bits) <;> with_reducible rfl
                    · exact fun _ _ _ => rfl
                    · rfl
                  | apply RGW.off (i := 15) rfl
                    · (simp only [gA, gB, gC] <;> rfl)
                    · intro γ u W hcur hd
                      obtain ⟨⟨h13, -, -⟩, -⟩ := hd
                      dsimp only at h13
                      (try simp only [h13])
                      simp [Region.wanted, yielded, undef, *]
                    · rfl
                  dsimp only [nA, cA]
                  first
                  | apply RGW.on (i := 16) rfl
                    · (simp only [gA, gB, gC] <;> rfl)
                    · intro γ u W hcur hd
                      obtain ⟨⟨h13, -, -⟩, ⟨h14, -, -⟩, ⟨h15, -, -⟩, -⟩ := hd
                      dsimp only at h13 h14 h15
                      (try simp only [h13, h14, h15])
                      refine ⟨?_, ?_⟩
                      · (simp [Region.wanted, yielded, undef, *]; done)
                      go_simp <;> (try go_bits) <;> with_reducible rfl
                    · exact fun _ _ _ => rfl
                    · rfl
                  | apply RGW.off (i := 16) rfl
                    · (simp only [gA, gB, gC] <;> rfl)
                    · intro γ u W hcur hd
                      obtain ⟨⟨h13, -, -⟩, ⟨h14, -, -⟩, ⟨h15, -, -⟩, -⟩ := hd
                      dsimp only at h13 h14 h15
                      (try simp only [h13, h14, h15])
                      simp [Region.wanted, yielded, undef, *]
                    · rfl
                  dsimp only [nA, cA]
                  first
                  | apply RGW.on (i := 17) rfl
                    · (simp only [gA, gB, gC] <;> rfl)
                    · intro γ u W hcur hd
                      obtain ⟨⟨h13, -, -⟩, ⟨h16, -, -⟩, -⟩ := hd
                      dsimp only at h13 h16
                      (try simp only [h13, h16])
                      refine ⟨?_, ?_⟩
                      · (simp [Region.wanted, yielded, undef, *]; done)
                      go_simp <;> (try go_bits) <;> with_reducible rfl
                    · exact fun _ _ _ => rfl
                    · rfl
                  | apply RGW.off (i := 17) rfl
                    · (simp only [gA, gB, gC] <;> rfl)
                    · intro γ u W hcur hd
                      obtain ⟨⟨h13, -, -⟩, ⟨h16, -, -⟩, -⟩ := hd
                      dsimp only at h13 h16
                      (try simp only [h13, h16])
                      simp [Region.wanted, yielded, undef, *]
                    · rfl
                  dsimp only [nA, cA]
                  first
                  | apply RGW.on (i := 18) rfl
                    · (simp only [gA, gB, gC] <;> rfl)
                    · intro γ u W hcur hd
                      obtain ⟨⟨h13, -, -⟩, ⟨h17, -, -⟩, -⟩ := hd
                      dsimp only at h13 h17
                      (try simp only [h13, h17])
                      refine ⟨?_, ?_⟩
                      · (simp [Region.wanted, yielded, undef, *]; done)
                      go_simp <;> (try go_bits) <;> with_reducible rfl
                    · exact fun _ _ _ => rfl
                    · rfl
                  | apply RGW.off (i := 18) rfl
                    · (simp only [gA, gB, gC] <;> rfl)
                    · intro γ u W hcur hd
                      obtain ⟨⟨h13, -, -⟩, ⟨h17, -, -⟩, -⟩ := hd
                      dsimp only at h13 h17
                      (try simp only [h13, h17])
                      simp [Region.wanted, yielded, undef, *]
                    · rfl
                  dsimp only [nA, cA]
                  first
                  | apply RGW.on (i := 19) rfl
                    · (simp only [gA, gB, gC] <;> rfl)
                    · intro γ u W hcur hd
                      obtain ⟨⟨h13, -, -⟩, -⟩ := hd
                      dsimp only at h13
                      (try simp only [h13])
                      refine ⟨?_, ?_⟩
                      · (simp [Region.wanted, yielded, undef, *]; done)
                      go_simp <;> (try go_bits) <;> with_reducible rfl
                    · exact fun _ _ _ => rfl
                    · rfl
                  | apply RGW.off (i := 19) rfl
                    · (simp only [gA, gB, gC] <;> rfl)
                    · intro γ u W hcur hd
                      obtain ⟨⟨h13, -, -⟩, -⟩ := hd
                      dsimp only at h13
                      (try simp only [h13])
                      simp [Region.wanted, yielded, undef, *]
                    · rfl
                  dsimp only [nA, cA]
                  first
                  | apply RGW.on (i := 20) rfl
                    · (simp only [gA, gB, gC] <;> rfl)
                    · intro γ u W hcur hd
                      obtain ⟨⟨h13, -, -⟩, -⟩ := hd
                      dsimp only at h13
                      (try simp only [h13])
                      refine ⟨?_, ?_⟩
                      · (simp [Region.wanted, yielded, undef, *]; done)
                      go_simp <;> (try go_bits) <;> with_reducible rfl
                    · exact fun _ _ _ => rfl
                    · rfl
                  | apply RGW.off (i := 20) rfl
                    · (simp only [gA, gB, gC] <;> rfl)
                    · intro γ u W hcur hd
                      obtain ⟨⟨h13, -, -⟩, -⟩ := hd
                      dsimp only at h13
                      (try simp only [h13])
                      simp [Region.wanted, yielded, undef, *]
                    · rfl
                  dsimp only [nA, cA]
                  first
                  | apply RGW.on (i := 21) rfl
                    · (simp only [gA, gB, gC] <;> rfl)
                    · intro γ u W hcur hd
                      obtain ⟨⟨h13, -, -⟩, ⟨h19, -, -⟩, ⟨h20, -, -⟩, -⟩ := hd
                      dsimp only at h13 h19 h20
                      (try simp only [h13, h19, h20])
                      refine ⟨?_, ?_⟩
                      · (simp [Region.wanted, yielded, undef, *]; done)
                      go_simp <;> (try go_bits) <;> with_reducible rfl
                    · exact fun _ _ _ => rfl
                    · rfl
                  | apply RGW.off (i := 21) rfl
                    · (simp only [gA, gB, gC] <;> rfl)
                    · intro γ u W hcur hd
                      obtain ⟨⟨h13, -, -⟩, ⟨h19, -, -⟩, ⟨h20, -, -⟩, -⟩ := hd
                      dsimp only at h13 h19 h20
                      (try simp only [h13, h19, h20])
                      simp [Region.wanted, yielded, undef, *]
                    · rfl
                  dsimp only [nA, cA]
                  first
                  | apply RGW.on (i := 22) rfl
                    · (simp only [gA, gB, gC] <;> rfl)
                    · intro γ u W hcur hd
                      obtain ⟨⟨h13, -, -⟩, ⟨h21, -, -⟩, -⟩ := hd
                      dsimp only at h13 h21
                      (try simp only [h13, h21])
                      refine ⟨?_, ?_⟩
                      · (simp [Region.wanted, yielded, undef, *]; done)
                      go_simp <;> (try go_bits) <;> with_reducible rfl
                    · exact fun _ _ _ => rfl
                    · rfl
                  | apply RGW.off (i := 22) rfl
                    · (simp only [gA, gB, gC] <;> rfl)
                    · intro γ u W hcur hd
                      obtain ⟨⟨h13, -, -⟩, ⟨h21, -, -⟩, -⟩ := hd
                      dsimp only at h13 h21
                      (try simp only [h13, h21])
                      simp [Region.wanted, yielded, undef, *]
                    · rfl
                  dsimp only [nA, cA]
                  first
                  | apply RGW.on (i := 23) rfl
                    · (simp only [gA, gB, gC] <;> rfl)
                    · intro γ u W hcur hd
                      obtain ⟨⟨h13, -, -⟩, ⟨h22, -, -⟩, -⟩ := hd
                      dsimp only at h13 h22
                      (try simp only [h13, h22])
                      refine ⟨?_, ?_⟩
                      · (simp [Region.wanted, yielded, undef, *]; done)
                      go_simp <;> (try go_bits) <;> with_reducible rfl
                    · exact fun _ _ _ => rfl
                    · rfl
                  | apply RGW.off (i := 23) rfl
                    · (simp only [gA, gB, gC] <;> rfl)
                    · intro γ u W hcur hd
                      obtain ⟨⟨h13, -, -⟩, ⟨h22, -, -⟩, -⟩ := hd
                      dsimp only at h13 h22
                      (try simp only [h13, h22])
                      simp [Region.wanted, yielded, undef, *]
                    · rfl
                  dsimp only [nA, cA]
                  first
                  | apply RGW.on (i := 24) rfl
                    · (simp only [gA, gB, gC] <;> rfl)
                    · intro γ u W hcur hd
                      obtain ⟨⟨h13, -, -⟩, ⟨h18, -, -⟩, ⟨h23, -, -⟩, -⟩ := hd
                      dsimp only at h13 h18 h23
                      (try simp only [h13, h18, h23])
                      refine ⟨?_, ?_⟩
                      · (simp [Region.wanted, yielded, undef, *]; done)
                      go_simp <;> (try go_bits) <;> with_reducible rfl
                    · exact fun _ _ _ => rfl
                    · rfl
                  | apply RGW.off (i := 24) rfl
                    · (simp only [gA, gB, gC] <;> rfl)
                    · intro γ u W hcur hd
                      obtain ⟨⟨h13, -, -⟩, ⟨h18, -, -⟩, ⟨h23, -, -⟩, -⟩ := hd
                      dsimp only at h13 h18 h23
                      (try simp only [h13, h18, h23])
                      simp [Region.wanted, yielded, undef, *]
                    · rfl
                  dsimp only [nA, cA]
                  first
                  | apply RGW.on (i := 25) rfl
                    · (simp only [gA, gB, gC] <;> rfl)
                    · intro γ u W hcur hd
                      obtain ⟨⟨h1, -, -⟩, ⟨h13, -, -⟩, ⟨h24, -, -⟩, -⟩ := hd
                      dsimp only at h1 h13 h24
                      (try simp only [h1, h13, h24])
                      refine ⟨?_, ?_⟩
                      · (simp [Region.wanted, yielded, undef, *]; done)
                      go_simp <;> (try go_bits) <;> with_reducible rfl
                    · exact fun _ _ _ => rfl
                    · rfl
                  | apply RGW.off (i := 25) rfl
                    · (simp only [gA, gB, gC] <;> rfl)
                    · intro γ u W hcur hd
                      obtain ⟨⟨h1, -, -⟩, ⟨h13, -, -⟩, ⟨h24, -, -⟩, -⟩ := hd
                      dsimp only at h1 h13 h24
                      (try simp only [h1, h13, h24])
                      simp [Region.wanted, yielded, undef, *]
                    · rfl
                  dsimp only [nA, cA]
                  apply RGW.on (i := 26) rfl
                  · (simp only [gA, gB, gC] <;> rfl)
                  · intro γ u W hcur hd
                    obtain ⟨⟨h1, -, -⟩, ⟨h25, -, -⟩, -⟩ := hd
                    dsimp only at h1 h25
                    (try simp only [h1, h25])
                    refine ⟨rfl, ?_⟩
                    go_simp <;> (try go_bits) <;> with_reducible rfl
                  · exact fun _ _ _ => rfl
                  · rfl
                  dsimp only [nA, cA]
                  refine RGW.skip (i := 27) rfl rfl ?_
                  dsimp only [nA, cA]
                  refine RGW.fin (fun γ u wj hwj hd hdis => ?_)
                  obtain ⟨⟨h0, -, -⟩, ⟨h1, -, -⟩, ⟨h2, -, -⟩, ⟨h3, -, -⟩, ⟨h4, -, -⟩, ⟨h5, -, -⟩, ⟨h6, -, -⟩, ⟨h7, -, -⟩, ⟨h8, -, -⟩, ⟨h9, -, -⟩, ⟨h10, -, -⟩, ⟨h11, -, -⟩, ⟨h12, -, -⟩, ⟨h13, -, -⟩, ⟨h14, -, -⟩, ⟨h15, -, -⟩, ⟨h16, -, -⟩, ⟨h17, -, -⟩, ⟨h18, -, -⟩, ⟨h19, -, -⟩, ⟨h20, -, -⟩, ⟨h21, -, -⟩, ⟨h22, -, -⟩, ⟨h23, -, -⟩, ⟨h24, -, -⟩, ⟨h25, -, -⟩, ⟨h26, -, -⟩, -⟩ := hd
                  dsimp only at h0 h1 h2 h3 h4 h5 h6 h7 h8 h9 h10 h11 h12 h13 h14 h15 h16 h17 h18 h19 h20 h21 h22 h23 h24 h25 h26
                  clear hdis
                  simp only [h0, h1, h2, h3, h4, h5, h6, h7, h8, h9, h10, h11, h12, h13, h14, h15, h16, h17, h18, h19, h20, h21, h22, h23, h24, h25, h26]
                  clear h26 h25 h24 h23 h22 h21 h20 h19 h18 h17 h16 h15 h14 h13 h12 h11 h10 h9 h8 h7 h6 h5 h4 h3 h2 h1 h0
                  clear u
                  simp only [List.map_cons, List.map_nil]
                  apply PlanW.step
                  · (simp only [gA, gB, gC] <;> rfl)
                  · rfl
                  intro K hK
                  go_simp
                  refine hK.out _ _ (by with_reducible first | assumption | exact bx_refl _ _) (fun hcur => ?_)
                  clear hK K
                  try simp only [Act.put, List.setIfInBounds_toArray, List.set_cons_zero, List.set_cons_succ]
                  refine PlanW.done ?_
                  have hb3 := bl_tt hwj
                  go_wp2
                  go_roundw
                  case rel => exact ⟨k + 1, by omega, by go_num, by rw [hn.out], bl_tr hb4 hwj, hR6.out.below hwj, r8.out.below hwj⟩
                  case measure => simp [intOf] <;> omega
              · have hn := Lib.hid (show g (k + 1) = true by rw [hst.out]; simp)
                refine wp_any (w0 := wr) ⟨[27], [], [some 131, some 132, some 133, some 134, some 135, some 136, some 137, some 138, some 139, some 140, some 141, some 142, some 143, some 144, some 145, some 146, some 147, some 148, some 149, some 150, some 151, some 152, some 153, some 154, some 155, some 156, some 157, none], [[], [0], [0, 1], [0, 1], [0, 1, 2, 3], [0, 1, 2, 3, 4], [0, 1, 2, 3, 4, 5], [0, 1], [0, 1], [0, 1, 7, 8], [0, 1, 7, 8, 9], [0, 1, 7, 8, 9, 10], [0, 1, 2, 3, 4, 5, 6, 7, 8, 9, 10, 11], [0, 1, 2, 3, 4, 5, 6, 7, 8, 9, 10, 11, 12], [0, 1, 2, 3, 4, 5, 6, 7, 8, 9, 10, 11, 12, 13], [0, 1, 2, 3, 4, 5, 6, 7, 8, 9, 10, 11, 12, 13], [0, 1, 2, 3, 4, 5, 6, 7, 8, 9, 10, 11, 12, 13, 14, 15], [0, 1, 2, 3, 4, 5, 6, 7, 8, 9, 10, 11, 12, 13, 14, 15, 16], [0, 1, 2, 3, 4, 5, 6, 7, 8, 9, 10, 11, 12, 13, 14, 15, 16, 17], [0, 1, 2, 3, 4, 5, 6, 7, 8, 9, 10, 11, 12, 13], [0, 1, 2, 3, 4, 5, 6, 7, 8, 9, 10, 11, 12, 13], [0, 1, 2, 3, 4, 5, 6, 7, 8, 9, 10, 11, 12, 13, 19, 20], [0, 1, 2, 3, 4, 5, 6, 7, 8, 9, 10, 11, 12, 13, 19, 20, 21], [0, 1, 2, 3, 4, 5, 6, 7, 8, 9, 10, 11, 12, 13, 19, 20, 21, 22], [0, 1, 2, 3, 4, 5, 6, 7, 8, 9, 10, 11, 12, 13, 14, 15, 16, 17, 18, 19, 20, 21, 22, 23], [0, 1, 2, 3, 4, 5, 6, 7, 8, 9, 10, 11, 12, 13, 14, 15, 16, 17, 18, 19, 20, 21, 22, 23, 24], [0, 1, 2, 3, 4, 5, 6, 7, 8, 9, 10, 11, 12, 13, 14, 15, 16, 17, 18, 19, 20, 21, 22, 23, 24, 25], [0, 1, 2, 3, 4, 5, 6, 7, 8, 9, 10, 11, 12, 13, 14, 15, 16, 17, 18, 19, 20, 21, 22, 23, 24, 25, 26]], [[], [0], [1], [1], [1, 2, 3], [1, 4], [1, 5], [1], [1], [1, 7, 8], [1, 9], [1, 10], [1, 6, 11], [1, 12], [13], [13], [13, 14, 15], [13, 16], [13, 17], [13], [13], [13, 19, 20], [13, 21], [13, 22], [13, 18, 23], [1, 13, 24], [1, 25], []]⟩ (fun _ => []) (by kernel_rfl) (by kernel_rfl) (by (with_reducible (repeat' (first | assumption | apply jA | apply jB | apply jC | apply jD | apply jE | apply jF | apply hb3 | omega | (simp; done) | (simp; omega) | (dsimp only; omega))))) (fun u => by simp only [putD, Act.put, List.setIfInBounds_toArray, List.set_cons_zero, List.set_cons_succ, Nat.zero_add, Nat.reduceAdd]; rfl) ?_
                apply RGW.on (i := 0) rfl
                · (simp only [gA, gB, gC] <;> rfl)
                · intro γ u W hcur hd
                  clear hd
                  (try dsimp only)
                  refine ⟨rfl, ?_⟩
                  go_simp <;> (try go_bits) <;> with_reducible rfl
                · exact fun _ _ _ => rfl
                · rfl
                dsimp only [nA, cA]
                apply RGW.on (i := 1) rfl
                · (simp only [gA, gB, gC] <;> rfl)
                · intro γ u W hcur hd
                  obtain ⟨⟨h0, -, -⟩, -⟩ := hd
                  dsimp only at h0
                  (try simp only [h0])
                  refine ⟨rfl, ?_⟩
                  go_simp <;> (try go_bits) <;> with_reducible rfl
                · exact fun _ _ _ => rfl
                · rfl
                dsimp only [nA, cA]
                first
                | apply RGW.on (i := 2) rfl
                  · (simp only [gA, gB, gC] <;> rfl)
                  · intro γ u W hcur hd
                    obtain ⟨⟨h1, -, -⟩, -⟩ := hd
                    dsimp only at h1
                    (try simp only [h1])
                    refine ⟨?_, ?_⟩
                    · (simp [Region.wanted, yielded, undef, *]; done)
                    go_simp <;> (try go_bits) <;> with_reducible rfl
                  · exact fun _ _ _ => rfl
                  · rfl
                | apply RGW.off (i := 2) rfl
                  · (simp only [gA, gB, gC] <;> rfl)
                  · intro γ u W hcur hd
                    obtain ⟨⟨h1, -, -⟩, -⟩ := hd
                    dsimp only at h1
                    (try simp only [h1])
                    simp [Region.wanted, yielded, undef, *]
                  · rfl
                dsimp only [nA, cA]
                first
                | apply RGW.on (i := 3) rfl
                  · (simp only [gA, gB, gC] <;> rfl)
                  · intro γ u W hcur hd
                    obtain ⟨⟨h1, -, -⟩, -⟩ := hd
                    dsimp only at h1
                    (try simp only [h1])
                    refine ⟨?_, ?_⟩
                    · (simp [Region.wanted, yielded, undef, *]; done)
                    go_simp <;> (try go_bits) <;> with_reducible rfl
                  · exact fun _ _ _ => rfl
                  · rfl
                | apply RGW.off (i := 3) rfl
                  · (simp only [gA, gB, gC] <;> rfl)
                  · intro γ u W hcur hd
                    obtain ⟨⟨h1, -, -⟩, -⟩ := hd
                    dsimp only at h1
                    (try simp only [h1])
                    simp [Region.wanted, yielded, undef, *]
                  · rfl
                dsimp only [nA, cA]
                first
                | apply RGW.on (i := 4) rfl
                  · (simp only [gA, gB, gC] <;> rfl)
                  · intro γ u W hcur hd
                    obtain ⟨⟨h1, -, -⟩, ⟨h2, -, -⟩, ⟨h3, -, -⟩, -⟩ := hd
                    dsimp only at h1 h2 h3
                    (try simp only [h1, h2, h3])
                    refine ⟨?_, ?_⟩
                    · (simp [Region.wanted, yielded, undef, *]; done)
                    go_simp <;> (try go_bits) <;> with_reducible rfl
                  · exact fun _ _ _ => rfl
                  · rfl
                | apply RGW.off (i := 4) rfl
                  · (simp only [gA, gB, gC] <;> rfl)
                  · intro γ u W hcur hd
                    obtain ⟨⟨h1, -, -⟩, ⟨h2, -, -⟩, ⟨h3, -, -⟩, -⟩ := hd
                    dsimp only at h1 h2 h3
                    (try simp only [h1, h2, h3])
                    simp [Region.wanted, yielded, undef, *]
                  · rfl
                dsimp only [nA, cA]
                first
                | apply RGW.on (i := 5) rfl
                  · (simp only [gA, gB, gC] <;> rfl)
                  · intro γ u W hcur hd
                    obtain ⟨⟨h1, -, -⟩, ⟨h4, -, -⟩, -⟩ := hd
                    dsimp only at h1 h4
                    (try simp only [h1, h4])
                    refine ⟨?_, ?_⟩
                    · (simp [Region.wanted, yielded, undef, *]; done)
                    go_simp <;> (try go_bits) <;> with_reducible rfl
                  · exact fun _ _ _ => rfl
                  · rfl
                | apply RGW.off (i := 5) rfl
                  · (simp only [gA, gB, gC] <;> rfl)
                  · intro γ u W hcur hd
                    obtain ⟨⟨h1, -, -⟩, ⟨h4, -, -⟩, -⟩ := hd
                    dsimp only at h1 h4
                    (try simp only [h1, h4])
                    simp [Region.wanted, yielded, undef, *]
                  · rfl
                dsimp only [nA, cA]
                first
                | apply RGW.on (i := 6) rfl
                  · (simp only [gA, gB, gC] <;> rfl)
                  · intro γ u W hcur hd
                    obtain ⟨⟨h1, -, -⟩, ⟨h5, -, -⟩, -⟩ := hd
                    dsimp only at h1 h5
                    (try simp only [h1, h5])
                    refine ⟨?_, ?_⟩
                    · (simp [Region.wanted, yielded, undef, *]; done)
                    go_simp <;> (try go_bits) <;> with_reducible rfl
                  · exact fun _ _ _ => rfl
                  · rfl
                | apply RGW.off (i := 6) rfl
                  · (simp only [gA, gB, gC] <;> rfl)
                  · intro γ u W hcur hd
                    obtain ⟨⟨h1, -, -⟩, ⟨h5, -, -⟩, -⟩ := hd
                    dsimp only at h1 h5
                    (try simp only [h1, h5])
                    simp [Region.wanted, yielded, undef, *]
                  · rfl
                dsimp only [nA, cA]
                first
                | apply RGW.on (i := 7) rfl
                  · (simp only [gA, gB, gC] <;> rfl)
                  · intro γ u W hcur hd
                    obtain ⟨⟨h1, -, -⟩, -⟩ := hd
                    dsimp only at h1
                    (try simp only [h1])
                    refine ⟨?_, ?_⟩
                    · (simp [Region.wanted, yielded, undef, *]; done)
                    go_simp <;> (try go_bits) <;> with_reducible rfl
                  · exact fun _ _ _ => rfl
                  · rfl
                | apply RGW.off (i := 7) rfl
                  · (simp only [gA, gB, gC] <;> rfl)
                  · intro γ u W hcur hd
                    obtain ⟨⟨h1, -, -⟩, -⟩ := hd
                    dsimp only at h1
                    (try simp only [h1])
                    simp [Region.wanted, yielded, undef, *]
                  · rfl
                dsimp only [nA, cA]
                first
                | apply RGW.on (i := 8) rfl
                  · (simp only [gA, gB, gC] <;> rfl)
                  · intro γ u W hcur hd
                    obtain ⟨⟨h1, -, -⟩, -⟩ := hd
                    dsimp only at h1
                    (try simp only [h1])
                    refine ⟨?_, ?_⟩
                    · (simp [Region.wanted, yielded, undef, *]; done)
                    go_simp <;> (try go_bits) <;> with_reducible rfl
                  · exact fun _ _ _ => rfl
                  · rfl
                | apply RGW.off (i := 8) rfl
                  · (simp only [gA, gB, gC] <;> rfl)
                  · intro γ u W hcur hd
                    obtain ⟨⟨h1, -, -⟩, -⟩ := hd
                    dsimp only at h1
                    (try simp only [h1])
                    simp [Region.wanted, yielded, undef, *]
                  · rfl
                dsimp only [nA, cA]
                first
                | apply RGW.on (i := 9) rfl
                  · (simp only [gA, gB, gC] <;> rfl)
                  · intro γ u W hcur hd
                    obtain ⟨⟨h1, -, -⟩, ⟨h7, -, -⟩, ⟨h8, -, -⟩, -⟩ := hd
                    dsimp only at h1 h7 h8
                    (try simp only [h1, h7, h8])
                    refine ⟨?_, ?_⟩
                    · (simp [Region.wanted, yielded, undef, *]; done)
                    go_simp <;> (try go_bits) <;> with_reducible rfl
                  · exact fun _ _ _ => rfl
                  · rfl
                | apply RGW.off (i := 9) rfl
                  · (simp only [gA, gB, gC] <;> rfl)
                  · intro γ u W hcur hd
                    obtain ⟨⟨h1, -, -⟩, ⟨h7, -, -⟩, ⟨h8, -, -⟩, -⟩ := hd
                    dsimp only at h1 h7 h8
                    (try simp only [h1, h7, h8])
                    simp [Region.wanted, yielded, undef, *]
                  · rfl
                dsimp only [nA, cA]
                first
                | apply RGW.on (i := 10) rfl
                  · (simp only [gA, gB, gC] <;> rfl)
                  · intro γ u W hcur hd
                    obtain ⟨⟨h1, -, -⟩, ⟨h9, -, -⟩, -⟩ := hd
                    dsimp only at h1 h9
                    (try simp only [h1, h9])
                    refine ⟨?_, ?_⟩
                    · (simp [Region.wanted, yielded, undef, *]; done)
                    go_simp <;> (try go_bits) <;> with_reducible rfl
                  · exact fun _ _ _ => rfl
                  · rfl
                | apply RGW.off (i := 10) rfl
                  · (simp only [gA, gB, gC] <;> rfl)
                  · intro γ u W hcur hd
                    obtain ⟨⟨h1, -, -⟩, ⟨h9, -, -⟩, -⟩ := hd
                    dsimp only at h1 h9
                    (try simp only [h1, h9])
                    simp [Region.wanted, yielded, undef, *]
                  · rfl
                dsimp only [nA, cA]
                first
                | apply RGW.on (i := 11) rfl
                  · (simp only [gA, gB, gC] <;> rfl)
                  · intro γ u W hcur hd
                    obtain ⟨⟨h1, -, -⟩, ⟨h10, -, -⟩, -⟩ := hd
                    dsimp only at h1 h10
                    (try simp only [h1, h10])
                    refine ⟨?_, ?_⟩
                    · (simp [Region.wanted, yielded, undef, *]; done)
                    go_simp <;> (try go_bits) <;> with_reducible rfl
                  · exact fun _ _ _ => rfl
                  · rfl
                | apply RGW.off (i := 11) rfl
                  · (simp only [gA, gB, gC] <;> rfl)
                  · intro γ u W hcur hd
                    obtain ⟨⟨h1, -, -⟩, ⟨h10, -, -⟩, -⟩ := hd
                    dsimp only at h1 h10
                    (try simp only [h1, h10])
                    simp [Region.wanted, yielded, undef, *]
                  · rfl
                dsimp only [nA, cA]
                first
                | apply RGW.on (i := 12) rfl
                  · (simp only [gA, gB, gC] <;> rfl)
                  · intro γ u W hcur hd
                    obtain ⟨⟨h1, -, -⟩, ⟨h6, -, -⟩, ⟨h11, -, -⟩, -⟩ := hd
                    dsimp only at h1 h6 h11
                    (try simp only [h1, h6, h11])
                    refine ⟨?_, ?_⟩
                    · (simp [Region.wanted, yielded, undef, *]; done)
                    go_simp <;> (try go_bits) <;> with_reducible rfl
                  · exact fun _ _ _ => rfl
                  · rfl
                | apply RGW.off (i := 12) rfl
                  · (simp only [gA, gB, gC] <;> rfl)
                  · intro γ u W hcur hd
                    obtain ⟨⟨h1, -, -⟩, ⟨h6, -, -⟩, ⟨h11, -, -⟩, -⟩ := hd
                    dsimp only at h1 h6 h11
                    (try simp only [h1, h6, h11])
                    simp [Region.wanted, yielded, undef, *]
                  · rfl
                dsimp only [nA, cA]
                first
                | apply RGW.on (i := 13) rfl
                  · (simp only [gA, gB, gC] <;> rfl)
                  · intro γ u W hcur hd
                    obtain ⟨⟨h1, -, -⟩, ⟨h12, -, -⟩, -⟩ := hd
                    dsimp only at h1 h12
                    (try simp only [h1, h12])
                    refine ⟨?_, ?_⟩
                    · (simp [Region.wanted, yielded, undef, *]; done)
                    go_simp <;> (try go_bits) <;> with_reducible rfl
                  · exact fun _ _ _ => rfl
                  · rfl
                | apply RGW.off (i := 13) rfl
                  · (simp only [gA, gB, gC] <;> rfl)
                  · intro γ u W hcur hd
                    obtain ⟨⟨h1, -, -⟩, ⟨h12, -, -⟩, -⟩ := hd
                    dsimp only at h1 h12
                    (try simp only [h1, h12])
                    simp [Region.wanted, yielded, undef, *]
                  · rfl
                dsimp only [nA, cA]
                first
                | apply RGW.on (i := 14) rfl
                  · (simp only [gA, gB, gC] <;> rfl)
                  · intro γ u W hcur hd
                    obtain ⟨⟨h13, -, -⟩, -⟩ := hd
                    dsimp only at h13
                    (try simp only [h13])
                    refine ⟨?_, ?_⟩
                    · (simp [Region.wanted, yielded, undef, *]; done)
                    go_simp <;> (try go_bits) <;> with_reducible rfl
                  · exact fun _ _ _ => rfl
                  · rfl
                | apply RGW.off (i := 14) rfl
                  · (simp only [gA, gB, gC] <;> rfl)
                  · intro γ u W hcur hd
                    obtain ⟨⟨h13, -, -⟩, -⟩ := hd
                    dsimp only at h13
                    (try simp only [h13])
                    simp [Region.wanted, yielded, undef, *]
                  · rfl
                dsimp only [nA, cA]
                first
                | apply RGW.on (i := 15) rfl
                  · (simp only [gA, gB, gC] <;> rfl)
                  · intro γ u W hcur hd
                    obtain ⟨⟨h13, -, -⟩, -⟩ := hd
                    dsimp only at h13
                    (try simp only [h13])
                    refine ⟨?_, ?_⟩
                    · (simp [Region.wanted, yielded, undef, *]; done)
                    go_simp <;> (try go_bits) <;> with_reducible rfl
                  · exact fun _ _ _ => rfl
                  · rfl
                | apply RGW.off (i := 15) rfl
                  · (simp only [gA, gB, gC] <;> rfl)
                  · intro γ u W hcur hd
                    obtain ⟨⟨h13, -, -⟩, -⟩ := hd
                    dsimp only at h13
                    (try simp only [h13])
                    simp [Region.wanted, yielded, undef, *]
                  · rfl
                dsimp only [nA, cA]
                first
                | apply RGW.on (i := 16) rfl
                  · (simp only [gA, gB, gC] <;> rfl)
                  · intro γ u W hcur hd
                    obtain ⟨⟨h13, -, -⟩, ⟨h14, -, -⟩, ⟨h15, -, -⟩, -⟩ := hd
                    dsimp only at h13 h14 h15
                    (try simp only [h13, h14, h15])
                    refine ⟨?_, ?_⟩
                    · (simp [Region.wanted, yielded, undef, *]; done)
                    go_simp <;> (try go_bits) <;> with_reducible rfl
                  · exact fun _ _ _ => rfl
                  · rfl
                | apply RGW.off (i := 16) rfl
                  · (simp only [gA, gB, gC] <;> rfl)
                  · intro γ u W hcur hd
                    obtain ⟨⟨h13, -, -⟩, ⟨h14, -, -⟩, ⟨h15, -, -⟩, -⟩ := hd
                    dsimp only at h13 h14 h15
                    (try simp only [h13, h14, h15])
                    simp [Region.wanted, yielded, undef, *]
                  · rfl
                dsimp only [nA, cA]
                first
                | apply RGW.on (i := 17) rfl
                  · (simp only [gA, gB, gC] <;> rfl)
                  · intro γ u W hcur hd
                    obtain ⟨⟨h13, -, -⟩, ⟨h16, -, -⟩, -⟩ := hd
                    dsimp only at h13 h16
                    (try simp only [h13, h16])
                    refine ⟨?_, ?_⟩
                    · (simp [Region.wanted, yielded, undef, *]; done)
                    go_simp <;> (try go_bits) <;> with_reducible rfl
                  · exact fun _ _ _ => rfl
                  · rfl
                | apply RGW.off (i := 17) rfl
                  · (simp only [gA, gB, gC] <;> rfl)
                  · intro γ u W hcur hd
                    obtain ⟨⟨h13, -, -⟩, ⟨h16, -, -⟩, -⟩ := hd
                    dsimp only at h13 h16
                    (try simp only [h13, h16])
                    simp [Region.wanted, yielded, undef, *]
                  · rfl
                dsimp only [nA, cA]
                first
                | apply RGW.on (i := 18) rfl
                  · (simp only [gA, gB, gC] <;> rfl)
                  · intro γ u W hcur hd
                    obtain ⟨⟨h13, -, -⟩, ⟨h17, -, -⟩, -⟩ := hd
                    dsimp only at h13 h17
                    (try simp only [h13, h17])
                    refine ⟨?_, ?_⟩
                    · (simp [Region.wanted, yielded, undef, *]; done)
                    go_simp <;> (try go_bits) <;> with_reducible rfl
                  · exact fun _ _ _ => rfl
                  · rfl
                | apply RGW.off (i := 18) rfl
                  · (simp only [gA, gB, gC] <;> rfl)
                  · intro γ u W hcur hd
                    obtain ⟨⟨h13, -, -⟩, ⟨h17, -, -⟩, -⟩ := hd
                    dsimp only at h13 h17
                    (try simp only [h13, h17])
                    simp [Region.wanted, yielded, undef, *]
                  · rfl
                dsimp only [nA, cA]
                first
                | apply RGW.on (i := 19) rfl
                  · (simp only [gA, gB, gC] <;> rfl)
                  · intro γ u W hcur hd
                    obtain ⟨⟨h13, -, -⟩, -⟩ := hd
                    dsimp only at h13
                    (try simp only [h13])
                    refine ⟨?_, ?_⟩
                    · (simp [Region.wanted, yielded, undef, *]; done)
                    go_simp <;> (try go_bits) <;> with_reducible rfl
                  · exact fun _ _ _ => rfl
                  · rfl
                | apply RGW.off (i := 19) rfl
                  · (simp only [gA, gB, gC] <;> rfl)
                  · intro γ u W hcur hd
                    obtain ⟨⟨h13, -, -⟩, -⟩ := hd
                    dsimp only at h13
                    (try simp only [h13])
                    simp [Region.wanted, yielded, undef, *]
                  · rfl
                dsimp only [nA, cA]
                first
                | apply RGW.on (i := 20) rfl
                  · (simp only [gA, gB, gC] <;> rfl)
                  · intro γ u W hcur hd
                    obtain ⟨⟨h13, -, -⟩, -⟩ := hd
                    dsimp only at h13
                    (try simp only [h13])
                    refine ⟨?_, ?_⟩
                    · (simp [Region.wanted, yielded, undef, *]; done)
                    go_simp <;> (try go_bits) <;> with_reducible rfl
                  · exact fun _ _ _ => rfl
                  · rfl
                | apply RGW.off (i := 20) rfl
                  · (simp only [gA, gB, gC] <;> rfl)
                  · intro γ u W hcur hd
                    obtain ⟨⟨h13, -, -⟩, -⟩ := hd
                    dsimp only at h13
                    (try simp only [h13])
                    simp [Region.wanted, yielded, undef, *]
                  · rfl
                dsimp only [nA, cA]
                first
                | apply RGW.on (i := 21) rfl
                  · (simp only [gA, gB, gC] <;> rfl)
                  · intro γ u W hcur hd
                    obtain ⟨⟨h13, -, -⟩, ⟨h19, -, -⟩, ⟨h20, -, -⟩, -⟩ := hd
                    dsimp only at h13 h19 h20
                    (try simp only [h13, h19, h20])
                    refine ⟨?_, ?_⟩
                    · (simp [Region.wanted, yielded, undef, *]; done)
                    go_simp <;> (try go_bits) <;> with_reducible rfl
                  · exact fun _ _ _ => rfl
                  · rfl
                | apply RGW.off (i := 21) rfl
                  · (simp only [gA, gB, gC] <;> rfl)
                  · intro γ u W hcur hd
                    obtain ⟨⟨h13, -, -⟩, ⟨h19, -, -⟩, ⟨h20, -, -⟩, -⟩ := hd
                    dsimp only at h13 h19 h20
                    (try simp only [h13, h19, h20])
                    simp [Region.wanted, yielded, undef, *]
                  · rfl
                dsimp only [nA, cA]
                first
                | apply RGW.on (i := 22) rfl
                  · (simp only [gA, gB, gC] <;> rfl)
                  · intro γ u W hcur hd
                    obtain ⟨⟨h13, -, -⟩, ⟨h21, -, -⟩, -⟩ := hd
                    dsimp only at h13 h21
                    (try simp only [h13, h21])
                    refine ⟨?_, ?_⟩
                    · (simp [Region.wanted, yielded, undef, *]; done)
                    go_simp <;> (try go_bits) <;> with_reducible rfl
                  · exact fun _ _ _ => rfl
                  · rfl
                | apply RGW.off (i := 22) rfl
                  · (simp only [gA, gB, gC] <;> rfl)
                  · intro γ u W hcur hd
                    obtain ⟨⟨h13, -, -⟩, ⟨h21, -, -⟩, -⟩ := hd
                    dsimp only at h13 h21
                    (try simp only [h13, h21])
                    simp [Region.wanted, yielded, undef, *]
                  · rfl
                dsimp only [nA, cA]
                first
                | apply RGW.on (i := 23) rfl
                  · (simp only [gA, gB, gC] <;> rfl)
                  · intro γ u W hcur hd
                    obtain ⟨⟨h13, -, -⟩, ⟨h22, -, -⟩, -⟩ := hd
                    dsimp only at h13 h22
                    (try simp only [h13, h22])
                    refine ⟨?_, ?_⟩
                    · (simp [Region.wanted, yielded, undef, *]; done)
                    go_simp <;> (try go_bits) <;> with_reducible rfl
                  · exact fun _ _ _ => rfl
                  · rfl
                | apply RGW.off (i := 23) rfl
                  · (simp only [gA, gB, gC] <;> rfl)
                  · intro γ u W hcur hd
                    obtain ⟨⟨h13, -, -⟩, ⟨h22, -, -⟩, -⟩ := hd
                    dsimp only at h13 h22
                    (try simp only [h13, h22])
                    simp [Region.wanted, yielded, undef, *]
                  · rfl
                dsimp only [nA, cA]
                first
                | apply RGW.on (i := 24) rfl
                  · (simp only [gA, gB, gC] <;> rfl)
                  · intro γ u W hcur hd
                    obtain ⟨⟨h13, -, -⟩, ⟨h18, -, -⟩, ⟨h23, -, -⟩, -⟩ := hd
                    dsimp only at h13 h18 h23
                    (try simp only [h13, h18, h23])
                    refine ⟨?_, ?_⟩
                    · (simp [Region.wanted, yielded, undef, *]; done)
                    go_simp <;> (try go_bits) <;> with_reducible rfl
                  · exact fun _ _ _ => rfl
                  · rfl
                | apply RGW.off (i := 24) rfl
                  · (simp only [gA, gB, gC] <;> rfl)
                  · intro γ u W hcur hd
                    obtain ⟨⟨h13, -, -⟩, ⟨h18, -, -⟩, ⟨h23, -, -⟩, -⟩ := hd
                    dsimp only at h13 h18 h23
                    (try simp only [h13, h18, h23])
                    simp [Region.wanted, yielded, undef, *]
                  · rfl
                dsimp only [nA, cA]
                first
                | apply RGW.on (i := 25) rfl
                  · (simp only [gA, gB, gC] <;> rfl)
                  · intro γ u W hcur hd
                    obtain ⟨⟨h1, -, -⟩, ⟨h13, -, -⟩, ⟨h24, -, -⟩, -⟩ := hd
                    dsimp only at h1 h13 h24
                    (try simp only [h1, h13, h24])
                    refine ⟨?_, ?_⟩
                    · (simp [Region.wanted, yielded, undef, *]; done)
                    go_simp <;> (try go_bits) <;> with_reducible rfl
                  · exact fun _ _ _ => rfl
                  · rfl
                | apply RGW.off (i := 25) rfl
                  · (simp only [gA, gB, gC] <;> rfl)
                  · intro γ u W hcur hd
                    obtain ⟨⟨h1, -, -⟩, ⟨h13, -, -⟩, ⟨h24, -, -⟩, -⟩ := hd
                    dsimp only at h1 h13 h24
                    (try simp only [h1, h13, h24])
                    simp [Region.wanted, yielded, undef, *]
                  · rfl
                dsimp only [nA, cA]
                apply RGW.on (i := 26) rfl
                · (simp only [gA, gB, gC] <;> rfl)
                · intro γ u W hcur hd
                  obtain ⟨⟨h1, -, -⟩, ⟨h25, -, -⟩, -⟩ := hd
                  dsimp only at h1 h25
                  (try simp only [h1, h25])
                  refine ⟨rfl, ?_⟩
                  go_simp <;> (try go_bits) <;> with_reducible rfl
                · exact fun _ _ _ => rfl
                · rfl
                dsimp only [nA, cA]
                refine RGW.skip (i := 27) rfl rfl ?_
                dsimp only [nA, cA]
                refine RGW.fin (fun γ u wj hwj hd hdis => ?_)
                obtain ⟨⟨h0, -, -⟩, ⟨h1, -, -⟩, ⟨h2, -, -⟩, ⟨h3, -, -⟩, ⟨h4, -, -⟩, ⟨h5, -, -⟩, ⟨h6, -, -⟩, ⟨h7, -, -⟩, ⟨h8, -, -⟩, ⟨h9, -, -⟩, ⟨h10, -, -⟩, ⟨h11, -, -⟩, ⟨h12, -, -⟩, ⟨h13, -, -⟩, ⟨h14, -, -⟩, ⟨h15, -, -⟩, ⟨h16, -, -⟩, ⟨h17, -, -⟩, ⟨h18, -, -⟩, ⟨h19, -, -⟩, ⟨h20, -, -⟩, ⟨h21, -, -⟩, ⟨h22, -, -⟩, ⟨h23, -, -⟩, ⟨h24, -, -⟩, ⟨h25, -, -⟩, ⟨h26, -, -⟩, -⟩ := hd
                dsimp only at h0 h1 h2 h3 h4 h5 h6 h7 h8 h9 h10 h11 h12 h13 h14 h15 h16 h17 h18 h19 h20 h21 h22 h23 h24 h25 h26
                clear hdis
                simp only [h0, h1, h2, h3, h4, h5, h6, h7, h8, h9, h10, h11, h12, h13, h14, h15, h16, h17, h18, h19, h20, h21, h22, h23, h24, h25, h26]
                clear h26 h25 h24 h23 h22 h21 h20 h19 h18 h17 h16 h15 h14 h13 h12 h11 h10 h9 h8 h7 h6 h5 h4 h3 h2 h1 h0
                clear u
                simp only [List.map_cons, List.map_nil]
                apply PlanW.step
                · (simp only [gA, gB, gC] <;> rfl)
                · rfl
                intro K hK
                go_simp
                refine hK.out _ _ (by with_reducible first | assumption | exact bx_refl _ _) (fun hcur => ?_)
                clear hK K
                try simp only [Act.put, List.setIfInBounds_toArray, List.set_cons_zero, List.set_cons_succ]
                refine PlanW.done ?_
                have hb3 := bl_tt hwj
                go_wp2
                go_roundw
                case rel => exact ⟨k + 1, by omega, by go_num, by rw [hn.out], bl_tr hb4 hwj, hR6.out.below hwj, r8.out.below hwj⟩
                case measure => simp [intOf] <;> omega
            · have e : k = m := by omega
              subst e
              have hgt := hgm.out
              generalize hgk : g k = gk at *
              subst hgt
              clear hgk
              go_wp2
              go_roundw
              case rel => exact ⟨j + 1, by omega, by go_num, hb4, hR6.out, r8.out⟩
              case measure => simp [intOf] <;> omega
        · go_wp2
          go_ret
          exact ⟨rfl, hb4⟩
end Go.Proofs.YtdlmkblmljhbfaaDoor
