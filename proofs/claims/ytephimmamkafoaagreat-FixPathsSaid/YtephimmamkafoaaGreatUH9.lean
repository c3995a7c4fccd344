/-
  Walk: the law of paths.
-/
import Derived.Test.YtephimmamkafoaaGreatU13
import Derived.Test.YtephimmamkafoaaGreatUH6
import Derived.Test.YtephimmamkafoaaGreatUH8
set_option linter.unusedSimpArgs false
set_option linter.unusedVariables false
namespace Go.Proofs.YtephimmamkafoaaGreat
open Go.RowKit Go.Shelf
attribute [local go_sem] bl_al bl_drew bl_drewN bl_refl bx_al bx_drew bx_drewN bx_refl
set_option maxRecDepth 20000
theorem sub_meet_r {a B : Bx} (h : a.sub B) : B.meet a = a := by
  obtain ⟨⟨h1, h2⟩, ⟨h3, h4⟩, h5, h6⟩ := h
  obtain ⟨⟨x1, x2⟩, ⟨y1, y2⟩, ⟨z1, z2⟩⟩ := a
  simp only [Bx.meet, Rg.meet] at *
  rw [Int.max_eq_right h1, Int.min_eq_right h2, Int.max_eq_right h3, Int.min_eq_right h4, Int.max_eq_right h5, Int.min_eq_right h6]
/-- What the law says of a box of the track, the smoothed one, and a position of a path. -/
theorem path_law {n : Nt} {b : Bx} {l : List St} {t : List Pl} (hI : isPE n b l t = 0) (hT : trackE n b l = 0) (i : Nat) (c d : Bx) (q : Pl) (hc : (b :: trk n b l)[i]? = some c) (hd : (smo n b l)[i]? = some d) (hq : t[i]? = some q) :
    d.ordered = true ∧ c.meet d = d ∧ (isPB n b l t = true → c.has q = true ∧ d.has q = true) := by
  obtain ⟨hS, hlen⟩ := isPE_zero hI
  rw [trackE, if_pos hS] at hT
  have hbe : boxErr n b = 0 := by
    unfold stepsErr at hS
    split at hS
    · assumption
    · exact absurd hS ‹_›
  have hm : ∀ s ∈ l, mvErr s.mv = 0 := fun s hs => by
    have h2 := (steps_zero (n := n) (b := b) (l := l.map fun s => ⟨s, none, 0⟩) (by rw [List.map_map]; simpa [Function.comp_def] using hS)).2
    obtain ⟨j, hj, e⟩ := List.getElem_of_mem hs
    have := (h2 j ⟨s, none, 0⟩ (by simp [List.getElem?_eq_getElem hj, e])).1
    exact this
  obtain ⟨g1, g2, g3⟩ := smo_good l b hbe hm hT i c d hc hd
  refine ⟨(box_zero g2).2.1, sub_meet_r g3, fun hB => ?_⟩
  cases t with
  | nil => cases hq
  | cons p t' =>
    unfold isPB at hB
    rw [Bool.and_eq_true] at hB
    exact ⟨path_trk l b p t' hB.1 hB.2 i c q hc hq, path_smo l b p t' hB.1 (has_world hbe hB.1) (by simpa using hlen) hB.2 i d q hd hq⟩
theorem path_large {n : Nt} {b : Bx} {l : List St} {t : List Pl} (hI : isPE n b l t = 0) (hB : isPB n b l t = true) (hT : trackE n b l ≠ 0) : trackE n b l = 8 := by
  obtain ⟨hS, hlen⟩ := isPE_zero hI
  rw [trackE, if_pos hS] at hT ⊢
  cases t with
  | nil => cases hlen
  | cons p t' =>
    unfold isPB at hB
    rw [Bool.and_eq_true] at hB
    exact path_err l b p t' hB.1 (by simpa using hlen) hB.2 hT
set_option maxHeartbeats 4000000 in
theorem l_Paths_few (n : Nt) (b : Bx) (l : List StA) (t : List Pl) (A A' AP : Option Addr) (c c' cp : Nat) (w : World) (hF : (decide (n.bs.length ≤ 8) && decide (0 ≤ 10)) = false) :
    Calls Tryz.prog 5 #[vNt n.world (.slice A n.bs.length c), vBx b, .agg #[.slice A' l.length c', .slice AP t.length cp]] w (Ret (.bool true) w) := by
  have hfw := Lib.hid fun W : World => r_few n A none c 0 0 W
  rw [hF] at hfw
  clear hF
  generalize n.bs.length = nl at *
  generalize l.length = ll at *
  generalize t.length = tl at *
  go_enter Tryz.func5, Tryz.ntmps5
  go_upto_region 3 with (go_at_call 6; (with_reducible refine (r_awake _).mono ?_); rintro e w3 ⟨rfl, hb3⟩; replace hb3 := bl_tt hb3)
  apply absB3 (w0 := w) (g0 := w.heap.size) (g1 := w.heap.size + 1) (g2 := w.heap.size + 2)
  iterate 4 (focus exact zL)
  try clear hb3
  try clear hb0
  try clear k0
  try clear k1
  try clear k2
  intro wa hb0 k0 k1 k2
  (try simp only [List.setIfInBounds_toArray, List.set_cons_zero, List.set_cons_succ] at k0 k1 k2)
  have Lk0 := k0.later
  have Fk0 := k0.laterF
  have Qk0 := k0.lt
  have Lk1 := k1.later
  have Fk1 := k1.laterF
  have Qk1 := k1.lt
  have Lk2 := k2.later
  have Fk2 := k2.laterF
  have Qk2 := k2.lt
  have hb3 := fun (w' : World) (h : Below w'.heap.size w' wa) => h
  have hv := hb3 wa (bl_refl wa)
  go_wp2_with (go_at_call 7; (with_reducible refine (hfw.out _).mono ?_); rintro e w3 ⟨rfl, hb4⟩; replace hb3 := fun w h => bl_tt hb4 w (hb3 w h); have hv := hb3 wa (bl_refl wa))
  go_ret
  exact ⟨rfl, bl_tr hb0 hv⟩
set_option maxHeartbeats 16000000 in
theorem l_Paths (n : Nt) (b : Bx) (l : List StA) (t : List Pl) (A A' AP : Option Addr) (c c' cp : Nat) (w : World) (hF : (decide (n.bs.length ≤ 8) && decide (0 ≤ 10)) = true) (hn : NtIn n A c w) (hl : StsIn l A' w) (ht : Sl cPl 3 w AP t) :
    Calls Tryz.prog 5 #[vNt n.world (.slice A n.bs.length c), vBx b, .agg #[.slice A' l.length c', .slice AP t.length cp]] w (Ret (.bool true) w) := by
  have hlb : n.bs.length ≤ 1000 := hn.len
  have hfw := Lib.hid fun W : World => r_few n A none c 0 0 W
  rw [hF] at hfw
  have hls := Lib.hid fun (W : World) (hb : Below w.heap.size w W) => r_lightSteps n b l A A' c c' W (hn.below hb) hlb (hl.below hb)
  have hcp := Lib.hid fun (W : World) (hb : Below w.heap.size w W) => r_CopyNet n A c W (hn.below hb)
  have hcy := Lib.hid fun (hf : few2 l) (W : World) (hb : Below w.heap.size w W) => copySteps_as (c' := c') hf (hl.below hb)
  have hcq := Lib.hid fun (h9 : t.length ≤ 9) (W : World) (hb : Below w.heap.size w W) => r_CopyPath t AP cp W (ht.below hb) (by omega)
  have hte := Lib.hid fun (hf : few2 l) (W : World) (hb : Below w.heap.size w W) => r_TrackErr n b l A A' c c' W (hn.below hb) (hl.below hb) hf.few1 hlb
  have hlg := Lib.hid fun (hf : few2 l) (W : World) (hb : Below w.heap.size w W) => r_hasLarge n b l A A' c c' W (hn.below hb) (hl.below hb) hf.few1 hlb
  have hse := Lib.hid fun (hf : few2 l) (W : World) (hb : Below w.heap.size w W) => r_StepsErr n b l A A' c c' W (hn.below hb) (hl.below hb) hf.few1 hlb
  have hip : Hid (few2 l → t.length ≤ 9 → ∀ (W : World) (A A' AP : Option Addr) (c c' cp : Nat), NtIn n A c W → StsAs (l.map (·.s)) A' W → Sl cPl 3 W AP t → Calls Tryz.prog 24 #[vNt n.world (.slice A n.bs.length c), vBx b, .slice A' l.length c', .slice AP t.length cp] W
      (Ret (.tuple #[.bool (decide (isPE n b (l.map (·.s)) t = 0) && isPB n b (l.map (·.s)) t), .int .i64 (isPE n b (l.map (·.s)) t)]) W)) := fun hf h9 W A A' AP c c' cp h ⟨l2, h1, h2⟩ h' => by
    obtain ⟨h3, h4⟩ := few_as h1 hf
    have := c_IsPath n b l2 t A A' AP c c' cp W h h2 h3 hlb h' (by omega)
    rw [h1, h4] at this
    exact this
  have hrp : Hid (few2 l → t.length ≤ 9 → isPE n b (l.map (·.s)) t = 0 → ∀ (W : World), Below w.heap.size w W → Calls Tryz.prog 27 #[vNt n.world (.slice A n.bs.length c), vBx b, .slice A' l.length c', .slice AP t.length cp] W (Ret (.bool (isPB n b (l.map (·.s)) t)) W)) :=
    fun hf h9 h0 W hb => r_IsPath n b l t A A' AP c c' cp W (hn.below hb) (hl.below hb) hf.few1 hlb (ht.below hb) (by omega) h0
  have htk1 := Lib.hid fun (hf : few2 l) (h : trackE n b (l.map (·.s)) = 0) => trackOf_as1 hlb hf h
  have hsm1 := Lib.hid fun (hf : few2 l) (h : trackE n b (l.map (·.s)) = 0) => smoothedOf_as1 hlb hf h
  have Hat := Lib.hid fun (hI : isPE n b (l.map (·.s)) t = 0) (hT : trackE n b (l.map (·.s)) = 0) => path_law hI hT
  have hpe := Lib.hid fun (hI : isPE n b (l.map (·.s)) t = 0) (hB : isPB n b (l.map (·.s)) t = true) (hT : trackE n b (l.map (·.s)) ≠ 0) => path_large hI hB hT
  have hE : isPE n b (l.map (·.s)) t = fstE [stepsErr n b (l.map (·.s)), unl (decide (t.length = l.length + 1)) 10] := by rw [isPE, List.length_map]
  have hE1 : Hid (stepsErr n b (l.map (·.s)) ≠ 0 → isPE n b (l.map (·.s)) t = stepsErr n b (l.map (·.s))) := fun h => by rw [hE, fstE, if_neg h]
  have hE2 : Hid (stepsErr n b (l.map (·.s)) = 0 → t.length ≠ l.length + 1 → isPE n b (l.map (·.s)) t = 10) := fun h h' => by rw [hE, h]; simp [fstE, unl, h']
  have hE3 : Hid (stepsErr n b (l.map (·.s)) = 0 → t.length = l.length + 1 → isPE n b (l.map (·.s)) t = 0) := fun h h' => by rw [hE, h]; simp [fstE, unl, h']
  have hR0 : Hid (isPE n b (l.map (·.s)) t = 0 → (decide (isPE n b (l.map (·.s)) t = 0) && isPB n b (l.map (·.s)) t) = isPB n b (l.map (·.s)) t) := fun h => by simp [h]
  have hR1 : Hid (isPE n b (l.map (·.s)) t ≠ 0 → (decide (isPE n b (l.map (·.s)) t = 0) && isPB n b (l.map (·.s)) t) = false) := fun h => by simp [h]
  have Hlen : Hid ((smo n b (l.map (·.s))).length = l.length + 1) := by rw [smo_len, List.length_map]; exact Lib.hid rfl
  have Hbl : Hid ((b :: trk n b (l.map (·.s))).length = l.length + 1) := by rw [List.length_cons, trk_len, List.length_map]; exact Lib.hid rfl
  have Hb0 : Hid ((b :: trk n b (l.map (·.s)))[0]? = some b) := Lib.hid rfl
  have Ht := Lib.hid ht
  clear hF hn hl hlb ht hE
  generalize (decide (isPE n b (l.map (·.s)) t = 0) && isPB n b (l.map (·.s)) t) = RB at *
  generalize isPE n b (l.map (·.s)) t = IE at *
  generalize isPB n b (l.map (·.s)) t = IB at *
  generalize stepsErr n b (l.map (·.s)) = SE at *
  generalize trackE n b (l.map (·.s)) = TE at *
  generalize trk n b (l.map (·.s)) = TR at *
  generalize smo n b (l.map (·.s)) = SM at *
  generalize l.map (·.s) = L at *
  generalize n.bs.length = nl at *
  have hf8 : Hid (few2 l → l.length ≤ 8) := fun h => h.1
  generalize few2 l = FL at *
  generalize l.length = ll at *
  obtain ⟨BT, Hbt⟩ : ∃ BT, Hid (b :: TR = BT) := ⟨_, rfl⟩
  rw [Hbt.out] at Hat Hbl Hb0
  obtain ⟨tl, Htn⟩ : ∃ k, Hid (t.length = k) := ⟨_, rfl⟩
  rw [Htn.out] at hcq hip hrp hE2 hE3 ⊢
  go_enter Tryz.func5, Tryz.ntmps5
  go_upto_region 3 with (go_at_call 6; (with_reducible refine (r_awake _).mono ?_); rintro e w3 ⟨rfl, hb3⟩; replace hb3 := bl_tt hb3)
  apply absB3 (w0 := w) (g0 := w.heap.size) (g1 := w.heap.size + 1) (g2 := w.heap.size + 2)
  iterate 4 (focus exact zL)
  try clear hb3
  try clear hb0
  try clear k0
  try clear k1
  try clear k2
  intro wa hb0 k0 k1 k2
  (try simp only [List.setIfInBounds_toArray, List.set_cons_zero, List.set_cons_succ] at k0 k1 k2)
  have Lk0 := k0.later
  have Fk0 := k0.laterF
  have Qk0 := k0.lt
  have Lk1 := k1.later
  have Fk1 := k1.laterF
  have Qk1 := k1.lt
  have Lk2 := k2.later
  have Fk2 := k2.laterF
  have Qk2 := k2.lt
  have hb3 := fun (w' : World) (h : Below w'.heap.size w' wa) => h
  have hv := hb3 wa (bl_refl wa)
  go_wp2_with (go_at_call 7; (with_reducible refine (hfw.out _).mono ?_); rintro e w3 ⟨rfl, hb4⟩; replace hb3 := fun w h => bl_tt hb4 w (hb3 w h); have hv := hb3 wa (bl_refl wa))
  with_reducible refine Calls.mono (hls.out _ (bl_tr hb0 hv)) ?_
  rintro e w4 ⟨B, rfl, hb5, hB⟩
  replace hb3 := fun w h => bl_tt hb5 w (hb3 w h)
  have hv := hb3 wa (bl_refl wa)
  cases B
  case false =>
    go_wp2
    go_ret
    exact ⟨rfl, bl_tr hb0 hv⟩
  have hf := hB rfl
  clear hB hls hfw
  have hl8 := hf8.out hf
  clear hf8
  by_cases hp9 : tl ≤ 9
  case neg =>
    have h9 : decide (9 < tl) = true := by simp; omega
    have h9' : decide ((9 : Int) < (tl : Int)) = true := by simp; omega
    apply absX3 (w0 := w) (w := w4) (g0 := w.heap.size) (g1 := w.heap.size + 1) (g2 := w.heap.size + 2)
    iterate 4 (focus exact zL)
    try clear hb3
    try clear Lk0
    try clear Fk0
    try clear Qk0
    try clear Lk1
    try clear Fk1
    try clear Qk1
    try clear Lk2
    try clear Fk2
    try clear Qk2
    try clear hb0
    try clear k0
    try clear k1
    try clear k2
    intro wb hb0 k0 k1 k2
    (try simp only [List.setIfInBounds_toArray, List.set_cons_zero, List.set_cons_succ] at k0 k1 k2)
    have Lk0 := k0.later
    have Fk0 := k0.laterF
    have Qk0 := k0.lt
    have Lk1 := k1.later
    have Fk1 := k1.laterF
    have Qk1 := k1.lt
    have Lk2 := k2.later
    have Fk2 := k2.laterF
    have Qk2 := k2.lt
    go_wp2
    go_ret
    exact ⟨rfl, hb0⟩
  have h9 : decide (9 < tl) = false := by simp; omega
  have h9' : decide ((9 : Int) < (tl : Int)) = false := by simp; omega
  replace hcy := Lib.hid (hcy.out hf)
  replace hte := Lib.hid (hte.out hf)
  replace hse := Lib.hid (hse.out hf)
  replace hip := Lib.hid (hip.out hf hp9)
  replace hrp := Lib.hid (hrp.out hf hp9)
  replace hcq := Lib.hid (hcq.out hp9)
  replace hlg := Lib.hid (hlg.out hf)
  replace htk1 := Lib.hid (htk1.out hf)
  replace hsm1 := Lib.hid (hsm1.out hf)
  clear hf
  apply absX3 (w0 := w) (w := w4) (g0 := w.heap.size) (g1 := w.heap.size + 1) (g2 := w.heap.size + 2)
  iterate 4 (focus exact zL)
  try clear hb3
  try clear Lk0
  try clear Fk0
  try clear Qk0
  try clear Lk1
  try clear Fk1
  try clear Qk1
  try clear Lk2
  try clear Fk2
  try clear Qk2
  try clear hb0
  try clear k0
  try clear k1
  try clear k2
  intro wb hb0 k0 k1 k2
  (try simp only [List.setIfInBounds_toArray, List.set_cons_zero, List.set_cons_succ] at k0 k1 k2)
  have Lk0 := k0.later
  have Fk0 := k0.laterF
  have Qk0 := k0.lt
  have Lk1 := k1.later
  have Fk1 := k1.laterF
  have Qk1 := k1.lt
  have Lk2 := k2.later
  have Fk2 := k2.laterF
  have Qk2 := k2.lt
  go_upto_region 5 with fail
  clear h9 h9'
  refine wp_any (w0 := wb) ⟨[], [], [some 36, some 37, some 38, some 39, some 40, some 41, some 42, some 43, some 44, some 45, some 35, some 46, some 47, some 7, some 8], [[], [0], [], [], [3], [0, 1, 3, 4], [], [6], [0, 1, 3, 4, 5, 6, 7], [0, 1, 2, 3, 4, 5, 6, 7, 8], [0, 1, 2, 3, 4, 5, 6, 7, 8, 9], [0, 1, 2, 3, 4, 5, 6, 7, 8, 9, 10], [0, 1, 2, 3, 4, 5, 6, 7, 8, 9, 10], [0, 1, 2, 3, 4, 5, 6, 7, 8, 9, 10, 11], [0, 1, 2, 3, 4, 5, 6, 7, 8, 9, 10, 11, 12, 13]], [[], [0], [], [], [3], [4], [], [6], [7], [1, 2, 5, 8], [1, 5, 8, 9], [1, 5, 8, 10], [1, 5, 8, 10], [1, 5, 8, 11], [1, 5, 8, 12]]⟩ (fun _ => []) (by kernel_rfl) (by kernel_rfl) (by (exact zE)) (fun u => by simp only [putD, Act.put, List.setIfInBounds_toArray, List.set_cons_zero, List.set_cons_succ, Nat.zero_add, Nat.reduceAdd]; rfl) ?_
  apply RGW.on (i := 0) rfl
  · exact zG
  · intro γ u W hcur hd
    clear hd
    (try dsimp only)
    exact ⟨rfl, zS⟩
  · exact zC
  · rfl
  dsimp only [nA, cA]
  apply RGW.gh (⟨fun γ => vNt n.world (.slice (γ 1).A nl (γ 1).c), fun γ W => NtIn n (γ 1).A (γ 1).c W, fun _ => []⟩) (i := 1) rfl
  · exact zG
  · intro γ u W hcur hd
    obtain ⟨⟨h0, -, -⟩, -⟩ := hd
    dsimp only at h0
    (try simp only [h0])
    refine ⟨rfl, fun K hK => ?_⟩
    go_simp
    (go_at_call 10; (with_reducible refine (hcp.out _ (bl_tr hb0 hcur)).mono ?_); rintro e w3 ⟨Ax, cx, rfl, hb3, hox⟩; dsimp only; exact hK.out ⟨0, undef, Ax, cx⟩ _ _ (by simp [up]) hb3 (by simpa [up] using hox) (by simp))
  · intro γ γ' hg
    try dsimp only
    have e1 := hg 1 (by decide)
    simp only [e1]
    try exact ⟨trivial, fun _ h => h⟩
  · intro γ W W' hbl hR
    first | exact hR.below hbl | exact own_below hR hbl | exact trivial | exact ⟨hR.1.below hbl, hR.2⟩
  · rfl
  dsimp only [nA, cA]
  apply RGW.on (i := 2) rfl
  · exact zG
  · intro γ u W hcur hd
    clear hd
    (try dsimp only)
    exact ⟨rfl, zS⟩
  · exact zC
  · rfl
  dsimp only [nA, cA]
  apply RGW.on (i := 3) rfl
  · exact zG
  · intro γ u W hcur hd
    clear hd
    (try dsimp only)
    exact ⟨rfl, zS⟩
  · exact zC
  · rfl
  dsimp only [nA, cA]
  apply RGW.on (i := 4) rfl
  · exact zG
  · intro γ u W hcur hd
    obtain ⟨⟨h3, -, -⟩, -⟩ := hd
    dsimp only at h3
    (try simp only [h3])
    exact ⟨rfl, zS⟩
  · exact zC
  · rfl
  dsimp only [nA, cA]
  apply RGW.gh (⟨fun γ => .slice (γ 5).A ll (γ 5).c, fun γ W => StsAs L (γ 5).A W, fun _ => []⟩) (i := 5) rfl
  · exact zG
  · intro γ u W hcur hd
    obtain ⟨⟨h4, -, -⟩, -⟩ := hd
    dsimp only at h4
    (try simp only [h4])
    refine ⟨rfl, fun K hK => ?_⟩
    go_simp
    (go_at_call 11; (with_reducible refine (hcy.out _ (bl_tr hb0 hcur)).mono ?_); rintro e w3 ⟨Ax, cx, rfl, hb3, hox⟩; dsimp only; exact hK.out ⟨0, undef, Ax, cx⟩ _ _ (by simp [up]) hb3 (by simpa [up] using hox) (by simp))
  · intro γ γ' hg
    try dsimp only
    have e1 := hg 1 (by decide)
    have e5 := hg 5 (by decide)
    simp only [e1, e5]
    try exact ⟨trivial, fun _ h => h⟩
  · intro γ W W' hbl hR
    first | exact hR.below hbl | exact own_below hR hbl | exact trivial | exact ⟨hR.1.below hbl, hR.2⟩
  · rfl
  dsimp only [nA, cA]
  apply RGW.on (i := 6) rfl
  · exact zG
  · intro γ u W hcur hd
    clear hd
    (try dsimp only)
    exact ⟨rfl, zS⟩
  · exact zC
  · rfl
  dsimp only [nA, cA]
  apply RGW.on (i := 7) rfl
  · exact zG
  · intro γ u W hcur hd
    obtain ⟨⟨h6, -, -⟩, -⟩ := hd
    dsimp only at h6
    (try simp only [h6])
    exact ⟨rfl, zS⟩
  · exact zC
  · rfl
  dsimp only [nA, cA]
  apply RGW.gh (⟨fun γ => .slice (γ 8).A tl (γ 8).c, fun γ W => Sl cPl 3 W (γ 8).A t, fun _ => []⟩) (i := 8) rfl
  · exact zG
  · intro γ u W hcur hd
    obtain ⟨⟨h7, -, -⟩, -⟩ := hd
    dsimp only at h7
    (try simp only [h7])
    refine ⟨rfl, fun K hK => ?_⟩
    go_simp
    (go_at_call 25; (with_reducible refine (hcq.out _ (bl_tr hb0 hcur)).mono ?_); rintro e w3 ⟨Ax, cx, rfl, hb3, hox⟩; dsimp only; exact hK.out ⟨0, undef, Ax, cx⟩ _ _ (by simp [up]) hb3 (by simpa [up] using hox) (by simp))
  · intro γ γ' hg
    try dsimp only
    have e1 := hg 1 (by decide)
    have e5 := hg 5 (by decide)
    have e8 := hg 8 (by decide)
    simp only [e1, e5, e8]
    try exact ⟨trivial, fun _ h => h⟩
  · intro γ W W' hbl hR
    first | exact hR.below hbl | exact own_below hR hbl | exact trivial | exact ⟨hR.1.below hbl, hR.2⟩
  · rfl
  dsimp only [nA, cA]
  apply RGW.call (i := 9) rfl
  · exact zG
  · intro γ u W hcur hd
    obtain ⟨⟨h1, r1, -⟩, ⟨h2, -, -⟩, ⟨h5, r5, -⟩, ⟨h8, r8, -⟩, -⟩ := hd
    dsimp only at h1 h2 h5 h8 r1 r5 r8
    (try simp only [h1, h2, h5, h8])
    refine ⟨rfl, fun K hK => ?_⟩
    go_simp
    (go_at_call 24; (with_reducible refine (hip.out _ _ _ _ _ _ _ r1 r5 r8).mono ?_); rintro e w3 ⟨rfl, hb3⟩; replace hb3 := bl_tt hb3)
    (try dsimp only)
    exact hK.out _ _ rfl (by (exact zE))
  · exact zC
  · rfl
  dsimp only [nA, cA]
  apply RGW.on (i := 10) rfl
  · exact zG
  · intro γ u W hcur hd
    obtain ⟨⟨h1, r1, -⟩, ⟨h5, r5, -⟩, ⟨h8, r8, -⟩, ⟨h9, -, -⟩, -⟩ := hd
    dsimp only at h1 h5 h8 h9 r1 r5 r8
    (try simp only [h1, h5, h8, h9])
    exact ⟨rfl, zS⟩
  · exact zC
  · rfl
  dsimp only [nA, cA]
  apply RGW.on (i := 11) rfl
  · exact zG
  · intro γ u W hcur hd
    obtain ⟨⟨h1, r1, -⟩, ⟨h5, r5, -⟩, ⟨h8, r8, -⟩, ⟨h10, -, -⟩, -⟩ := hd
    dsimp only at h1 h5 h8 h10 r1 r5 r8
    (try simp only [h1, h5, h8, h10])
    exact ⟨rfl, zS⟩
  · exact zC
  · rfl
  dsimp only [nA, cA]
  apply RGW.on (i := 12) rfl
  · exact zG
  · intro γ u W hcur hd
    obtain ⟨⟨h1, r1, -⟩, ⟨h5, r5, -⟩, ⟨h8, r8, -⟩, ⟨h10, -, -⟩, -⟩ := hd
    dsimp only at h1 h5 h8 h10 r1 r5 r8
    (try simp only [h1, h5, h8, h10])
    exact ⟨rfl, zS⟩
  · exact zC
  · rfl
  dsimp only [nA, cA]
  apply RGW.on (i := 13) rfl
  · exact zG
  · intro γ u W hcur hd
    obtain ⟨⟨h1, r1, -⟩, ⟨h5, r5, -⟩, ⟨h8, r8, -⟩, ⟨h11, -, -⟩, -⟩ := hd
    dsimp only at h1 h5 h8 h11 r1 r5 r8
    (try simp only [h1, h5, h8, h11])
    exact ⟨rfl, zS⟩
  · exact zC
  · rfl
  dsimp only [nA, cA]
  apply RGW.on (i := 14) rfl
  · exact zG
  · intro γ u W hcur hd
    obtain ⟨⟨h1, r1, -⟩, ⟨h5, r5, -⟩, ⟨h8, r8, -⟩, ⟨h12, -, -⟩, -⟩ := hd
    dsimp only at h1 h5 h8 h12 r1 r5 r8
    (try simp only [h1, h5, h8, h12])
    exact ⟨rfl, zS⟩
  · exact zC
  · rfl
  dsimp only [nA, cA]
  refine RGW.fin (fun γ u wc hwc hd hdis => ?_)
  obtain ⟨⟨h0, -, -⟩, ⟨h1, r1, b1⟩, ⟨h2, -, -⟩, ⟨h3, -, -⟩, ⟨h4, -, -⟩, ⟨h5, r5, b5⟩, ⟨h6, -, -⟩, ⟨h7, -, -⟩, ⟨h8, r8, b8⟩, ⟨h9, -, -⟩, ⟨h10, -, -⟩, ⟨h11, -, -⟩, ⟨h12, -, -⟩, ⟨h13, -, -⟩, ⟨h14, -, -⟩, -⟩ := hd
  dsimp only at h0 h1 h2 h3 h4 h5 h6 h7 h8 h9 h10 h11 h12 h13 h14 r1 r5 r8 b1 b5 b8
  clear hdis
  simp only [h0, h1, h2, h3, h4, h5, h6, h7, h8, h9, h10, h11, h12, h13, h14]
  clear h14 h13 h12 h11 h10 h9 h8 h7 h6 h5 h4 h3 h2 h1 h0
  clear u
  simp only [List.map_nil]
  refine PlanW.done ?_
  have hb3 := bl_tt hwc
  clear r1 r5 r8 hip hcq
  apply absTB3 (w0 := w) (g0 := w.heap.size) (g1 := w.heap.size + 1) (g2 := w.heap.size + 2)
  iterate 4 (focus exact zL)
  try clear hb3
  try clear Lk0
  try clear Fk0
  try clear Qk0
  try clear Lk1
  try clear Fk1
  try clear Qk1
  try clear Lk2
  try clear Fk2
  try clear Qk2
  try clear hb0
  try clear k0
  try clear k1
  try clear k2
  intro wd hb0 k0 k1 k2
  (try simp only [List.setIfInBounds_toArray, List.set_cons_zero, List.set_cons_succ] at k0 k1 k2)
  have Lk0 := k0.later
  have Fk0 := k0.laterF
  have Qk0 := k0.lt
  have Lk1 := k1.later
  have Fk1 := k1.laterF
  have Qk1 := k1.lt
  have Lk2 := k2.later
  have Fk2 := k2.laterF
  have Qk2 := k2.lt
  by_cases hS : SE = 0
  case neg =>
    have hi := hE1.out hS
    have hR := hR1.out (by rw [hi]; exact hS)
    subst hi hR
    have hS' : (IE != 0) = true := by simp [hS]
    have hS2 : (IE == 0) = false := by simp [hS]
    replace hS := Lib.hid hS
    clear hE1 hE2 hE3
    go_wp2_with (go_at_call 26; (with_reducible refine (hse.out _ (bl_tr hb0 (by (exact zE)))).mono ?_); rintro e w3 ⟨rfl, hb3⟩; replace hb3 := bl_tt hb3)
    go_ret
    exact ⟨by simp, hb3 _ hb0⟩
  subst hS
  clear hE1
  by_cases hD : tl = ll + 1
  case neg =>
    have hi := hE2.out rfl hD
    have hR := hR1.out (by rw [hi]; decide)
    subst hi hR
    have hD2 : ((tl : Int) != (ll : Int) + 1) = true := by simp; omega
    replace hD := Lib.hid hD
    go_upto_region 7 with (go_at_call 26; (with_reducible refine (hse.out _ (bl_tr hb0 (by (exact zE)))).mono ?_); rintro e w3 ⟨rfl, hb3⟩; replace hb3 := bl_tt hb3)
    apply absB3 (w0 := w) (g0 := w.heap.size) (g1 := w.heap.size + 1) (g2 := w.heap.size + 2)
    iterate 4 (focus exact zL)
    try clear hb3
    try clear Lk0
    try clear Fk0
    try clear Qk0
    try clear Lk1
    try clear Fk1
    try clear Qk1
    try clear Lk2
    try clear Fk2
    try clear Qk2
    try clear hb0
    try clear k0
    try clear k1
    try clear k2
    intro we hb0 k0 k1 k2
    (try simp only [List.setIfInBounds_toArray, List.set_cons_zero, List.set_cons_succ] at k0 k1 k2)
    have Lk0 := k0.later
    have Fk0 := k0.laterF
    have Qk0 := k0.lt
    have Lk1 := k1.later
    have Fk1 := k1.laterF
    have Qk1 := k1.lt
    have Lk2 := k2.later
    have Fk2 := k2.laterF
    have Qk2 := k2.lt
    go_wp2
    go_ret
    exact ⟨by simp, hb0⟩
  have hD0 := hE3.out rfl hD
  clear hE2 hE3
  subst hD0
  replace hrp := Lib.hid (hrp.out rfl)
  replace hpe := Lib.hid (hpe.out rfl)
  replace Hat := Lib.hid (Hat.out rfl)
  have hRB := hR0.out rfl
  subst hRB
  clear hR0 hR1
  have htl1 := Lib.hid hD
  have hD2 : ((tl : Int) != (ll : Int) + 1) = false := by simp; omega
  clear hD
  go_upto_region 7 with (go_at_call 26; (with_reducible refine (hse.out _ (bl_tr hb0 (by (exact zE)))).mono ?_); rintro e w3 ⟨rfl, hb3⟩; replace hb3 := bl_tt hb3)
  apply absB3 (w0 := w) (g0 := w.heap.size) (g1 := w.heap.size + 1) (g2 := w.heap.size + 2)
  iterate 4 (focus exact zL)
  try clear hb3
  try clear Lk0
  try clear Fk0
  try clear Qk0
  try clear Lk1
  try clear Fk1
  try clear Qk1
  try clear Lk2
  try clear Fk2
  try clear Qk2
  try clear hb0
  try clear k0
  try clear k1
  try clear k2
  intro we hb0 k0 k1 k2
  (try simp only [List.setIfInBounds_toArray, List.set_cons_zero, List.set_cons_succ] at k0 k1 k2)
  have Lk0 := k0.later
  have Fk0 := k0.laterF
  have Qk0 := k0.lt
  have Lk1 := k1.later
  have Fk1 := k1.laterF
  have Qk1 := k1.lt
  have Lk2 := k2.later
  have Fk2 := k2.laterF
  have Qk2 := k2.lt
  go_upto_region 11 with fail
  clear hD2
  go_upto_region 13 with (go_at_call 27; (with_reducible refine (hrp.out _ (bl_tr hb0 (by (exact zE)))).mono ?_); rintro e w3 ⟨rfl, hb3⟩; replace hb3 := bl_tt hb3)
  apply absB3 (w0 := w) (g0 := w.heap.size) (g1 := w.heap.size + 1) (g2 := w.heap.size + 2)
  iterate 4 (focus exact zL)
  try clear hb3
  try clear Lk0
  try clear Fk0
  try clear Qk0
  try clear Lk1
  try clear Fk1
  try clear Qk1
  try clear Lk2
  try clear Fk2
  try clear Qk2
  try clear hb0
  try clear k0
  try clear k1
  try clear k2
  intro wf hb0 k0 k1 k2
  (try simp only [List.setIfInBounds_toArray, List.set_cons_zero, List.set_cons_succ] at k0 k1 k2)
  have Lk0 := k0.later
  have Fk0 := k0.laterF
  have Qk0 := k0.lt
  have Lk1 := k1.later
  have Fk1 := k1.laterF
  have Qk1 := k1.lt
  have Lk2 := k2.later
  have Fk2 := k2.laterF
  have Qk2 := k2.lt
  by_cases hT : TE = 0
  case neg =>
    have hT' : (TE != 0) = true := by simp [hT]
    cases RB
    case false =>
      replace hT := Lib.hid hT
      go_wp2_with (go_at_call 20; (with_reducible refine (hte.out _ (bl_tr hb0 (by (exact zE)))).mono ?_); rintro e w3 ⟨rfl, hb3⟩; replace hb3 := bl_tt hb3)
      go_ret
      exact ⟨by simp, hb3 _ hb0⟩
    obtain rfl := hpe.out rfl hT
    clear hT
    go_upto_region 14 with (go_at_call 20; (with_reducible refine (hte.out _ (bl_tr hb0 (by (exact zE)))).mono ?_); rintro e w3 ⟨rfl, hb3⟩; replace hb3 := bl_tt hb3)
    apply absB3 (w0 := w) (g0 := w.heap.size) (g1 := w.heap.size + 1) (g2 := w.heap.size + 2)
    iterate 4 (focus exact zL)
    try clear hb3
    try clear Lk0
    try clear Fk0
    try clear Qk0
    try clear Lk1
    try clear Fk1
    try clear Qk1
    try clear Lk2
    try clear Fk2
    try clear Qk2
    try clear hb0
    try clear k0
    try clear k1
    try clear k2
    intro wg hb0 k0 k1 k2
    (try simp only [List.setIfInBounds_toArray, List.set_cons_zero, List.set_cons_succ] at k0 k1 k2)
    have Lk0 := k0.later
    have Fk0 := k0.laterF
    have Qk0 := k0.lt
    have Lk1 := k1.later
    have Fk1 := k1.laterF
    have Qk1 := k1.lt
    have Lk2 := k2.later
    have Fk2 := k2.laterF
    have Qk2 := k2.lt
    go_wp2_with (go_at_call 28; (with_reducible refine (hlg.out _ (bl_tr hb0 (by (exact zE)))).mono ?_); rintro e w3 ⟨rfl, hb3⟩; replace hb3 := bl_tt hb3)
    go_ret
    exact ⟨by simp, hb3 _ hb0⟩
  subst hT
  replace htk1 := Lib.hid (htk1.out rfl)
  replace hsm1 := Lib.hid (hsm1.out rfl)
  replace Hat := Lib.hid (Hat.out rfl)
  clear hpe hlg
  go_upto_region 15 with (go_at_call 20; (with_reducible refine (hte.out _ (bl_tr hb0 (by (exact zE)))).mono ?_); rintro e w3 ⟨rfl, hb3⟩; replace hb3 := bl_tt hb3)
  apply absB3 (w0 := w) (g0 := w.heap.size) (g1 := w.heap.size + 1) (g2 := w.heap.size + 2)
  iterate 4 (focus exact zL)
  try clear hb3
  try clear Lk0
  try clear Fk0
  try clear Qk0
  try clear Lk1
  try clear Fk1
  try clear Qk1
  try clear Lk2
  try clear Fk2
  try clear Qk2
  try clear hb0
  try clear k0
  try clear k1
  try clear k2
  intro wg hb0 k0 k1 k2
  (try simp only [List.setIfInBounds_toArray, List.set_cons_zero, List.set_cons_succ] at k0 k1 k2)
  have Lk0 := k0.later
  have Fk0 := k0.laterF
  have Qk0 := k0.lt
  have Lk1 := k1.later
  have Fk1 := k1.laterF
  have Qk1 := k1.lt
  have Lk2 := k2.later
  have Fk2 := k2.laterF
  have Qk2 := k2.lt
  refine wp_any (w0 := wg) ⟨[], [], [some 103, some 104, some 105, some 106, some 107, some 108, some 109, some 102, some 110, some 111, some 10, some 11], [[], [0], [], [], [3], [0, 1, 3, 4], [0, 1, 2, 3, 4, 5], [0, 1, 2, 3, 4, 5, 6], [0, 1, 2, 3, 4, 5, 6, 7], [0, 1, 2, 3, 4, 5, 6, 7], [0, 1, 2, 3, 4, 5, 6, 7, 8], [0, 1, 2, 3, 4, 5, 6, 7, 8, 9, 10]], [[], [0], [], [], [3], [4], [1, 2, 5], [1, 5, 6], [1, 5, 6, 7], [1, 5, 6, 7], [1, 5, 6, 8], [1, 5, 6, 9]]⟩ (fun _ => []) (by kernel_rfl) (by kernel_rfl) (by (exact zE)) (fun u => by simp only [putD, Act.put, List.setIfInBounds_toArray, List.set_cons_zero, List.set_cons_succ, Nat.zero_add, Nat.reduceAdd]; rfl) ?_
  apply RGW.on (i := 0) rfl
  · exact zG
  · intro γ u W hcur hd
    clear hd
    (try dsimp only)
    exact ⟨rfl, zS⟩
  · exact zC
  · rfl
  dsimp only [nA, cA]
  apply RGW.gh (⟨fun γ => vNt n.world (.slice (γ 1).A nl (γ 1).c), fun γ W => NtIn n (γ 1).A (γ 1).c W, fun _ => []⟩) (i := 1) rfl
  · exact zG
  · intro γ u W hcur hd
    obtain ⟨⟨h0, -, -⟩, -⟩ := hd
    dsimp only at h0
    (try simp only [h0])
    refine ⟨rfl, fun K hK => ?_⟩
    go_simp
    (go_at_call 10; (with_reducible refine (hcp.out _ (bl_tr hb0 hcur)).mono ?_); rintro e w3 ⟨Ax, cx, rfl, hb3, hox⟩; dsimp only; exact hK.out ⟨0, undef, Ax, cx⟩ _ _ (by simp [up]) hb3 (by simpa [up] using hox) (by simp))
  · intro γ γ' hg
    try dsimp only
    have e1 := hg 1 (by decide)
    simp only [e1]
    try exact ⟨trivial, fun _ h => h⟩
  · intro γ W W' hbl hR
    first | exact hR.below hbl | exact own_below hR hbl | exact trivial | exact ⟨hR.1.below hbl, hR.2⟩
  · rfl
  dsimp only [nA, cA]
  apply RGW.on (i := 2) rfl
  · exact zG
  · intro γ u W hcur hd
    clear hd
    (try dsimp only)
    exact ⟨rfl, zS⟩
  · exact zC
  · rfl
  dsimp only [nA, cA]
  apply RGW.on (i := 3) rfl
  · exact zG
  · intro γ u W hcur hd
    clear hd
    (try dsimp only)
    exact ⟨rfl, zS⟩
  · exact zC
  · rfl
  dsimp only [nA, cA]
  apply RGW.on (i := 4) rfl
  · exact zG
  · intro γ u W hcur hd
    obtain ⟨⟨h3, -, -⟩, -⟩ := hd
    dsimp only at h3
    (try simp only [h3])
    exact ⟨rfl, zS⟩
  · exact zC
  · rfl
  dsimp only [nA, cA]
  apply RGW.gh (⟨fun γ => .slice (γ 5).A ll (γ 5).c, fun γ W => StsAs L (γ 5).A W, fun _ => []⟩) (i := 5) rfl
  · exact zG
  · intro γ u W hcur hd
    obtain ⟨⟨h4, -, -⟩, -⟩ := hd
    dsimp only at h4
    (try simp only [h4])
    refine ⟨rfl, fun K hK => ?_⟩
    go_simp
    (go_at_call 11; (with_reducible refine (hcy.out _ (bl_tr hb0 hcur)).mono ?_); rintro e w3 ⟨Ax, cx, rfl, hb3, hox⟩; dsimp only; exact hK.out ⟨0, undef, Ax, cx⟩ _ _ (by simp [up]) hb3 (by simpa [up] using hox) (by simp))
  · intro γ γ' hg
    try dsimp only
    have e1 := hg 1 (by decide)
    have e5 := hg 5 (by decide)
    simp only [e1, e5]
    try exact ⟨trivial, fun _ h => h⟩
  · intro γ W W' hbl hR
    first | exact hR.below hbl | exact own_below hR hbl | exact trivial | exact ⟨hR.1.below hbl, hR.2⟩
  · rfl
  dsimp only [nA, cA]
  apply RGW.gh (⟨fun γ => .tuple #[.slice (γ 6).A ll (γ 6).c, .int .i64 0], fun γ W => Sl cBox 6 W (γ 6).A TR, fun _ => []⟩) (i := 6) rfl
  · exact zG
  · intro γ u W hcur hd
    obtain ⟨⟨h1, r1, -⟩, ⟨h2, -, -⟩, ⟨h5, r5, -⟩, -⟩ := hd
    dsimp only at h1 h2 h5 r1 r5
    (try simp only [h1, h2, h5])
    refine ⟨rfl, fun K hK => ?_⟩
    go_simp
    (go_at_call 18; (with_reducible refine (htk1.out _ _ _ _ _ r1 r5).mono ?_); rintro e w3 ⟨Ax, cx, rfl, hb3, hox⟩; dsimp only; exact hK.out ⟨0, undef, Ax, cx⟩ _ _ (by simp [up]) hb3 (by simpa [up] using hox) (by simp))
  · intro γ γ' hg
    try dsimp only
    have e1 := hg 1 (by decide)
    have e5 := hg 5 (by decide)
    have e6 := hg 6 (by decide)
    simp only [e1, e5, e6]
    try exact ⟨trivial, fun _ h => h⟩
  · intro γ W W' hbl hR
    first | exact hR.below hbl | exact own_below hR hbl | exact trivial | exact ⟨hR.1.below hbl, hR.2⟩
  · rfl
  dsimp only [nA, cA]
  apply RGW.on (i := 7) rfl
  · exact zG
  · intro γ u W hcur hd
    obtain ⟨⟨h1, r1, -⟩, ⟨h5, r5, -⟩, ⟨h6, r6, -⟩, -⟩ := hd
    dsimp only at h1 h5 h6 r1 r5 r6
    (try simp only [h1, h5, h6])
    exact ⟨rfl, zS⟩
  · intro γ γ' hg
    try dsimp only
    have e1 := hg 1 (by decide)
    have e5 := hg 5 (by decide)
    have e6 := hg 6 (by decide)
    simp only [e1, e5, e6]
  · rfl
  dsimp only [nA, cA]
  apply RGW.on (i := 8) rfl
  · exact zG
  · intro γ u W hcur hd
    obtain ⟨⟨h1, r1, -⟩, ⟨h5, r5, -⟩, ⟨h6, r6, -⟩, ⟨h7, -, -⟩, -⟩ := hd
    dsimp only at h1 h5 h6 h7 r1 r5 r6
    (try simp only [h1, h5, h6, h7])
    exact ⟨rfl, zS⟩
  · intro γ γ' hg
    try dsimp only
    have e1 := hg 1 (by decide)
    have e5 := hg 5 (by decide)
    have e6 := hg 6 (by decide)
    simp only [e1, e5, e6]
  · rfl
  dsimp only [nA, cA]
  apply RGW.on (i := 9) rfl
  · exact zG
  · intro γ u W hcur hd
    obtain ⟨⟨h1, r1, -⟩, ⟨h5, r5, -⟩, ⟨h6, r6, -⟩, ⟨h7, -, -⟩, -⟩ := hd
    dsimp only at h1 h5 h6 h7 r1 r5 r6
    (try simp only [h1, h5, h6, h7])
    exact ⟨rfl, zS⟩
  · exact zC
  · rfl
  dsimp only [nA, cA]
  apply RGW.on (i := 10) rfl
  · exact zG
  · intro γ u W hcur hd
    obtain ⟨⟨h1, r1, -⟩, ⟨h5, r5, -⟩, ⟨h6, r6, -⟩, ⟨h8, -, -⟩, -⟩ := hd
    dsimp only at h1 h5 h6 h8 r1 r5 r6
    (try simp only [h1, h5, h6, h8])
    exact ⟨rfl, zS⟩
  · intro γ γ' hg
    try dsimp only
    have e1 := hg 1 (by decide)
    have e5 := hg 5 (by decide)
    have e6 := hg 6 (by decide)
    simp only [e1, e5, e6]
  · rfl
  dsimp only [nA, cA]
  apply RGW.on (i := 11) rfl
  · exact zG
  · intro γ u W hcur hd
    obtain ⟨⟨h1, r1, -⟩, ⟨h5, r5, -⟩, ⟨h6, r6, -⟩, ⟨h9, -, -⟩, -⟩ := hd
    dsimp only at h1 h5 h6 h9 r1 r5 r6
    (try simp only [h1, h5, h6, h9])
    exact ⟨rfl, zS⟩
  · exact zC
  · rfl
  dsimp only [nA, cA]
  refine RGW.fin (fun γ u wh hwh hd hdis => ?_)
  obtain ⟨⟨h0, -, -⟩, ⟨h1, r1, b1⟩, ⟨h2, -, -⟩, ⟨h3, -, -⟩, ⟨h4, -, -⟩, ⟨h5, r5, b5⟩, ⟨h6, r6, b6⟩, ⟨h7, -, -⟩, ⟨h8, -, -⟩, ⟨h9, -, -⟩, ⟨h10, -, -⟩, ⟨h11, -, -⟩, -⟩ := hd
  dsimp only at h0 h1 h2 h3 h4 h5 h6 h7 h8 h9 h10 h11 r1 r5 r6 b1 b5 b6
  clear hdis
  simp only [h0, h1, h2, h3, h4, h5, h6, h7, h8, h9, h10, h11]
  clear h11 h10 h9 h8 h7 h6 h5 h4 h3 h2 h1 h0
  clear u
  simp only [List.map_nil]
  refine PlanW.done ?_
  have hb3 := bl_tt hwh
  have ht5 := Lib.hid r6
  clear r1 r5 r6
  generalize (γ 6).A = At at *
  generalize (γ 6).c = ct at *
  have hbw := bl_tr hb0 hwh
  replace k0 := k0.below hwh
  replace k1 := k1.below hwh
  replace k2 := k2.below hwh
  clear hb0 Lk0 Lk1 Lk2 Fk0 Fk1 Fk2 hb3
  have hb0 := bl_refl wh
  have Lk0 := k0.later
  have Fk0 := k0.laterF
  have Qk0 := k0.lt
  have Lk1 := k1.later
  have Fk1 := k1.laterF
  have Qk1 := k1.lt
  have Lk2 := k2.later
  have Fk2 := k2.laterF
  have Qk2 := k2.lt
  go_upto_region 16 with fail
  refine wp_any (w0 := wh) ⟨[], [], [some 113, some 114, some 115, some 116, some 117, some 118, some 119, some 112, some 120, some 121, some 12, some 13], [[], [0], [], [], [3], [0, 1, 3, 4], [0, 1, 2, 3, 4, 5], [0, 1, 2, 3, 4, 5, 6], [0, 1, 2, 3, 4, 5, 6, 7], [0, 1, 2, 3, 4, 5, 6, 7], [0, 1, 2, 3, 4, 5, 6, 7, 8], [0, 1, 2, 3, 4, 5, 6, 7, 8, 9, 10]], [[], [0], [], [], [3], [4], [1, 2, 5], [1, 5, 6], [1, 5, 6, 7], [1, 5, 6, 7], [1, 5, 6, 8], [1, 5, 6, 9]]⟩ (fun _ => []) (by kernel_rfl) (by kernel_rfl) (by (exact zE)) (fun u => by simp only [putD, Act.put, List.setIfInBounds_toArray, List.set_cons_zero, List.set_cons_succ, Nat.zero_add, Nat.reduceAdd]; rfl) ?_
  apply RGW.on (i := 0) rfl
  · exact zG
  · intro γ u W hcur hd
    clear hd
    (try dsimp only)
    exact ⟨rfl, zS⟩
  · exact zC
  · rfl
  dsimp only [nA, cA]
  apply RGW.gh (⟨fun γ => vNt n.world (.slice (γ 1).A nl (γ 1).c), fun γ W => NtIn n (γ 1).A (γ 1).c W, fun _ => []⟩) (i := 1) rfl
  · exact zG
  · intro γ u W hcur hd
    obtain ⟨⟨h0, -, -⟩, -⟩ := hd
    dsimp only at h0
    (try simp only [h0])
    refine ⟨rfl, fun K hK => ?_⟩
    go_simp
    (go_at_call 10; (with_reducible refine (hcp.out _ (bl_tr hbw (bl_tr hb0 hcur))).mono ?_); rintro e w3 ⟨Ax, cx, rfl, hb3, hox⟩; dsimp only; exact hK.out ⟨0, undef, Ax, cx⟩ _ _ (by simp [up]) hb3 (by simpa [up] using hox) (by simp))
  · intro γ γ' hg
    try dsimp only
    have e1 := hg 1 (by decide)
    simp only [e1]
    try exact ⟨trivial, fun _ h => h⟩
  · intro γ W W' hbl hR
    first | exact hR.below hbl | exact own_below hR hbl | exact trivial | exact ⟨hR.1.below hbl, hR.2⟩
  · rfl
  dsimp only [nA, cA]
  apply RGW.on (i := 2) rfl
  · exact zG
  · intro γ u W hcur hd
    clear hd
    (try dsimp only)
    exact ⟨rfl, zS⟩
  · exact zC
  · rfl
  dsimp only [nA, cA]
  apply RGW.on (i := 3) rfl
  · exact zG
  · intro γ u W hcur hd
    clear hd
    (try dsimp only)
    exact ⟨rfl, zS⟩
  · exact zC
  · rfl
  dsimp only [nA, cA]
  apply RGW.on (i := 4) rfl
  · exact zG
  · intro γ u W hcur hd
    obtain ⟨⟨h3, -, -⟩, -⟩ := hd
    dsimp only at h3
    (try simp only [h3])
    exact ⟨rfl, zS⟩
  · exact zC
  · rfl
  dsimp only [nA, cA]
  apply RGW.gh (⟨fun γ => .slice (γ 5).A ll (γ 5).c, fun γ W => StsAs L (γ 5).A W, fun _ => []⟩) (i := 5) rfl
  · exact zG
  · intro γ u W hcur hd
    obtain ⟨⟨h4, -, -⟩, -⟩ := hd
    dsimp only at h4
    (try simp only [h4])
    refine ⟨rfl, fun K hK => ?_⟩
    go_simp
    (go_at_call 11; (with_reducible refine (hcy.out _ (bl_tr hbw (bl_tr hb0 hcur))).mono ?_); rintro e w3 ⟨Ax, cx, rfl, hb3, hox⟩; dsimp only; exact hK.out ⟨0, undef, Ax, cx⟩ _ _ (by simp [up]) hb3 (by simpa [up] using hox) (by simp))
  · intro γ γ' hg
    try dsimp only
    have e1 := hg 1 (by decide)
    have e5 := hg 5 (by decide)
    simp only [e1, e5]
    try exact ⟨trivial, fun _ h => h⟩
  · intro γ W W' hbl hR
    first | exact hR.below hbl | exact own_below hR hbl | exact trivial | exact ⟨hR.1.below hbl, hR.2⟩
  · rfl
  dsimp only [nA, cA]
  apply RGW.gh (⟨fun γ => .tuple #[.slice (γ 6).A (ll + 1) (γ 6).c, .int .i64 0], fun γ W => Sl cBox 6 W (γ 6).A SM, fun _ => []⟩) (i := 6) rfl
  · exact zG
  · intro γ u W hcur hd
    obtain ⟨⟨h1, r1, -⟩, ⟨h2, -, -⟩, ⟨h5, r5, -⟩, -⟩ := hd
    dsimp only at h1 h2 h5 r1 r5
    (try simp only [h1, h2, h5])
    refine ⟨rfl, fun K hK => ?_⟩
    go_simp
    (go_at_call 19; (with_reducible refine (hsm1.out _ _ _ _ _ r1 r5).mono ?_); rintro e w3 ⟨Ax, cx, rfl, hb3, hox⟩; dsimp only; exact hK.out ⟨0, undef, Ax, cx⟩ _ _ (by simp [up]) hb3 (by simpa [up] using hox) (by simp))
  · intro γ γ' hg
    try dsimp only
    have e1 := hg 1 (by decide)
    have e5 := hg 5 (by decide)
    have e6 := hg 6 (by decide)
    simp only [e1, e5, e6]
    try exact ⟨trivial, fun _ h => h⟩
  · intro γ W W' hbl hR
    first | exact hR.below hbl | exact own_below hR hbl | exact trivial | exact ⟨hR.1.below hbl, hR.2⟩
  · rfl
  dsimp only [nA, cA]
  apply RGW.on (i := 7) rfl
  · exact zG
  · intro γ u W hcur hd
    obtain ⟨⟨h1, r1, -⟩, ⟨h5, r5, -⟩, ⟨h6, r6, -⟩, -⟩ := hd
    dsimp only at h1 h5 h6 r1 r5 r6
    (try simp only [h1, h5, h6])
    exact ⟨rfl, zS⟩
  · intro γ γ' hg
    try dsimp only
    have e1 := hg 1 (by decide)
    have e5 := hg 5 (by decide)
    have e6 := hg 6 (by decide)
    simp only [e1, e5, e6]
  · rfl
  dsimp only [nA, cA]
  apply RGW.on (i := 8) rfl
  · exact zG
  · intro γ u W hcur hd
    obtain ⟨⟨h1, r1, -⟩, ⟨h5, r5, -⟩, ⟨h6, r6, -⟩, ⟨h7, -, -⟩, -⟩ := hd
    dsimp only at h1 h5 h6 h7 r1 r5 r6
    (try simp only [h1, h5, h6, h7])
    exact ⟨rfl, zS⟩
  · intro γ γ' hg
    try dsimp only
    have e1 := hg 1 (by decide)
    have e5 := hg 5 (by decide)
    have e6 := hg 6 (by decide)
    simp only [e1, e5, e6]
  · rfl
  dsimp only [nA, cA]
  apply RGW.on (i := 9) rfl
  · exact zG
  · intro γ u W hcur hd
    obtain ⟨⟨h1, r1, -⟩, ⟨h5, r5, -⟩, ⟨h6, r6, -⟩, ⟨h7, -, -⟩, -⟩ := hd
    dsimp only at h1 h5 h6 h7 r1 r5 r6
    (try simp only [h1, h5, h6, h7])
    exact ⟨rfl, zS⟩
  · exact zC
  · rfl
  dsimp only [nA, cA]
  apply RGW.on (i := 10) rfl
  · exact zG
  · intro γ u W hcur hd
    obtain ⟨⟨h1, r1, -⟩, ⟨h5, r5, -⟩, ⟨h6, r6, -⟩, ⟨h8, -, -⟩, -⟩ := hd
    dsimp only at h1 h5 h6 h8 r1 r5 r6
    (try simp only [h1, h5, h6, h8])
    exact ⟨rfl, zS⟩
  · intro γ γ' hg
    try dsimp only
    have e1 := hg 1 (by decide)
    have e5 := hg 5 (by decide)
    have e6 := hg 6 (by decide)
    simp only [e1, e5, e6]
  · rfl
  dsimp only [nA, cA]
  apply RGW.on (i := 11) rfl
  · exact zG
  · intro γ u W hcur hd
    obtain ⟨⟨h1, r1, -⟩, ⟨h5, r5, -⟩, ⟨h6, r6, -⟩, ⟨h9, -, -⟩, -⟩ := hd
    dsimp only at h1 h5 h6 h9 r1 r5 r6
    (try simp only [h1, h5, h6, h9])
    exact ⟨rfl, zS⟩
  · exact zC
  · rfl
  dsimp only [nA, cA]
  refine RGW.fin (fun γ u wi hwi hd hdis => ?_)
  obtain ⟨⟨h0, -, -⟩, ⟨h1, r1, b1⟩, ⟨h2, -, -⟩, ⟨h3, -, -⟩, ⟨h4, -, -⟩, ⟨h5, r5, b5⟩, ⟨h6, r6, b6⟩, ⟨h7, -, -⟩, ⟨h8, -, -⟩, ⟨h9, -, -⟩, ⟨h10, -, -⟩, ⟨h11, -, -⟩, -⟩ := hd
  dsimp only at h0 h1 h2 h3 h4 h5 h6 h7 h8 h9 h10 h11 r1 r5 r6 b1 b5 b6
  clear hdis
  simp only [h0, h1, h2, h3, h4, h5, h6, h7, h8, h9, h10, h11]
  clear h11 h10 h9 h8 h7 h6 h5 h4 h3 h2 h1 h0
  clear u
  simp only [List.map_nil]
  refine PlanW.done ?_
  have hb3 := bl_tt hwi
  have hs6 := Lib.hid r6
  have ht6 := Lib.hid (ht5.out.below hwi)
  clear r1 r5 r6 ht5
  generalize (γ 6).A = As at *
  generalize (γ 6).c = cs at *
  have hbx := bl_tr hbw hwi
  replace k0 := k0.below hwi
  replace k1 := k1.below hwi
  replace k2 := k2.below hwi
  clear hb0 hbw Lk0 Lk1 Lk2 Fk0 Fk1 Fk2 hb3
  have hbw := hbx
  clear hbx
  have hb0 := bl_refl wi
  have Lk0 := k0.later
  have Fk0 := k0.laterF
  have Qk0 := k0.lt
  have Lk1 := k1.later
  have Fk1 := k1.laterF
  have Qk1 := k1.lt
  have Lk2 := k2.later
  have Fk2 := k2.laterF
  have Qk2 := k2.lt
  go_wp2
  go_loopw [14] (fun i wr => ∃ j : Nat, j ≤ ll + 1 ∧ i = .int .i64 j ∧ Below wi.heap.size wi wr) (fun i _ => ll + 1 - (intOf i).toNat)
  case atStart => exact ⟨0, Nat.zero_le _, rfl, bl_refl _⟩
  case round =>
    clear Lk0 Lk1 Lk2 Fk0 Fk1 Fk2 hb0
    obtain ⟨j, hj, rfl, hbr⟩ := hrel
    by_cases hjl : j < ll + 1
    case neg =>
      obtain rfl : j = ll + 1 := by omega
      go_wp2
      go_ret
      exact ⟨rfl, bl_tr hbw hbr⟩
    have hc : BT[j]? = some (BT[j]'(by rw [Hbl.out]; exact hjl)) := List.getElem?_eq_getElem _
    generalize BT[j]'(by rw [Hbl.out]; exact hjl) = c1 at hc
    have hd : SM[j]? = some (SM[j]'(by rw [Hlen.out]; exact hjl)) := List.getElem?_eq_getElem _
    generalize SM[j]'(by rw [Hlen.out]; exact hjl) = d at hd
    have hq : t[j]? = some (t[j]'(by rw [Htn.out, htl1.out]; exact hjl)) := List.getElem?_eq_getElem _
    generalize t[j]'(by rw [Htn.out, htl1.out]; exact hjl) = q at hq
    obtain ⟨hord, hmeet, hhas⟩ := Hat.out j c1 d q hc hd hq
    replace hhas := Lib.hid hhas
    have hie := Lib.hid fun (W : World) => r_IsEmpty d W
    rw [hord] at hie
    simp only [Bool.not_true] at hie
    have hco := Lib.hid fun (W : World) => r_Common c1 d W
    rw [hmeet] at hco
    have his1 := Lib.hid fun (W : World) => r_IsIn d q W
    have his2 := Lib.hid fun (W : World) => r_IsIn c1 q W
    clear hord hmeet
    obtain ⟨sb, so, hAs, hsc⟩ := hs6.out j d hd
    obtain ⟨pb, po, hAP, hqc⟩ := Ht.out j q hq
    replace hsc := Lib.hid hsc
    replace hqc := Lib.hid hqc
    replace hd := Lib.hid hd
    replace hq := Lib.hid hq
    subst hAs hAP
    have hjt : j < tl := by rw [htl1.out]; exact hjl
    have hjs : (j : Int) < (ll : Int) + 1 := by omega
    have k1 := k1.below hbr
    have k2 := k2.below hbr
    have hb0 := bl_refl wr
    have hzr : w.heap.size + 2 < wr.heap.size := k2.lt
    have Lk1 := k1.later
    have Fk1 := k1.laterF
    have Qk1 := k1.lt
    have Lk2 := k2.later
    have Fk2 := k2.laterF
    have Qk2 := k2.lt
    by_cases hj0 : 0 < j
    case neg =>
      have hz1 : decide ((0 : Int) < (j : Int)) = false := by simp; omega
      have hz2 : decide (0 < j) = false := by simp; omega
      have hcb := Hb0.out
      rw [show j = 0 by omega] at hc
      obtain rfl : b = c1 := Option.some.inj (hcb.symm.trans hc)
      clear hcb hc
      replace hj0 := Lib.hid hj0
      go_upto_region 25 with fail
      apply absB3 (w0 := wr) (g0 := w.heap.size + 1) (g1 := w.heap.size + 2) (g2 := wr.heap.size)
      iterate 4 (focus exact zL)
      try clear hb3
      try clear Lk1
      try clear Fk1
      try clear Qk1
      try clear Lk2
      try clear Fk2
      try clear Qk2
      try clear hb0
      try clear k1
      try clear k2
      try clear k5
      intro x0 hb0 k1 k2 k5
      (try simp only [List.setIfInBounds_toArray, List.set_cons_zero, List.set_cons_succ] at k1 k2 k5)
      have Lk1 := k1.later
      have Fk1 := k1.laterF
      have Qk1 := k1.lt
      have Lk2 := k2.later
      have Fk2 := k2.laterF
      have Qk2 := k2.lt
      have Lk5 := k5.later
      have Fk5 := k5.laterF
      have Qk5 := k5.lt
      clear hz1 hz2
      have hbx := bl_tr hbr hb0
      have d0 : ∀ W, Below _ _ W → W.cell? ⟨sb, so + j * 6, none⟩ = some (.int .i64 d.x.lo) := later (kcell hbx (hsc.out 0 _ rfl))
      have d1 : ∀ W, Below _ _ W → W.cell? ⟨sb, so + j * 6 + 1, none⟩ = some (.int .i64 d.x.hi) := later (kcell hbx (hsc.out 1 _ rfl))
      have d2 : ∀ W, Below _ _ W → W.cell? ⟨sb, so + j * 6 + 2, none⟩ = some (.int .i64 d.y.lo) := later (kcell hbx (hsc.out 2 _ rfl))
      have d3 : ∀ W, Below _ _ W → W.cell? ⟨sb, so + j * 6 + 3, none⟩ = some (.int .i64 d.y.hi) := later (kcell hbx (hsc.out 3 _ rfl))
      have d4 : ∀ W, Below _ _ W → W.cell? ⟨sb, so + j * 6 + 4, none⟩ = some (.int .i64 d.z.lo) := later (kcell hbx (hsc.out 4 _ rfl))
      have d5 : ∀ W, Below _ _ W → W.cell? ⟨sb, so + j * 6 + 5, none⟩ = some (.int .i64 d.z.hi) := later (kcell hbx (hsc.out 5 _ rfl))
      have q0 : ∀ W, Below _ _ W → W.cell? ⟨pb, po + j * 3, none⟩ = some (.int .i64 q.x) := later (kcell (bl_tr hbw hbx) (hqc.out 0 _ rfl))
      have q1 : ∀ W, Below _ _ W → W.cell? ⟨pb, po + j * 3 + 1, none⟩ = some (.int .i64 q.y) := later (kcell (bl_tr hbw hbx) (hqc.out 1 _ rfl))
      have q2 : ∀ W, Below _ _ W → W.cell? ⟨pb, po + j * 3 + 2, none⟩ = some (.int .i64 q.z) := later (kcell (bl_tr hbw hbx) (hqc.out 2 _ rfl))
      cases RB
      case false =>
        refine wp_any (w0 := x0) ⟨[], [], [some 159, some 160, some 161, some 162, some 163, some 164, some 165, some 166, some 167, some 168, some 169, some 170, some 171, some 172, some 173, some 174, some 175, some 176, some 177, some 178, some 179, some 180, some 181, some 182, some 183, some 184, some 185, some 186, some 187, some 188, some 189, some 190, some 191, some 192, some 193, some 194, some 195, some 196, some 197, some 198, some 199, some 200, some 201, some 202], [[], [], [0, 1], [0, 1, 2], [0, 1, 2, 3], [0, 1, 2, 3, 4], [0, 1, 2, 3, 4, 5], [0, 1, 2, 3, 4, 5], [0, 1, 2, 3, 4, 5], [0, 1, 2, 3, 4, 5, 7, 8], [0, 1, 2, 3, 4, 5, 7, 8, 9], [0, 1, 2, 3, 4, 5, 6, 7, 8, 9, 10], [0, 1, 2, 3, 4, 5], [0, 1, 2, 3, 4, 5], [0, 1, 2, 3, 4, 5, 12, 13], [0, 1, 2, 3, 4, 5, 12, 13, 14], [0, 1, 2, 3, 4, 5, 6, 7, 8, 9, 10, 11, 12, 13, 14, 15], [0, 1, 2, 3, 4, 5, 6, 7, 8, 9, 10, 11, 12, 13, 14, 15, 16], [0, 1, 2, 3, 4, 5, 6, 7, 8, 9, 10, 11, 12, 13, 14, 15, 16, 17], [0, 1, 2, 3, 4, 5, 6, 7, 8, 9, 10, 11, 12, 13, 14, 15, 16, 17, 18], [0, 1, 2, 3, 4, 5, 6, 7, 8, 9, 10, 11, 12, 13, 14, 15, 16, 17, 18, 19], [0, 1, 2, 3, 4, 5, 6, 7, 8, 9, 10, 11, 12, 13, 14, 15, 16, 17, 18, 19, 20], [0, 1, 2, 3, 4, 5, 6, 7, 8, 9, 10, 11, 12, 13, 14, 15, 16, 17, 18, 19, 20], [0, 1, 2, 3, 4, 5, 6, 7, 8, 9, 10, 11, 12, 13, 14, 15, 16, 17, 18, 19, 20, 21, 22], [0, 1, 2, 3, 4, 5, 6, 7, 8, 9, 10, 11, 12, 13, 14, 15, 16, 17, 18, 19, 20, 21, 22, 23], [0, 1, 2, 3, 4, 5, 6, 7, 8, 9, 10, 11, 12, 13, 14, 15, 16, 17, 18, 19, 20], [0, 1, 2, 3, 4, 5, 6, 7, 8, 9, 10, 11, 12, 13, 14, 15, 16, 17, 18, 19, 20, 25], [0, 1, 2, 3, 4, 5, 6, 7, 8, 9, 10, 11, 12, 13, 14, 15, 16, 17, 18, 19, 20], [0, 1, 2, 3, 4, 5, 6, 7, 8, 9, 10, 11, 12, 13, 14, 15, 16, 17, 18, 19, 20, 25, 26, 27], [0, 1, 2, 3, 4, 5, 6, 7, 8, 9, 10, 11, 12, 13, 14, 15, 16, 17, 18, 19, 20, 25, 26, 27, 28], [0, 1, 2, 3, 4, 5, 6, 7, 8, 9, 10, 11, 12, 13, 14, 15, 16, 17, 18, 19, 20, 21, 22, 23, 24, 25, 26, 27, 28, 29], [0, 1, 2, 3, 4, 5, 6, 7, 8, 9, 10, 11, 12, 13, 14, 15, 16, 17, 18, 19, 20, 21, 22, 23, 24, 25, 26, 27, 28, 29, 30], [0, 1, 2, 3, 4, 5, 6, 7, 8, 9, 10, 11, 12, 13, 14, 15, 16, 17, 18, 19, 20, 21, 22, 23, 24, 25, 26, 27, 28, 29, 30, 31], [0, 1, 2, 3, 4, 5, 6, 7, 8, 9, 10, 11, 12, 13, 14, 15, 16, 17, 18, 19, 20, 21, 22, 23, 24, 25, 26, 27, 28, 29, 30, 31, 32], [0, 1, 2, 3, 4, 5, 6, 7, 8, 9, 10, 11, 12, 13, 14, 15, 16, 17, 18, 19, 20, 21, 22, 23, 24, 25, 26, 27, 28, 29, 30, 31, 32], [0, 1, 2, 3, 4, 5, 6, 7, 8, 9, 10, 11, 12, 13, 14, 15, 16, 17, 18, 19, 20, 21, 22, 23, 24, 25, 26, 27, 28, 29, 30, 31, 32, 34], [0, 1, 2, 3, 4, 5, 6, 7, 8, 9, 10, 11, 12, 13, 14, 15, 16, 17, 18, 19, 20, 21, 22, 23, 24, 25, 26, 27, 28, 29, 30, 31, 32], [0, 1, 2, 3, 4, 5, 6, 7, 8, 9, 10, 11, 12, 13, 14, 15, 16, 17, 18, 19, 20, 21, 22, 23, 24, 25, 26, 27, 28, 29, 30, 31, 32, 34, 35, 36], [0, 1, 2, 3, 4, 5, 6, 7, 8, 9, 10, 11, 12, 13, 14, 15, 16, 17, 18, 19, 20, 21, 22, 23, 24, 25, 26, 27, 28, 29, 30, 31, 32, 34, 35, 36, 37], [0, 1, 2, 3, 4, 5, 6, 7, 8, 9, 10, 11, 12, 13, 14, 15, 16, 17, 18, 19, 20, 21, 22, 23, 24, 25, 26, 27, 28, 29, 30, 31, 32, 33, 34, 35, 36, 37, 38], [0, 1, 2, 3, 4, 5, 6, 7, 8, 9, 10, 11, 12, 13, 14, 15, 16, 17, 18, 19, 20, 21, 22, 23, 24, 25, 26, 27, 28, 29, 30, 31, 32, 33, 34, 35, 36, 37, 38, 39], [0, 1, 2, 3, 4, 5, 6, 7, 8, 9, 10, 11, 12, 13, 14, 15, 16, 17, 18, 19, 20, 21, 22, 23, 24, 25, 26, 27, 28, 29, 30, 31, 32, 33, 34, 35, 36, 37, 38, 39, 40], [0, 1, 2, 3, 4, 5, 6, 7, 8, 9, 10, 11, 12, 13, 14, 15, 16, 17, 18, 19, 20, 21, 22, 23, 24, 25, 26, 27, 28, 29, 30, 31, 32, 33, 34, 35, 36, 37, 38, 39, 40, 41], [0, 1, 2, 3, 4, 5, 6, 7, 8, 9, 10, 11, 12, 13, 14, 15, 16, 17, 18, 19, 20, 21, 22, 23, 24, 25, 26, 27, 28, 29, 30, 31, 32, 33, 34, 35, 36, 37, 38, 39, 40, 41, 42]], [[], [], [0, 1], [2], [3], [4], [5], [5], [5], [5, 7, 8], [5, 9], [5, 6, 10], [5], [5], [5, 12, 13], [5, 14], [5, 11, 15], [5, 16], [17], [18], [18, 19], [20], [20], [20, 21, 22], [20, 23], [20], [20, 25], [20], [20, 26, 27], [20, 28], [20, 24, 29], [20, 30], [20, 31], [32], [32], [32, 34], [32], [32, 35, 36], [32, 37], [32, 33, 38], [32, 39], [20, 32, 40], [18, 20, 41], [18, 42]]⟩ (fun _ => []) (by kernel_rfl) (by kernel_rfl) (by (exact zE)) (fun u => by simp only [putD, Act.put, List.setIfInBounds_toArray, List.set_cons_zero, List.set_cons_succ, Nat.zero_add, Nat.reduceAdd]; rfl) ?_
        apply RGW.on (i := 0) rfl
        · exact zG
        · intro γ u W hcur hd
          clear hd
          (try dsimp only)
          exact ⟨rfl, zS⟩
        · exact zC
        · rfl
        dsimp only [nA, cA]
        apply RGW.on (i := 1) rfl
        · exact zG
        · intro γ u W hcur hd
          clear hd
          (try dsimp only)
          exact ⟨rfl, zS⟩
        · exact zC
        · rfl
        dsimp only [nA, cA]
        apply RGW.on (i := 2) rfl
        · exact zG
        · intro γ u W hcur hd
          obtain ⟨⟨h0, -, -⟩, ⟨h1, -, -⟩, -⟩ := hd
          dsimp only at h0 h1
          (try simp only [h0, h1])
          exact ⟨rfl, zS⟩
        · exact zC
        · rfl
        dsimp only [nA, cA]
        apply RGW.on (i := 3) rfl
        · exact zG
        · intro γ u W hcur hd
          obtain ⟨⟨h2, -, -⟩, -⟩ := hd
          dsimp only at h2
          (try simp only [h2])
          exact ⟨rfl, zS⟩
        · exact zC
        · rfl
        dsimp only [nA, cA]
        apply RGW.call (i := 4) rfl
        · exact zG
        · intro γ u W hcur hd
          obtain ⟨⟨h3, -, -⟩, -⟩ := hd
          dsimp only at h3
          (try simp only [h3])
          refine ⟨rfl, fun K hK => ?_⟩
          go_simp
          (go_at_call 29; (with_reducible refine (hie.out _).mono ?_); rintro e w3 ⟨rfl, hb3⟩; replace hb3 := bl_tt hb3)
          (try dsimp only)
          exact hK.out _ _ rfl (by (exact zE))
        · exact zC
        · rfl
        dsimp only [nA, cA]
        apply RGW.on (i := 5) rfl
        · exact zG
        · intro γ u W hcur hd
          obtain ⟨⟨h4, -, -⟩, -⟩ := hd
          dsimp only at h4
          (try simp only [h4])
          exact ⟨rfl, zS⟩
        · exact zC
        · rfl
        dsimp only [nA, cA]
        apply RGW.on (i := 6) rfl
        · exact zG
        · intro γ u W hcur hd
          obtain ⟨⟨h5, -, -⟩, -⟩ := hd
          dsimp only at h5
          (try simp only [h5])
          refine ⟨?_, ?_⟩
          · (simp [Region.wanted, yielded, undef, *]; done)
          exact zS
        · exact zC
        · rfl
        dsimp only [nA, cA]
        apply RGW.on (i := 7) rfl
        · exact zG
        · intro γ u W hcur hd
          obtain ⟨⟨h5, -, -⟩, -⟩ := hd
          dsimp only at h5
          (try simp only [h5])
          refine ⟨?_, ?_⟩
          · (simp [Region.wanted, yielded, undef, *]; done)
          exact zS
        · exact zC
        · rfl
        dsimp only [nA, cA]
        apply RGW.on (i := 8) rfl
        · exact zG
        · intro γ u W hcur hd
          obtain ⟨⟨h5, -, -⟩, -⟩ := hd
          dsimp only at h5
          (try simp only [h5])
          refine ⟨?_, ?_⟩
          · (simp [Region.wanted, yielded, undef, *]; done)
          exact zS
        · exact zC
        · rfl
        dsimp only [nA, cA]
        apply RGW.on (i := 9) rfl
        · exact zG
        · intro γ u W hcur hd
          obtain ⟨⟨h5, -, -⟩, ⟨h7, -, -⟩, ⟨h8, -, -⟩, -⟩ := hd
          dsimp only at h5 h7 h8
          (try simp only [h5, h7, h8])
          refine ⟨?_, ?_⟩
          · (simp [Region.wanted, yielded, undef, *]; done)
          exact zS
        · exact zC
        · rfl
        dsimp only [nA, cA]
        apply RGW.on (i := 10) rfl
        · exact zG
        · intro γ u W hcur hd
          obtain ⟨⟨h5, -, -⟩, ⟨h9, -, -⟩, -⟩ := hd
          dsimp only at h5 h9
          (try simp only [h5, h9])
          refine ⟨?_, ?_⟩
          · (simp [Region.wanted, yielded, undef, *]; done)
          exact zS
        · exact zC
        · rfl
        dsimp only [nA, cA]
        apply RGW.call (i := 11) rfl
        · exact zG
        · intro γ u W hcur hd
          obtain ⟨⟨h5, -, -⟩, ⟨h6, -, -⟩, ⟨h10, -, -⟩, -⟩ := hd
          dsimp only at h5 h6 h10
          (try simp only [h5, h6, h10])
          refine ⟨?_, fun K hK => ?_⟩
          · (simp [Region.wanted, yielded, undef, *]; done)
          go_simp
          (go_at_call 30; (with_reducible refine (hco.out _).mono ?_); rintro e w3 ⟨rfl, hb3⟩; replace hb3 := bl_tt hb3)
          (try dsimp only)
          exact hK.out _ _ rfl (by (exact zE))
        · exact zC
        · rfl
        dsimp only [nA, cA]
        apply RGW.on (i := 12) rfl
        · exact zG
        · intro γ u W hcur hd
          obtain ⟨⟨h5, -, -⟩, -⟩ := hd
          dsimp only at h5
          (try simp only [h5])
          refine ⟨?_, ?_⟩
          · (simp [Region.wanted, yielded, undef, *]; done)
          exact zS
        · exact zC
        · rfl
        dsimp only [nA, cA]
        apply RGW.on (i := 13) rfl
        · exact zG
        · intro γ u W hcur hd
          obtain ⟨⟨h5, -, -⟩, -⟩ := hd
          dsimp only at h5
          (try simp only [h5])
          refine ⟨?_, ?_⟩
          · (simp [Region.wanted, yielded, undef, *]; done)
          exact zS
        · exact zC
        · rfl
        dsimp only [nA, cA]
        apply RGW.on (i := 14) rfl
        · exact zG
        · intro γ u W hcur hd
          obtain ⟨⟨h5, -, -⟩, ⟨h12, -, -⟩, ⟨h13, -, -⟩, -⟩ := hd
          dsimp only at h5 h12 h13
          (try simp only [h5, h12, h13])
          refine ⟨?_, ?_⟩
          · (simp [Region.wanted, yielded, undef, *]; done)
          exact zS
        · exact zC
        · rfl
        dsimp only [nA, cA]
        apply RGW.on (i := 15) rfl
        · exact zG
        · intro γ u W hcur hd
          obtain ⟨⟨h5, -, -⟩, ⟨h14, -, -⟩, -⟩ := hd
          dsimp only at h5 h14
          (try simp only [h5, h14])
          refine ⟨?_, ?_⟩
          · (simp [Region.wanted, yielded, undef, *]; done)
          exact zS
        · exact zC
        · rfl
        dsimp only [nA, cA]
        apply RGW.on (i := 16) rfl
        · exact zG
        · intro γ u W hcur hd
          obtain ⟨⟨h5, -, -⟩, ⟨h11, -, -⟩, ⟨h15, -, -⟩, -⟩ := hd
          dsimp only at h5 h11 h15
          (try simp only [h5, h11, h15])
          refine ⟨?_, ?_⟩
          · (simp [Region.wanted, yielded, undef, *]; done)
          exact zS
        · exact zC
        · rfl
        dsimp only [nA, cA]
        apply RGW.on (i := 17) rfl
        · exact zG
        · intro γ u W hcur hd
          obtain ⟨⟨h5, -, -⟩, ⟨h16, -, -⟩, -⟩ := hd
          dsimp only at h5 h16
          (try simp only [h5, h16])
          exact ⟨rfl, zS⟩
        · exact zC
        · rfl
        dsimp only [nA, cA]
        apply RGW.on (i := 18) rfl
        · exact zG
        · intro γ u W hcur hd
          obtain ⟨⟨h17, -, -⟩, -⟩ := hd
          dsimp only at h17
          (try simp only [h17])
          exact ⟨rfl, zS⟩
        · exact zC
        · rfl
        dsimp only [nA, cA]
        apply RGW.on (i := 19) rfl
        · exact zG
        · intro γ u W hcur hd
          obtain ⟨⟨h18, -, -⟩, -⟩ := hd
          dsimp only at h18
          (try simp only [h18])
          refine ⟨?_, ?_⟩
          · (simp [Region.wanted, yielded, undef, *]; done)
          exact zS
        · exact zC
        · rfl
        dsimp only [nA, cA]
        apply RGW.on (i := 20) rfl
        · exact zG
        · intro γ u W hcur hd
          obtain ⟨⟨h18, -, -⟩, ⟨h19, -, -⟩, -⟩ := hd
          dsimp only at h18 h19
          (try simp only [h18, h19])
          refine ⟨?_, ?_⟩
          · (simp [Region.wanted, yielded, undef, *]; done)
          exact zS
        · exact zC
        · rfl
        dsimp only [nA, cA]
        apply RGW.off (i := 21) rfl
        · exact zG
        · intro γ u W hcur hd
          obtain ⟨⟨h20, -, -⟩, -⟩ := hd
          dsimp only at h20
          (try simp only [h20])
          simp [Region.wanted, yielded, undef, *]
        · rfl
        dsimp only [nA, cA]
        apply RGW.off (i := 22) rfl
        · exact zG
        · intro γ u W hcur hd
          obtain ⟨⟨h20, -, -⟩, -⟩ := hd
          dsimp only at h20
          (try simp only [h20])
          simp [Region.wanted, yielded, undef, *]
        · rfl
        dsimp only [nA, cA]
        apply RGW.off (i := 23) rfl
        · exact zG
        · intro γ u W hcur hd
          obtain ⟨⟨h20, -, -⟩, ⟨h21, -, -⟩, ⟨h22, -, -⟩, -⟩ := hd
          dsimp only at h20 h21 h22
          (try simp only [h20, h21, h22])
          simp [Region.wanted, yielded, undef, *]
        · rfl
        dsimp only [nA, cA]
        apply RGW.off (i := 24) rfl
        · exact zG
        · intro γ u W hcur hd
          obtain ⟨⟨h20, -, -⟩, ⟨h23, -, -⟩, -⟩ := hd
          dsimp only at h20 h23
          (try simp only [h20, h23])
          simp [Region.wanted, yielded, undef, *]
        · rfl
        dsimp only [nA, cA]
        apply RGW.off (i := 25) rfl
        · exact zG
        · intro γ u W hcur hd
          obtain ⟨⟨h20, -, -⟩, -⟩ := hd
          dsimp only at h20
          (try simp only [h20])
          simp [Region.wanted, yielded, undef, *]
        · rfl
        dsimp only [nA, cA]
        apply RGW.off (i := 26) rfl
        · exact zG
        · intro γ u W hcur hd
          obtain ⟨⟨h20, -, -⟩, ⟨h25, -, -⟩, -⟩ := hd
          dsimp only at h20 h25
          (try simp only [h20, h25])
          simp [Region.wanted, yielded, undef, *]
        · rfl
        dsimp only [nA, cA]
        apply RGW.off (i := 27) rfl
        · exact zG
        · intro γ u W hcur hd
          obtain ⟨⟨h20, -, -⟩, -⟩ := hd
          dsimp only at h20
          (try simp only [h20])
          simp [Region.wanted, yielded, undef, *]
        · rfl
        dsimp only [nA, cA]
        apply RGW.off (i := 28) rfl
        · exact zG
        · intro γ u W hcur hd
          obtain ⟨⟨h20, -, -⟩, ⟨h26, -, -⟩, ⟨h27, -, -⟩, -⟩ := hd
          dsimp only at h20 h26 h27
          (try simp only [h20, h26, h27])
          simp [Region.wanted, yielded, undef, *]
        · rfl
        dsimp only [nA, cA]
        apply RGW.off (i := 29) rfl
        · exact zG
        · intro γ u W hcur hd
          obtain ⟨⟨h20, -, -⟩, ⟨h28, -, -⟩, -⟩ := hd
          dsimp only at h20 h28
          (try simp only [h20, h28])
          simp [Region.wanted, yielded, undef, *]
        · rfl
        dsimp only [nA, cA]
        apply RGW.off (i := 30) rfl
        · exact zG
        · intro γ u W hcur hd
          obtain ⟨⟨h20, -, -⟩, ⟨h24, -, -⟩, ⟨h29, -, -⟩, -⟩ := hd
          dsimp only at h20 h24 h29
          (try simp only [h20, h24, h29])
          simp [Region.wanted, yielded, undef, *]
        · rfl
        dsimp only [nA, cA]
        apply RGW.off (i := 31) rfl
        · exact zG
        · intro γ u W hcur hd
          obtain ⟨⟨h20, -, -⟩, ⟨h30, -, -⟩, -⟩ := hd
          dsimp only at h20 h30
          (try simp only [h20, h30])
          simp [Region.wanted, yielded, undef, *]
        · rfl
        dsimp only [nA, cA]
        apply RGW.off (i := 32) rfl
        · exact zG
        · intro γ u W hcur hd
          obtain ⟨⟨h20, -, -⟩, ⟨h31, -, -⟩, -⟩ := hd
          dsimp only at h20 h31
          (try simp only [h20, h31])
          simp [Region.wanted, yielded, undef, *]
        · rfl
        dsimp only [nA, cA]
        apply RGW.off (i := 33) rfl
        · exact zG
        · intro γ u W hcur hd
          obtain ⟨⟨h32, -, -⟩, -⟩ := hd
          dsimp only at h32
          (try simp only [h32])
          simp [Region.wanted, yielded, undef, *]
        · rfl
        dsimp only [nA, cA]
        apply RGW.off (i := 34) rfl
        · exact zG
        · intro γ u W hcur hd
          obtain ⟨⟨h32, -, -⟩, -⟩ := hd
          dsimp only at h32
          (try simp only [h32])
          simp [Region.wanted, yielded, undef, *]
        · rfl
        dsimp only [nA, cA]
        apply RGW.off (i := 35) rfl
        · exact zG
        · intro γ u W hcur hd
          obtain ⟨⟨h32, -, -⟩, ⟨h34, -, -⟩, -⟩ := hd
          dsimp only at h32 h34
          (try simp only [h32, h34])
          simp [Region.wanted, yielded, undef, *]
        · rfl
        dsimp only [nA, cA]
        apply RGW.off (i := 36) rfl
        · exact zG
        · intro γ u W hcur hd
          obtain ⟨⟨h32, -, -⟩, -⟩ := hd
          dsimp only at h32
          (try simp only [h32])
          simp [Region.wanted, yielded, undef, *]
        · rfl
        dsimp only [nA, cA]
        apply RGW.off (i := 37) rfl
        · exact zG
        · intro γ u W hcur hd
          obtain ⟨⟨h32, -, -⟩, ⟨h35, -, -⟩, ⟨h36, -, -⟩, -⟩ := hd
          dsimp only at h32 h35 h36
          (try simp only [h32, h35, h36])
          simp [Region.wanted, yielded, undef, *]
        · rfl
        dsimp only [nA, cA]
        apply RGW.off (i := 38) rfl
        · exact zG
        · intro γ u W hcur hd
          obtain ⟨⟨h32, -, -⟩, ⟨h37, -, -⟩, -⟩ := hd
          dsimp only at h32 h37
          (try simp only [h32, h37])
          simp [Region.wanted, yielded, undef, *]
        · rfl
        dsimp only [nA, cA]
        apply RGW.off (i := 39) rfl
        · exact zG
        · intro γ u W hcur hd
          obtain ⟨⟨h32, -, -⟩, ⟨h33, -, -⟩, ⟨h38, -, -⟩, -⟩ := hd
          dsimp only at h32 h33 h38
          (try simp only [h32, h33, h38])
          simp [Region.wanted, yielded, undef, *]
        · rfl
        dsimp only [nA, cA]
        apply RGW.off (i := 40) rfl
        · exact zG
        · intro γ u W hcur hd
          obtain ⟨⟨h32, -, -⟩, ⟨h39, -, -⟩, -⟩ := hd
          dsimp only at h32 h39
          (try simp only [h32, h39])
          simp [Region.wanted, yielded, undef, *]
        · rfl
        dsimp only [nA, cA]
        apply RGW.off (i := 41) rfl
        · exact zG
        · intro γ u W hcur hd
          obtain ⟨⟨h20, -, -⟩, ⟨h32, -, -⟩, ⟨h40, -, -⟩, -⟩ := hd
          dsimp only at h20 h32 h40
          (try simp only [h20, h32, h40])
          simp [Region.wanted, yielded, undef, *]
        · rfl
        dsimp only [nA, cA]
        apply RGW.on (i := 42) rfl
        · exact zG
        · intro γ u W hcur hd
          obtain ⟨⟨h18, -, -⟩, ⟨h20, -, -⟩, ⟨h41, -, -⟩, -⟩ := hd
          dsimp only at h18 h20 h41
          (try simp only [h18, h20, h41])
          refine ⟨?_, ?_⟩
          · (simp [Region.wanted, yielded, undef, *]; done)
          exact zS
        · exact zC
        · rfl
        dsimp only [nA, cA]
        apply RGW.on (i := 43) rfl
        · exact zG
        · intro γ u W hcur hd
          obtain ⟨⟨h18, -, -⟩, ⟨h42, -, -⟩, -⟩ := hd
          dsimp only at h18 h42
          (try simp only [h18, h42])
          exact ⟨rfl, zS⟩
        · exact zC
        · rfl
        dsimp only [nA, cA]
        refine RGW.fin (fun γ u x0y hx0y hd hdis => ?_)
        obtain ⟨⟨h0, -, -⟩, ⟨h1, -, -⟩, ⟨h2, -, -⟩, ⟨h3, -, -⟩, ⟨h4, -, -⟩, ⟨h5, -, -⟩, ⟨h6, -, -⟩, ⟨h7, -, -⟩, ⟨h8, -, -⟩, ⟨h9, -, -⟩, ⟨h10, -, -⟩, ⟨h11, -, -⟩, ⟨h12, -, -⟩, ⟨h13, -, -⟩, ⟨h14, -, -⟩, ⟨h15, -, -⟩, ⟨h16, -, -⟩, ⟨h17, -, -⟩, ⟨h18, -, -⟩, ⟨h19, -, -⟩, ⟨h20, -, -⟩, ⟨h21, -, -⟩, ⟨h22, -, -⟩, ⟨h23, -, -⟩, ⟨h24, -, -⟩, ⟨h25, -, -⟩, ⟨h26, -, -⟩, ⟨h27, -, -⟩, ⟨h28, -, -⟩, ⟨h29, -, -⟩, ⟨h30, -, -⟩, ⟨h31, -, -⟩, ⟨h32, -, -⟩, ⟨h33, -, -⟩, ⟨h34, -, -⟩, ⟨h35, -, -⟩, ⟨h36, -, -⟩, ⟨h37, -, -⟩, ⟨h38, -, -⟩, ⟨h39, -, -⟩, ⟨h40, -, -⟩, ⟨h41, -, -⟩, ⟨h42, -, -⟩, ⟨h43, -, -⟩, -⟩ := hd
        dsimp only at h0 h1 h2 h3 h4 h5 h6 h7 h8 h9 h10 h11 h12 h13 h14 h15 h16 h17 h18 h19 h20 h21 h22 h23 h24 h25 h26 h27 h28 h29 h30 h31 h32 h33 h34 h35 h36 h37 h38 h39 h40 h41 h42 h43
        clear hdis
        simp only [h0, h1, h2, h3, h4, h5, h6, h7, h8, h9, h10, h11, h12, h13, h14, h15, h16, h17, h18, h19, h20, h21, h22, h23, h24, h25, h26, h27, h28, h29, h30, h31, h32, h33, h34, h35, h36, h37, h38, h39, h40, h41, h42, h43]
        clear h43 h42 h41 h40 h39 h38 h37 h36 h35 h34 h33 h32 h31 h30 h29 h28 h27 h26 h25 h24 h23 h22 h21 h20 h19 h18 h17 h16 h15 h14 h13 h12 h11 h10 h9 h8 h7 h6 h5 h4 h3 h2 h1 h0
        clear u
        simp only [List.map_nil]
        refine PlanW.done ?_
        have hb3 := bl_tt hx0y
        clear d0 d1 d2 d3 d4 d5 q0 q1 q2
        have hbe := hb3 _ hbx
        go_wp2
        go_roundw
        case rel => exact ⟨j + 1, by omega, by go_num, hbe⟩
        case measure => simp [intOf]; omega
      obtain ⟨hc1, hd1⟩ := hhas.out rfl
      rw [hd1] at his1
      rw [hc1] at his2
      clear hc1 hd1
      refine wp_any (w0 := x0) ⟨[], [], [some 159, some 160, some 161, some 162, some 163, some 164, some 165, some 166, some 167, some 168, some 169, some 170, some 171, some 172, some 173, some 174, some 175, some 176, some 177, some 178, some 179, some 180, some 181, some 182, some 183, some 184, some 185, some 186, some 187, some 188, some 189, some 190, some 191, some 192, some 193, some 194, some 195, some 196, some 197, some 198, some 199, some 200, some 201, some 202], [[], [], [0, 1], [0, 1, 2], [0, 1, 2, 3], [0, 1, 2, 3, 4], [0, 1, 2, 3, 4, 5], [0, 1, 2, 3, 4, 5], [0, 1, 2, 3, 4, 5], [0, 1, 2, 3, 4, 5, 7, 8], [0, 1, 2, 3, 4, 5, 7, 8, 9], [0, 1, 2, 3, 4, 5, 6, 7, 8, 9, 10], [0, 1, 2, 3, 4, 5], [0, 1, 2, 3, 4, 5], [0, 1, 2, 3, 4, 5, 12, 13], [0, 1, 2, 3, 4, 5, 12, 13, 14], [0, 1, 2, 3, 4, 5, 6, 7, 8, 9, 10, 11, 12, 13, 14, 15], [0, 1, 2, 3, 4, 5, 6, 7, 8, 9, 10, 11, 12, 13, 14, 15, 16], [0, 1, 2, 3, 4, 5, 6, 7, 8, 9, 10, 11, 12, 13, 14, 15, 16, 17], [0, 1, 2, 3, 4, 5, 6, 7, 8, 9, 10, 11, 12, 13, 14, 15, 16, 17, 18], [0, 1, 2, 3, 4, 5, 6, 7, 8, 9, 10, 11, 12, 13, 14, 15, 16, 17, 18, 19], [0, 1, 2, 3, 4, 5, 6, 7, 8, 9, 10, 11, 12, 13, 14, 15, 16, 17, 18, 19, 20], [0, 1, 2, 3, 4, 5, 6, 7, 8, 9, 10, 11, 12, 13, 14, 15, 16, 17, 18, 19, 20], [0, 1, 2, 3, 4, 5, 6, 7, 8, 9, 10, 11, 12, 13, 14, 15, 16, 17, 18, 19, 20, 21, 22], [0, 1, 2, 3, 4, 5, 6, 7, 8, 9, 10, 11, 12, 13, 14, 15, 16, 17, 18, 19, 20, 21, 22, 23], [0, 1, 2, 3, 4, 5, 6, 7, 8, 9, 10, 11, 12, 13, 14, 15, 16, 17, 18, 19, 20], [0, 1, 2, 3, 4, 5, 6, 7, 8, 9, 10, 11, 12, 13, 14, 15, 16, 17, 18, 19, 20, 25], [0, 1, 2, 3, 4, 5, 6, 7, 8, 9, 10, 11, 12, 13, 14, 15, 16, 17, 18, 19, 20], [0, 1, 2, 3, 4, 5, 6, 7, 8, 9, 10, 11, 12, 13, 14, 15, 16, 17, 18, 19, 20, 25, 26, 27], [0, 1, 2, 3, 4, 5, 6, 7, 8, 9, 10, 11, 12, 13, 14, 15, 16, 17, 18, 19, 20, 25, 26, 27, 28], [0, 1, 2, 3, 4, 5, 6, 7, 8, 9, 10, 11, 12, 13, 14, 15, 16, 17, 18, 19, 20, 21, 22, 23, 24, 25, 26, 27, 28, 29], [0, 1, 2, 3, 4, 5, 6, 7, 8, 9, 10, 11, 12, 13, 14, 15, 16, 17, 18, 19, 20, 21, 22, 23, 24, 25, 26, 27, 28, 29, 30], [0, 1, 2, 3, 4, 5, 6, 7, 8, 9, 10, 11, 12, 13, 14, 15, 16, 17, 18, 19, 20, 21, 22, 23, 24, 25, 26, 27, 28, 29, 30, 31], [0, 1, 2, 3, 4, 5, 6, 7, 8, 9, 10, 11, 12, 13, 14, 15, 16, 17, 18, 19, 20, 21, 22, 23, 24, 25, 26, 27, 28, 29, 30, 31, 32], [0, 1, 2, 3, 4, 5, 6, 7, 8, 9, 10, 11, 12, 13, 14, 15, 16, 17, 18, 19, 20, 21, 22, 23, 24, 25, 26, 27, 28, 29, 30, 31, 32], [0, 1, 2, 3, 4, 5, 6, 7, 8, 9, 10, 11, 12, 13, 14, 15, 16, 17, 18, 19, 20, 21, 22, 23, 24, 25, 26, 27, 28, 29, 30, 31, 32, 34], [0, 1, 2, 3, 4, 5, 6, 7, 8, 9, 10, 11, 12, 13, 14, 15, 16, 17, 18, 19, 20, 21, 22, 23, 24, 25, 26, 27, 28, 29, 30, 31, 32], [0, 1, 2, 3, 4, 5, 6, 7, 8, 9, 10, 11, 12, 13, 14, 15, 16, 17, 18, 19, 20, 21, 22, 23, 24, 25, 26, 27, 28, 29, 30, 31, 32, 34, 35, 36], [0, 1, 2, 3, 4, 5, 6, 7, 8, 9, 10, 11, 12, 13, 14, 15, 16, 17, 18, 19, 20, 21, 22, 23, 24, 25, 26, 27, 28, 29, 30, 31, 32, 34, 35, 36, 37], [0, 1, 2, 3, 4, 5, 6, 7, 8, 9, 10, 11, 12, 13, 14, 15, 16, 17, 18, 19, 20, 21, 22, 23, 24, 25, 26, 27, 28, 29, 30, 31, 32, 33, 34, 35, 36, 37, 38], [0, 1, 2, 3, 4, 5, 6, 7, 8, 9, 10, 11, 12, 13, 14, 15, 16, 17, 18, 19, 20, 21, 22, 23, 24, 25, 26, 27, 28, 29, 30, 31, 32, 33, 34, 35, 36, 37, 38, 39], [0, 1, 2, 3, 4, 5, 6, 7, 8, 9, 10, 11, 12, 13, 14, 15, 16, 17, 18, 19, 20, 21, 22, 23, 24, 25, 26, 27, 28, 29, 30, 31, 32, 33, 34, 35, 36, 37, 38, 39, 40], [0, 1, 2, 3, 4, 5, 6, 7, 8, 9, 10, 11, 12, 13, 14, 15, 16, 17, 18, 19, 20, 21, 22, 23, 24, 25, 26, 27, 28, 29, 30, 31, 32, 33, 34, 35, 36, 37, 38, 39, 40, 41], [0, 1, 2, 3, 4, 5, 6, 7, 8, 9, 10, 11, 12, 13, 14, 15, 16, 17, 18, 19, 20, 21, 22, 23, 24, 25, 26, 27, 28, 29, 30, 31, 32, 33, 34, 35, 36, 37, 38, 39, 40, 41, 42]], [[], [], [0, 1], [2], [3], [4], [5], [5], [5], [5, 7, 8], [5, 9], [5, 6, 10], [5], [5], [5, 12, 13], [5, 14], [5, 11, 15], [5, 16], [17], [18], [18, 19], [20], [20], [20, 21, 22], [20, 23], [20], [20, 25], [20], [20, 26, 27], [20, 28], [20, 24, 29], [20, 30], [20, 31], [32], [32], [32, 34], [32], [32, 35, 36], [32, 37], [32, 33, 38], [32, 39], [20, 32, 40], [18, 20, 41], [18, 42]]⟩ (fun _ => []) (by kernel_rfl) (by kernel_rfl) (by (exact zE)) (fun u => by simp only [putD, Act.put, List.setIfInBounds_toArray, List.set_cons_zero, List.set_cons_succ, Nat.zero_add, Nat.reduceAdd]; rfl) ?_
      apply RGW.on (i := 0) rfl
      · exact zG
      · intro γ u W hcur hd
        clear hd
        (try dsimp only)
        exact ⟨rfl, zS⟩
      · exact zC
      · rfl
      dsimp only [nA, cA]
      apply RGW.on (i := 1) rfl
      · exact zG
      · intro γ u W hcur hd
        clear hd
        (try dsimp only)
        exact ⟨rfl, zS⟩
      · exact zC
      · rfl
      dsimp only [nA, cA]
      apply RGW.on (i := 2) rfl
      · exact zG
      · intro γ u W hcur hd
        obtain ⟨⟨h0, -, -⟩, ⟨h1, -, -⟩, -⟩ := hd
        dsimp only at h0 h1
        (try simp only [h0, h1])
        exact ⟨rfl, zS⟩
      · exact zC
      · rfl
      dsimp only [nA, cA]
      apply RGW.on (i := 3) rfl
      · exact zG
      · intro γ u W hcur hd
        obtain ⟨⟨h2, -, -⟩, -⟩ := hd
        dsimp only at h2
        (try simp only [h2])
        exact ⟨rfl, zS⟩
      · exact zC
      · rfl
      dsimp only [nA, cA]
      apply RGW.call (i := 4) rfl
      · exact zG
      · intro γ u W hcur hd
        obtain ⟨⟨h3, -, -⟩, -⟩ := hd
        dsimp only at h3
        (try simp only [h3])
        refine ⟨rfl, fun K hK => ?_⟩
        go_simp
        (go_at_call 29; (with_reducible refine (hie.out _).mono ?_); rintro e w3 ⟨rfl, hb3⟩; replace hb3 := bl_tt hb3)
        (try dsimp only)
        exact hK.out _ _ rfl (by (exact zE))
      · exact zC
      · rfl
      dsimp only [nA, cA]
      apply RGW.on (i := 5) rfl
      · exact zG
      · intro γ u W hcur hd
        obtain ⟨⟨h4, -, -⟩, -⟩ := hd
        dsimp only at h4
        (try simp only [h4])
        exact ⟨rfl, zS⟩
      · exact zC
      · rfl
      dsimp only [nA, cA]
      apply RGW.on (i := 6) rfl
      · exact zG
      · intro γ u W hcur hd
        obtain ⟨⟨h5, -, -⟩, -⟩ := hd
        dsimp only at h5
        (try simp only [h5])
        refine ⟨?_, ?_⟩
        · (simp [Region.wanted, yielded, undef, *]; done)
        exact zS
      · exact zC
      · rfl
      dsimp only [nA, cA]
      apply RGW.on (i := 7) rfl
      · exact zG
      · intro γ u W hcur hd
        obtain ⟨⟨h5, -, -⟩, -⟩ := hd
        dsimp only at h5
        (try simp only [h5])
        refine ⟨?_, ?_⟩
        · (simp [Region.wanted, yielded, undef, *]; done)
        exact zS
      · exact zC
      · rfl
      dsimp only [nA, cA]
      apply RGW.on (i := 8) rfl
      · exact zG
      · intro γ u W hcur hd
        obtain ⟨⟨h5, -, -⟩, -⟩ := hd
        dsimp only at h5
        (try simp only [h5])
        refine ⟨?_, ?_⟩
        · (simp [Region.wanted, yielded, undef, *]; done)
        exact zS
      · exact zC
      · rfl
      dsimp only [nA, cA]
      apply RGW.on (i := 9) rfl
      · exact zG
      · intro γ u W hcur hd
        obtain ⟨⟨h5, -, -⟩, ⟨h7, -, -⟩, ⟨h8, -, -⟩, -⟩ := hd
        dsimp only at h5 h7 h8
        (try simp only [h5, h7, h8])
        refine ⟨?_, ?_⟩
        · (simp [Region.wanted, yielded, undef, *]; done)
        exact zS
      · exact zC
      · rfl
      dsimp only [nA, cA]
      apply RGW.on (i := 10) rfl
      · exact zG
      · intro γ u W hcur hd
        obtain ⟨⟨h5, -, -⟩, ⟨h9, -, -⟩, -⟩ := hd
        dsimp only at h5 h9
        (try simp only [h5, h9])
        refine ⟨?_, ?_⟩
        · (simp [Region.wanted, yielded, undef, *]; done)
        exact zS
      · exact zC
      · rfl
      dsimp only [nA, cA]
      apply RGW.call (i := 11) rfl
      · exact zG
      · intro γ u W hcur hd
        obtain ⟨⟨h5, -, -⟩, ⟨h6, -, -⟩, ⟨h10, -, -⟩, -⟩ := hd
        dsimp only at h5 h6 h10
        (try simp only [h5, h6, h10])
        refine ⟨?_, fun K hK => ?_⟩
        · (simp [Region.wanted, yielded, undef, *]; done)
        go_simp
        (go_at_call 30; (with_reducible refine (hco.out _).mono ?_); rintro e w3 ⟨rfl, hb3⟩; replace hb3 := bl_tt hb3)
        (try dsimp only)
        exact hK.out _ _ rfl (by (exact zE))
      · exact zC
      · rfl
      dsimp only [nA, cA]
      apply RGW.on (i := 12) rfl
      · exact zG
      · intro γ u W hcur hd
        obtain ⟨⟨h5, -, -⟩, -⟩ := hd
        dsimp only at h5
        (try simp only [h5])
        refine ⟨?_, ?_⟩
        · (simp [Region.wanted, yielded, undef, *]; done)
        exact zS
      · exact zC
      · rfl
      dsimp only [nA, cA]
      apply RGW.on (i := 13) rfl
      · exact zG
      · intro γ u W hcur hd
        obtain ⟨⟨h5, -, -⟩, -⟩ := hd
        dsimp only at h5
        (try simp only [h5])
        refine ⟨?_, ?_⟩
        · (simp [Region.wanted, yielded, undef, *]; done)
        exact zS
      · exact zC
      · rfl
      dsimp only [nA, cA]
      apply RGW.on (i := 14) rfl
      · exact zG
      · intro γ u W hcur hd
        obtain ⟨⟨h5, -, -⟩, ⟨h12, -, -⟩, ⟨h13, -, -⟩, -⟩ := hd
        dsimp only at h5 h12 h13
        (try simp only [h5, h12, h13])
        refine ⟨?_, ?_⟩
        · (simp [Region.wanted, yielded, undef, *]; done)
        exact zS
      · exact zC
      · rfl
      dsimp only [nA, cA]
      apply RGW.on (i := 15) rfl
      · exact zG
      · intro γ u W hcur hd
        obtain ⟨⟨h5, -, -⟩, ⟨h14, -, -⟩, -⟩ := hd
        dsimp only at h5 h14
        (try simp only [h5, h14])
        refine ⟨?_, ?_⟩
        · (simp [Region.wanted, yielded, undef, *]; done)
        exact zS
      · exact zC
      · rfl
      dsimp only [nA, cA]
      apply RGW.on (i := 16) rfl
      · exact zG
      · intro γ u W hcur hd
        obtain ⟨⟨h5, -, -⟩, ⟨h11, -, -⟩, ⟨h15, -, -⟩, -⟩ := hd
        dsimp only at h5 h11 h15
        (try simp only [h5, h11, h15])
        refine ⟨?_, ?_⟩
        · (simp [Region.wanted, yielded, undef, *]; done)
        exact zS
      · exact zC
      · rfl
      dsimp only [nA, cA]
      apply RGW.on (i := 17) rfl
      · exact zG
      · intro γ u W hcur hd
        obtain ⟨⟨h5, -, -⟩, ⟨h16, -, -⟩, -⟩ := hd
        dsimp only at h5 h16
        (try simp only [h5, h16])
        exact ⟨rfl, zS⟩
      · exact zC
      · rfl
      dsimp only [nA, cA]
      apply RGW.on (i := 18) rfl
      · exact zG
      · intro γ u W hcur hd
        obtain ⟨⟨h17, -, -⟩, -⟩ := hd
        dsimp only at h17
        (try simp only [h17])
        exact ⟨rfl, zS⟩
      · exact zC
      · rfl
      dsimp only [nA, cA]
      apply RGW.on (i := 19) rfl
      · exact zG
      · intro γ u W hcur hd
        obtain ⟨⟨h18, -, -⟩, -⟩ := hd
        dsimp only at h18
        (try simp only [h18])
        refine ⟨?_, ?_⟩
        · (simp [Region.wanted, yielded, undef, *]; done)
        exact zS
      · exact zC
      · rfl
      dsimp only [nA, cA]
      apply RGW.on (i := 20) rfl
      · exact zG
      · intro γ u W hcur hd
        obtain ⟨⟨h18, -, -⟩, ⟨h19, -, -⟩, -⟩ := hd
        dsimp only at h18 h19
        (try simp only [h18, h19])
        refine ⟨?_, ?_⟩
        · (simp [Region.wanted, yielded, undef, *]; done)
        exact zS
      · exact zC
      · rfl
      dsimp only [nA, cA]
      apply RGW.on (i := 21) rfl
      · exact zG
      · intro γ u W hcur hd
        obtain ⟨⟨h20, -, -⟩, -⟩ := hd
        dsimp only at h20
        (try simp only [h20])
        refine ⟨?_, ?_⟩
        · (simp [Region.wanted, yielded, undef, *]; done)
        exact zS
      · exact zC
      · rfl
      dsimp only [nA, cA]
      apply RGW.on (i := 22) rfl
      · exact zG
      · intro γ u W hcur hd
        obtain ⟨⟨h20, -, -⟩, -⟩ := hd
        dsimp only at h20
        (try simp only [h20])
        refine ⟨?_, ?_⟩
        · (simp [Region.wanted, yielded, undef, *]; done)
        exact zS
      · exact zC
      · rfl
      dsimp only [nA, cA]
      apply RGW.on (i := 23) rfl
      · exact zG
      · intro γ u W hcur hd
        obtain ⟨⟨h20, -, -⟩, ⟨h21, -, -⟩, ⟨h22, -, -⟩, -⟩ := hd
        dsimp only at h20 h21 h22
        (try simp only [h20, h21, h22])
        refine ⟨?_, ?_⟩
        · (simp [Region.wanted, yielded, undef, *]; done)
        exact zS
      · exact zC
      · rfl
      dsimp only [nA, cA]
      apply RGW.on (i := 24) rfl
      · exact zG
      · intro γ u W hcur hd
        obtain ⟨⟨h20, -, -⟩, ⟨h23, -, -⟩, -⟩ := hd
        dsimp only at h20 h23
        (try simp only [h20, h23])
        refine ⟨?_, ?_⟩
        · (simp [Region.wanted, yielded, undef, *]; done)
        exact zS
      · exact zC
      · rfl
      dsimp only [nA, cA]
      apply RGW.on (i := 25) rfl
      · exact zG
      · intro γ u W hcur hd
        obtain ⟨⟨h20, -, -⟩, -⟩ := hd
        dsimp only at h20
        (try simp only [h20])
        refine ⟨?_, ?_⟩
        · (simp [Region.wanted, yielded, undef, *]; done)
        exact zS
      · exact zC
      · rfl
      dsimp only [nA, cA]
      apply RGW.on (i := 26) rfl
      · exact zG
      · intro γ u W hcur hd
        obtain ⟨⟨h20, -, -⟩, ⟨h25, -, -⟩, -⟩ := hd
        dsimp only at h20 h25
        (try simp only [h20, h25])
        refine ⟨?_, ?_⟩
        · (simp [Region.wanted, yielded, undef, *]; done)
        exact zS
      · exact zC
      · rfl
      dsimp only [nA, cA]
      apply RGW.on (i := 27) rfl
      · exact zG
      · intro γ u W hcur hd
        obtain ⟨⟨h20, -, -⟩, -⟩ := hd
        dsimp only at h20
        (try simp only [h20])
        refine ⟨?_, ?_⟩
        · (simp [Region.wanted, yielded, undef, *]; done)
        exact zS
      · exact zC
      · rfl
      dsimp only [nA, cA]
      apply RGW.on (i := 28) rfl
      · exact zG
      · intro γ u W hcur hd
        obtain ⟨⟨h20, -, -⟩, ⟨h26, -, -⟩, ⟨h27, -, -⟩, -⟩ := hd
        dsimp only at h20 h26 h27
        (try simp only [h20, h26, h27])
        refine ⟨?_, ?_⟩
        · (simp [Region.wanted, yielded, undef, *]; done)
        exact zS
      · exact zC
      · rfl
      dsimp only [nA, cA]
      apply RGW.on (i := 29) rfl
      · exact zG
      · intro γ u W hcur hd
        obtain ⟨⟨h20, -, -⟩, ⟨h28, -, -⟩, -⟩ := hd
        dsimp only at h20 h28
        (try simp only [h20, h28])
        refine ⟨?_, ?_⟩
        · (simp [Region.wanted, yielded, undef, *]; done)
        exact zS
      · exact zC
      · rfl
      dsimp only [nA, cA]
      apply RGW.call (i := 30) rfl
      · exact zG
      · intro γ u W hcur hd
        obtain ⟨⟨h20, -, -⟩, ⟨h24, -, -⟩, ⟨h29, -, -⟩, -⟩ := hd
        dsimp only at h20 h24 h29
        (try simp only [h20, h24, h29])
        refine ⟨?_, fun K hK => ?_⟩
        · (simp [Region.wanted, yielded, undef, *]; done)
        go_simp
        (go_at_call 31; (with_reducible refine (his1.out _).mono ?_); rintro e w3 ⟨rfl, hb3⟩; replace hb3 := bl_tt hb3)
        (try dsimp only)
        exact hK.out _ _ rfl (by (exact zE))
      · exact zC
      · rfl
      dsimp only [nA, cA]
      apply RGW.on (i := 31) rfl
      · exact zG
      · intro γ u W hcur hd
        obtain ⟨⟨h20, -, -⟩, ⟨h30, -, -⟩, -⟩ := hd
        dsimp only at h20 h30
        (try simp only [h20, h30])
        refine ⟨?_, ?_⟩
        · (simp [Region.wanted, yielded, undef, *]; done)
        exact zS
      · exact zC
      · rfl
      dsimp only [nA, cA]
      apply RGW.on (i := 32) rfl
      · exact zG
      · intro γ u W hcur hd
        obtain ⟨⟨h20, -, -⟩, ⟨h31, -, -⟩, -⟩ := hd
        dsimp only at h20 h31
        (try simp only [h20, h31])
        refine ⟨?_, ?_⟩
        · (simp [Region.wanted, yielded, undef, *]; done)
        exact zS
      · exact zC
      · rfl
      dsimp only [nA, cA]
      apply RGW.on (i := 33) rfl
      · exact zG
      · intro γ u W hcur hd
        obtain ⟨⟨h32, -, -⟩, -⟩ := hd
        dsimp only at h32
        (try simp only [h32])
        refine ⟨?_, ?_⟩
        · (simp [Region.wanted, yielded, undef, *]; done)
        exact zS
      · exact zC
      · rfl
      dsimp only [nA, cA]
      apply RGW.on (i := 34) rfl
      · exact zG
      · intro γ u W hcur hd
        obtain ⟨⟨h32, -, -⟩, -⟩ := hd
        dsimp only at h32
        (try simp only [h32])
        refine ⟨?_, ?_⟩
        · (simp [Region.wanted, yielded, undef, *]; done)
        exact zS
      · exact zC
      · rfl
      dsimp only [nA, cA]
      apply RGW.on (i := 35) rfl
      · exact zG
      · intro γ u W hcur hd
        obtain ⟨⟨h32, -, -⟩, ⟨h34, -, -⟩, -⟩ := hd
        dsimp only at h32 h34
        (try simp only [h32, h34])
        refine ⟨?_, ?_⟩
        · (simp [Region.wanted, yielded, undef, *]; done)
        exact zS
      · exact zC
      · rfl
      dsimp only [nA, cA]
      apply RGW.on (i := 36) rfl
      · exact zG
      · intro γ u W hcur hd
        obtain ⟨⟨h32, -, -⟩, -⟩ := hd
        dsimp only at h32
        (try simp only [h32])
        refine ⟨?_, ?_⟩
        · (simp [Region.wanted, yielded, undef, *]; done)
        exact zS
      · exact zC
      · rfl
      dsimp only [nA, cA]
      apply RGW.on (i := 37) rfl
      · exact zG
      · intro γ u W hcur hd
        obtain ⟨⟨h32, -, -⟩, ⟨h35, -, -⟩, ⟨h36, -, -⟩, -⟩ := hd
        dsimp only at h32 h35 h36
        (try simp only [h32, h35, h36])
        refine ⟨?_, ?_⟩
        · (simp [Region.wanted, yielded, undef, *]; done)
        exact zS
      · exact zC
      · rfl
      dsimp only [nA, cA]
      apply RGW.on (i := 38) rfl
      · exact zG
      · intro γ u W hcur hd
        obtain ⟨⟨h32, -, -⟩, ⟨h37, -, -⟩, -⟩ := hd
        dsimp only at h32 h37
        (try simp only [h32, h37])
        refine ⟨?_, ?_⟩
        · (simp [Region.wanted, yielded, undef, *]; done)
        exact zS
      · exact zC
      · rfl
      dsimp only [nA, cA]
      apply RGW.call (i := 39) rfl
      · exact zG
      · intro γ u W hcur hd
        obtain ⟨⟨h32, -, -⟩, ⟨h33, -, -⟩, ⟨h38, -, -⟩, -⟩ := hd
        dsimp only at h32 h33 h38
        (try simp only [h32, h33, h38])
        refine ⟨?_, fun K hK => ?_⟩
        · (simp [Region.wanted, yielded, undef, *]; done)
        go_simp
        (go_at_call 31; (with_reducible refine (his2.out _).mono ?_); rintro e w3 ⟨rfl, hb3⟩; replace hb3 := bl_tt hb3)
        (try dsimp only)
        exact hK.out _ _ rfl (by (exact zE))
      · exact zC
      · rfl
      dsimp only [nA, cA]
      apply RGW.on (i := 40) rfl
      · exact zG
      · intro γ u W hcur hd
        obtain ⟨⟨h32, -, -⟩, ⟨h39, -, -⟩, -⟩ := hd
        dsimp only at h32 h39
        (try simp only [h32, h39])
        refine ⟨?_, ?_⟩
        · (simp [Region.wanted, yielded, undef, *]; done)
        exact zS
      · exact zC
      · rfl
      dsimp only [nA, cA]
      apply RGW.on (i := 41) rfl
      · exact zG
      · intro γ u W hcur hd
        obtain ⟨⟨h20, -, -⟩, ⟨h32, -, -⟩, ⟨h40, -, -⟩, -⟩ := hd
        dsimp only at h20 h32 h40
        (try simp only [h20, h32, h40])
        refine ⟨?_, ?_⟩
        · (simp [Region.wanted, yielded, undef, *]; done)
        exact zS
      · exact zC
      · rfl
      dsimp only [nA, cA]
      apply RGW.on (i := 42) rfl
      · exact zG
      · intro γ u W hcur hd
        obtain ⟨⟨h18, -, -⟩, ⟨h20, -, -⟩, ⟨h41, -, -⟩, -⟩ := hd
        dsimp only at h18 h20 h41
        (try simp only [h18, h20, h41])
        refine ⟨?_, ?_⟩
        · (simp [Region.wanted, yielded, undef, *]; done)
        exact zS
      · exact zC
      · rfl
      dsimp only [nA, cA]
      apply RGW.on (i := 43) rfl
      · exact zG
      · intro γ u W hcur hd
        obtain ⟨⟨h18, -, -⟩, ⟨h42, -, -⟩, -⟩ := hd
        dsimp only at h18 h42
        (try simp only [h18, h42])
        exact ⟨rfl, zS⟩
      · exact zC
      · rfl
      dsimp only [nA, cA]
      refine RGW.fin (fun γ u x0z hx0z hd hdis => ?_)
      obtain ⟨⟨h0, -, -⟩, ⟨h1, -, -⟩, ⟨h2, -, -⟩, ⟨h3, -, -⟩, ⟨h4, -, -⟩, ⟨h5, -, -⟩, ⟨h6, -, -⟩, ⟨h7, -, -⟩, ⟨h8, -, -⟩, ⟨h9, -, -⟩, ⟨h10, -, -⟩, ⟨h11, -, -⟩, ⟨h12, -, -⟩, ⟨h13, -, -⟩, ⟨h14, -, -⟩, ⟨h15, -, -⟩, ⟨h16, -, -⟩, ⟨h17, -, -⟩, ⟨h18, -, -⟩, ⟨h19, -, -⟩, ⟨h20, -, -⟩, ⟨h21, -, -⟩, ⟨h22, -, -⟩, ⟨h23, -, -⟩, ⟨h24, -, -⟩, ⟨h25, -, -⟩, ⟨h26, -, -⟩, ⟨h27, -, -⟩, ⟨h28, -, -⟩, ⟨h29, -, -⟩, ⟨h30, -, -⟩, ⟨h31, -, -⟩, ⟨h32, -, -⟩, ⟨h33, -, -⟩, ⟨h34, -, -⟩, ⟨h35, -, -⟩, ⟨h36, -, -⟩, ⟨h37, -, -⟩, ⟨h38, -, -⟩, ⟨h39, -, -⟩, ⟨h40, -, -⟩, ⟨h41, -, -⟩, ⟨h42, -, -⟩, ⟨h43, -, -⟩, -⟩ := hd
      dsimp only at h0 h1 h2 h3 h4 h5 h6 h7 h8 h9 h10 h11 h12 h13 h14 h15 h16 h17 h18 h19 h20 h21 h22 h23 h24 h25 h26 h27 h28 h29 h30 h31 h32 h33 h34 h35 h36 h37 h38 h39 h40 h41 h42 h43
      clear hdis
      simp only [h0, h1, h2, h3, h4, h5, h6, h7, h8, h9, h10, h11, h12, h13, h14, h15, h16, h17, h18, h19, h20, h21, h22, h23, h24, h25, h26, h27, h28, h29, h30, h31, h32, h33, h34, h35, h36, h37, h38, h39, h40, h41, h42, h43]
      clear h43 h42 h41 h40 h39 h38 h37 h36 h35 h34 h33 h32 h31 h30 h29 h28 h27 h26 h25 h24 h23 h22 h21 h20 h19 h18 h17 h16 h15 h14 h13 h12 h11 h10 h9 h8 h7 h6 h5 h4 h3 h2 h1 h0
      clear u
      simp only [List.map_nil]
      refine PlanW.done ?_
      have hb3 := bl_tt hx0z
      clear d0 d1 d2 d3 d4 d5 q0 q1 q2
      have hbe := hb3 _ hbx
      go_wp2
      go_roundw
      case rel => exact ⟨j + 1, by omega, by go_num, hbe⟩
      case measure => simp [intOf]; omega
    have hz1 : decide ((0 : Int) < (j : Int)) = true := by simp; omega
    obtain ⟨m, hm⟩ : ∃ m, j = m + 1 := ⟨j - 1, by omega⟩
    have ejm : (j : Int) - 1 = (m : Int) := by omega
    have hml : m < ll := by omega
    have hcm : TR[m]? = some c1 := by
      rw [hm, ← Hbt.out, List.getElem?_cons_succ] at hc
      exact hc
    obtain ⟨ab, ao, hAt, hac⟩ := ht6.out m c1 hcm
    replace hac := Lib.hid hac
    replace hc := Lib.hid hc
    replace hm := Lib.hid hm
    replace hcm := Lib.hid hcm
    subst hAt
    have a0 : ∀ W, Below _ _ W → W.cell? ⟨ab, ao + m * 6, none⟩ = some (.int .i64 c1.x.lo) := later (kcell hbr (hac.out 0 _ rfl))
    have a1 : ∀ W, Below _ _ W → W.cell? ⟨ab, ao + m * 6 + 1, none⟩ = some (.int .i64 c1.x.hi) := later (kcell hbr (hac.out 1 _ rfl))
    have a2 : ∀ W, Below _ _ W → W.cell? ⟨ab, ao + m * 6 + 2, none⟩ = some (.int .i64 c1.y.lo) := later (kcell hbr (hac.out 2 _ rfl))
    have a3 : ∀ W, Below _ _ W → W.cell? ⟨ab, ao + m * 6 + 3, none⟩ = some (.int .i64 c1.y.hi) := later (kcell hbr (hac.out 3 _ rfl))
    have a4 : ∀ W, Below _ _ W → W.cell? ⟨ab, ao + m * 6 + 4, none⟩ = some (.int .i64 c1.z.lo) := later (kcell hbr (hac.out 4 _ rfl))
    have a5 : ∀ W, Below _ _ W → W.cell? ⟨ab, ao + m * 6 + 5, none⟩ = some (.int .i64 c1.z.hi) := later (kcell hbr (hac.out 5 _ rfl))
    go_upto_region 25 with fail
    apply absB4 (w0 := wr) (g0 := w.heap.size + 1) (g1 := w.heap.size + 2) (g2 := wr.heap.size) (g3 := wr.heap.size)
    iterate 5 (focus exact zL)
    try clear hb3
    try clear Lk1
    try clear Fk1
    try clear Qk1
    try clear Lk2
    try clear Fk2
    try clear Qk2
    try clear Lk5
    try clear Fk5
    try clear Qk5
    try clear hb0
    try clear k1
    try clear k2
    try clear k5
    try clear k5
    intro x1 hb0 k1 k2 k5 k5
    (try simp only [List.setIfInBounds_toArray, List.set_cons_zero, List.set_cons_succ] at k1 k2 k5 k5)
    have Lk1 := k1.later
    have Fk1 := k1.laterF
    have Qk1 := k1.lt
    have Lk2 := k2.later
    have Fk2 := k2.laterF
    have Qk2 := k2.lt
    have Lk5 := k5.later
    have Fk5 := k5.laterF
    have Qk5 := k5.lt
    have Lk5 := k5.later
    have Fk5 := k5.laterF
    have Qk5 := k5.lt
    clear a0 a1 a2 a3 a4 a5 hz1 ejm
    have hbx := bl_tr hbr hb0
    have d0 : ∀ W, Below _ _ W → W.cell? ⟨sb, so + j * 6, none⟩ = some (.int .i64 d.x.lo) := later (kcell hbx (hsc.out 0 _ rfl))
    have d1 : ∀ W, Below _ _ W → W.cell? ⟨sb, so + j * 6 + 1, none⟩ = some (.int .i64 d.x.hi) := later (kcell hbx (hsc.out 1 _ rfl))
    have d2 : ∀ W, Below _ _ W → W.cell? ⟨sb, so + j * 6 + 2, none⟩ = some (.int .i64 d.y.lo) := later (kcell hbx (hsc.out 2 _ rfl))
    have d3 : ∀ W, Below _ _ W → W.cell? ⟨sb, so + j * 6 + 3, none⟩ = some (.int .i64 d.y.hi) := later (kcell hbx (hsc.out 3 _ rfl))
    have d4 : ∀ W, Below _ _ W → W.cell? ⟨sb, so + j * 6 + 4, none⟩ = some (.int .i64 d.z.lo) := later (kcell hbx (hsc.out 4 _ rfl))
    have d5 : ∀ W, Below _ _ W → W.cell? ⟨sb, so + j * 6 + 5, none⟩ = some (.int .i64 d.z.hi) := later (kcell hbx (hsc.out 5 _ rfl))
    have q0 : ∀ W, Below _ _ W → W.cell? ⟨pb, po + j * 3, none⟩ = some (.int .i64 q.x) := later (kcell (bl_tr hbw hbx) (hqc.out 0 _ rfl))
    have q1 : ∀ W, Below _ _ W → W.cell? ⟨pb, po + j * 3 + 1, none⟩ = some (.int .i64 q.y) := later (kcell (bl_tr hbw hbx) (hqc.out 1 _ rfl))
    have q2 : ∀ W, Below _ _ W → W.cell? ⟨pb, po + j * 3 + 2, none⟩ = some (.int .i64 q.z) := later (kcell (bl_tr hbw hbx) (hqc.out 2 _ rfl))
    cases RB
    case false =>
      refine wp_any (w0 := x1) ⟨[], [], [some 159, some 160, some 161, some 162, some 163, some 164, some 165, some 166, some 167, some 168, some 169, some 170, some 171, some 172, some 173, some 174, some 175, some 176, some 177, some 178, some 179, some 180, some 181, some 182, some 183, some 184, some 185, some 186, some 187, some 188, some 189, some 190, some 191, some 192, some 193, some 194, some 195, some 196, some 197, some 198, some 199, some 200, some 201, some 202], [[], [], [0, 1], [0, 1, 2], [0, 1, 2, 3], [0, 1, 2, 3, 4], [0, 1, 2, 3, 4, 5], [0, 1, 2, 3, 4, 5], [0, 1, 2, 3, 4, 5], [0, 1, 2, 3, 4, 5, 7, 8], [0, 1, 2, 3, 4, 5, 7, 8, 9], [0, 1, 2, 3, 4, 5, 6, 7, 8, 9, 10], [0, 1, 2, 3, 4, 5], [0, 1, 2, 3, 4, 5], [0, 1, 2, 3, 4, 5, 12, 13], [0, 1, 2, 3, 4, 5, 12, 13, 14], [0, 1, 2, 3, 4, 5, 6, 7, 8, 9, 10, 11, 12, 13, 14, 15], [0, 1, 2, 3, 4, 5, 6, 7, 8, 9, 10, 11, 12, 13, 14, 15, 16], [0, 1, 2, 3, 4, 5, 6, 7, 8, 9, 10, 11, 12, 13, 14, 15, 16, 17], [0, 1, 2, 3, 4, 5, 6, 7, 8, 9, 10, 11, 12, 13, 14, 15, 16, 17, 18], [0, 1, 2, 3, 4, 5, 6, 7, 8, 9, 10, 11, 12, 13, 14, 15, 16, 17, 18, 19], [0, 1, 2, 3, 4, 5, 6, 7, 8, 9, 10, 11, 12, 13, 14, 15, 16, 17, 18, 19, 20], [0, 1, 2, 3, 4, 5, 6, 7, 8, 9, 10, 11, 12, 13, 14, 15, 16, 17, 18, 19, 20], [0, 1, 2, 3, 4, 5, 6, 7, 8, 9, 10, 11, 12, 13, 14, 15, 16, 17, 18, 19, 20, 21, 22], [0, 1, 2, 3, 4, 5, 6, 7, 8, 9, 10, 11, 12, 13, 14, 15, 16, 17, 18, 19, 20, 21, 22, 23], [0, 1, 2, 3, 4, 5, 6, 7, 8, 9, 10, 11, 12, 13, 14, 15, 16, 17, 18, 19, 20], [0, 1, 2, 3, 4, 5, 6, 7, 8, 9, 10, 11, 12, 13, 14, 15, 16, 17, 18, 19, 20, 25], [0, 1, 2, 3, 4, 5, 6, 7, 8, 9, 10, 11, 12, 13, 14, 15, 16, 17, 18, 19, 20], [0, 1, 2, 3, 4, 5, 6, 7, 8, 9, 10, 11, 12, 13, 14, 15, 16, 17, 18, 19, 20, 25, 26, 27], [0, 1, 2, 3, 4, 5, 6, 7, 8, 9, 10, 11, 12, 13, 14, 15, 16, 17, 18, 19, 20, 25, 26, 27, 28], [0, 1, 2, 3, 4, 5, 6, 7, 8, 9, 10, 11, 12, 13, 14, 15, 16, 17, 18, 19, 20, 21, 22, 23, 24, 25, 26, 27, 28, 29], [0, 1, 2, 3, 4, 5, 6, 7, 8, 9, 10, 11, 12, 13, 14, 15, 16, 17, 18, 19, 20, 21, 22, 23, 24, 25, 26, 27, 28, 29, 30], [0, 1, 2, 3, 4, 5, 6, 7, 8, 9, 10, 11, 12, 13, 14, 15, 16, 17, 18, 19, 20, 21, 22, 23, 24, 25, 26, 27, 28, 29, 30, 31], [0, 1, 2, 3, 4, 5, 6, 7, 8, 9, 10, 11, 12, 13, 14, 15, 16, 17, 18, 19, 20, 21, 22, 23, 24, 25, 26, 27, 28, 29, 30, 31, 32], [0, 1, 2, 3, 4, 5, 6, 7, 8, 9, 10, 11, 12, 13, 14, 15, 16, 17, 18, 19, 20, 21, 22, 23, 24, 25, 26, 27, 28, 29, 30, 31, 32], [0, 1, 2, 3, 4, 5, 6, 7, 8, 9, 10, 11, 12, 13, 14, 15, 16, 17, 18, 19, 20, 21, 22, 23, 24, 25, 26, 27, 28, 29, 30, 31, 32, 34], [0, 1, 2, 3, 4, 5, 6, 7, 8, 9, 10, 11, 12, 13, 14, 15, 16, 17, 18, 19, 20, 21, 22, 23, 24, 25, 26, 27, 28, 29, 30, 31, 32], [0, 1, 2, 3, 4, 5, 6, 7, 8, 9, 10, 11, 12, 13, 14, 15, 16, 17, 18, 19, 20, 21, 22, 23, 24, 25, 26, 27, 28, 29, 30, 31, 32, 34, 35, 36], [0, 1, 2, 3, 4, 5, 6, 7, 8, 9, 10, 11, 12, 13, 14, 15, 16, 17, 18, 19, 20, 21, 22, 23, 24, 25, 26, 27, 28, 29, 30, 31, 32, 34, 35, 36, 37], [0, 1, 2, 3, 4, 5, 6, 7, 8, 9, 10, 11, 12, 13, 14, 15, 16, 17, 18, 19, 20, 21, 22, 23, 24, 25, 26, 27, 28, 29, 30, 31, 32, 33, 34, 35, 36, 37, 38], [0, 1, 2, 3, 4, 5, 6, 7, 8, 9, 10, 11, 12, 13, 14, 15, 16, 17, 18, 19, 20, 21, 22, 23, 24, 25, 26, 27, 28, 29, 30, 31, 32, 33, 34, 35, 36, 37, 38, 39], [0, 1, 2, 3, 4, 5, 6, 7, 8, 9, 10, 11, 12, 13, 14, 15, 16, 17, 18, 19, 20, 21, 22, 23, 24, 25, 26, 27, 28, 29, 30, 31, 32, 33, 34, 35, 36, 37, 38, 39, 40], [0, 1, 2, 3, 4, 5, 6, 7, 8, 9, 10, 11, 12, 13, 14, 15, 16, 17, 18, 19, 20, 21, 22, 23, 24, 25, 26, 27, 28, 29, 30, 31, 32, 33, 34, 35, 36, 37, 38, 39, 40, 41], [0, 1, 2, 3, 4, 5, 6, 7, 8, 9, 10, 11, 12, 13, 14, 15, 16, 17, 18, 19, 20, 21, 22, 23, 24, 25, 26, 27, 28, 29, 30, 31, 32, 33, 34, 35, 36, 37, 38, 39, 40, 41, 42]], [[], [], [0, 1], [2], [3], [4], [5], [5], [5], [5, 7, 8], [5, 9], [5, 6, 10], [5], [5], [5, 12, 13], [5, 14], [5, 11, 15], [5, 16], [17], [18], [18, 19], [20], [20], [20, 21, 22], [20, 23], [20], [20, 25], [20], [20, 26, 27], [20, 28], [20, 24, 29], [20, 30], [20, 31], [32], [32], [32, 34], [32], [32, 35, 36], [32, 37], [32, 33, 38], [32, 39], [20, 32, 40], [18, 20, 41], [18, 42]]⟩ (fun _ => []) (by kernel_rfl) (by kernel_rfl) (by (exact zE)) (fun u => by simp only [putD, Act.put, List.setIfInBounds_toArray, List.set_cons_zero, List.set_cons_succ, Nat.zero_add, Nat.reduceAdd]; rfl) ?_
      apply RGW.on (i := 0) rfl
      · exact zG
      · intro γ u W hcur hd
        clear hd
        (try dsimp only)
        exact ⟨rfl, zS⟩
      · exact zC
      · rfl
      dsimp only [nA, cA]
      apply RGW.on (i := 1) rfl
      · exact zG
      · intro γ u W hcur hd
        clear hd
        (try dsimp only)
        exact ⟨rfl, zS⟩
      · exact zC
      · rfl
      dsimp only [nA, cA]
      apply RGW.on (i := 2) rfl
      · exact zG
      · intro γ u W hcur hd
        obtain ⟨⟨h0, -, -⟩, ⟨h1, -, -⟩, -⟩ := hd
        dsimp only at h0 h1
        (try simp only [h0, h1])
        exact ⟨rfl, zS⟩
      · exact zC
      · rfl
      dsimp only [nA, cA]
      apply RGW.on (i := 3) rfl
      · exact zG
      · intro γ u W hcur hd
        obtain ⟨⟨h2, -, -⟩, -⟩ := hd
        dsimp only at h2
        (try simp only [h2])
        exact ⟨rfl, zS⟩
      · exact zC
      · rfl
      dsimp only [nA, cA]
      apply RGW.call (i := 4) rfl
      · exact zG
      · intro γ u W hcur hd
        obtain ⟨⟨h3, -, -⟩, -⟩ := hd
        dsimp only at h3
        (try simp only [h3])
        refine ⟨rfl, fun K hK => ?_⟩
        go_simp
        (go_at_call 29; (with_reducible refine (hie.out _).mono ?_); rintro e w3 ⟨rfl, hb3⟩; replace hb3 := bl_tt hb3)
        (try dsimp only)
        exact hK.out _ _ rfl (by (exact zE))
      · exact zC
      · rfl
      dsimp only [nA, cA]
      apply RGW.on (i := 5) rfl
      · exact zG
      · intro γ u W hcur hd
        obtain ⟨⟨h4, -, -⟩, -⟩ := hd
        dsimp only at h4
        (try simp only [h4])
        exact ⟨rfl, zS⟩
      · exact zC
      · rfl
      dsimp only [nA, cA]
      apply RGW.on (i := 6) rfl
      · exact zG
      · intro γ u W hcur hd
        obtain ⟨⟨h5, -, -⟩, -⟩ := hd
        dsimp only at h5
        (try simp only [h5])
        refine ⟨?_, ?_⟩
        · (simp [Region.wanted, yielded, undef, *]; done)
        exact zS
      · exact zC
      · rfl
      dsimp only [nA, cA]
      apply RGW.on (i := 7) rfl
      · exact zG
      · intro γ u W hcur hd
        obtain ⟨⟨h5, -, -⟩, -⟩ := hd
        dsimp only at h5
        (try simp only [h5])
        refine ⟨?_, ?_⟩
        · (simp [Region.wanted, yielded, undef, *]; done)
        exact zS
      · exact zC
      · rfl
      dsimp only [nA, cA]
      apply RGW.on (i := 8) rfl
      · exact zG
      · intro γ u W hcur hd
        obtain ⟨⟨h5, -, -⟩, -⟩ := hd
        dsimp only at h5
        (try simp only [h5])
        refine ⟨?_, ?_⟩
        · (simp [Region.wanted, yielded, undef, *]; done)
        exact zS
      · exact zC
      · rfl
      dsimp only [nA, cA]
      apply RGW.on (i := 9) rfl
      · exact zG
      · intro γ u W hcur hd
        obtain ⟨⟨h5, -, -⟩, ⟨h7, -, -⟩, ⟨h8, -, -⟩, -⟩ := hd
        dsimp only at h5 h7 h8
        (try simp only [h5, h7, h8])
        refine ⟨?_, ?_⟩
        · (simp [Region.wanted, yielded, undef, *]; done)
        exact zS
      · exact zC
      · rfl
      dsimp only [nA, cA]
      apply RGW.on (i := 10) rfl
      · exact zG
      · intro γ u W hcur hd
        obtain ⟨⟨h5, -, -⟩, ⟨h9, -, -⟩, -⟩ := hd
        dsimp only at h5 h9
        (try simp only [h5, h9])
        refine ⟨?_, ?_⟩
        · (simp [Region.wanted, yielded, undef, *]; done)
        exact zS
      · exact zC
      · rfl
      dsimp only [nA, cA]
      apply RGW.call (i := 11) rfl
      · exact zG
      · intro γ u W hcur hd
        obtain ⟨⟨h5, -, -⟩, ⟨h6, -, -⟩, ⟨h10, -, -⟩, -⟩ := hd
        dsimp only at h5 h6 h10
        (try simp only [h5, h6, h10])
        refine ⟨?_, fun K hK => ?_⟩
        · (simp [Region.wanted, yielded, undef, *]; done)
        go_simp
        (go_at_call 30; (with_reducible refine (hco.out _).mono ?_); rintro e w3 ⟨rfl, hb3⟩; replace hb3 := bl_tt hb3)
        (try dsimp only)
        exact hK.out _ _ rfl (by (exact zE))
      · exact zC
      · rfl
      dsimp only [nA, cA]
      apply RGW.on (i := 12) rfl
      · exact zG
      · intro γ u W hcur hd
        obtain ⟨⟨h5, -, -⟩, -⟩ := hd
        dsimp only at h5
        (try simp only [h5])
        refine ⟨?_, ?_⟩
        · (simp [Region.wanted, yielded, undef, *]; done)
        exact zS
      · exact zC
      · rfl
      dsimp only [nA, cA]
      apply RGW.on (i := 13) rfl
      · exact zG
      · intro γ u W hcur hd
        obtain ⟨⟨h5, -, -⟩, -⟩ := hd
        dsimp only at h5
        (try simp only [h5])
        refine ⟨?_, ?_⟩
        · (simp [Region.wanted, yielded, undef, *]; done)
        exact zS
      · exact zC
      · rfl
      dsimp only [nA, cA]
      apply RGW.on (i := 14) rfl
      · exact zG
      · intro γ u W hcur hd
        obtain ⟨⟨h5, -, -⟩, ⟨h12, -, -⟩, ⟨h13, -, -⟩, -⟩ := hd
        dsimp only at h5 h12 h13
        (try simp only [h5, h12, h13])
        refine ⟨?_, ?_⟩
        · (simp [Region.wanted, yielded, undef, *]; done)
        exact zS
      · exact zC
      · rfl
      dsimp only [nA, cA]
      apply RGW.on (i := 15) rfl
      · exact zG
      · intro γ u W hcur hd
        obtain ⟨⟨h5, -, -⟩, ⟨h14, -, -⟩, -⟩ := hd
        dsimp only at h5 h14
        (try simp only [h5, h14])
        refine ⟨?_, ?_⟩
        · (simp [Region.wanted, yielded, undef, *]; done)
        exact zS
      · exact zC
      · rfl
      dsimp only [nA, cA]
      apply RGW.on (i := 16) rfl
      · exact zG
      · intro γ u W hcur hd
        obtain ⟨⟨h5, -, -⟩, ⟨h11, -, -⟩, ⟨h15, -, -⟩, -⟩ := hd
        dsimp only at h5 h11 h15
        (try simp only [h5, h11, h15])
        refine ⟨?_, ?_⟩
        · (simp [Region.wanted, yielded, undef, *]; done)
        exact zS
      · exact zC
      · rfl
      dsimp only [nA, cA]
      apply RGW.on (i := 17) rfl
      · exact zG
      · intro γ u W hcur hd
        obtain ⟨⟨h5, -, -⟩, ⟨h16, -, -⟩, -⟩ := hd
        dsimp only at h5 h16
        (try simp only [h5, h16])
        exact ⟨rfl, zS⟩
      · exact zC
      · rfl
      dsimp only [nA, cA]
      apply RGW.on (i := 18) rfl
      · exact zG
      · intro γ u W hcur hd
        obtain ⟨⟨h17, -, -⟩, -⟩ := hd
        dsimp only at h17
        (try simp only [h17])
        exact ⟨rfl, zS⟩
      · exact zC
      · rfl
      dsimp only [nA, cA]
      apply RGW.on (i := 19) rfl
      · exact zG
      · intro γ u W hcur hd
        obtain ⟨⟨h18, -, -⟩, -⟩ := hd
        dsimp only at h18
        (try simp only [h18])
        refine ⟨?_, ?_⟩
        · (simp [Region.wanted, yielded, undef, *]; done)
        exact zS
      · exact zC
      · rfl
      dsimp only [nA, cA]
      apply RGW.on (i := 20) rfl
      · exact zG
      · intro γ u W hcur hd
        obtain ⟨⟨h18, -, -⟩, ⟨h19, -, -⟩, -⟩ := hd
        dsimp only at h18 h19
        (try simp only [h18, h19])
        refine ⟨?_, ?_⟩
        · (simp [Region.wanted, yielded, undef, *]; done)
        exact zS
      · exact zC
      · rfl
      dsimp only [nA, cA]
      apply RGW.off (i := 21) rfl
      · exact zG
      · intro γ u W hcur hd
        obtain ⟨⟨h20, -, -⟩, -⟩ := hd
        dsimp only at h20
        (try simp only [h20])
        simp [Region.wanted, yielded, undef, *]
      · rfl
      dsimp only [nA, cA]
      apply RGW.off (i := 22) rfl
      · exact zG
      · intro γ u W hcur hd
        obtain ⟨⟨h20, -, -⟩, -⟩ := hd
        dsimp only at h20
        (try simp only [h20])
        simp [Region.wanted, yielded, undef, *]
      · rfl
      dsimp only [nA, cA]
      apply RGW.off (i := 23) rfl
      · exact zG
      · intro γ u W hcur hd
        obtain ⟨⟨h20, -, -⟩, ⟨h21, -, -⟩, ⟨h22, -, -⟩, -⟩ := hd
        dsimp only at h20 h21 h22
        (try simp only [h20, h21, h22])
        simp [Region.wanted, yielded, undef, *]
      · rfl
      dsimp only [nA, cA]
      apply RGW.off (i := 24) rfl
      · exact zG
      · intro γ u W hcur hd
        obtain ⟨⟨h20, -, -⟩, ⟨h23, -, -⟩, -⟩ := hd
        dsimp only at h20 h23
        (try simp only [h20, h23])
        simp [Region.wanted, yielded, undef, *]
      · rfl
      dsimp only [nA, cA]
      apply RGW.off (i := 25) rfl
      · exact zG
      · intro γ u W hcur hd
        obtain ⟨⟨h20, -, -⟩, -⟩ := hd
        dsimp only at h20
        (try simp only [h20])
        simp [Region.wanted, yielded, undef, *]
      · rfl
      dsimp only [nA, cA]
      apply RGW.off (i := 26) rfl
      · exact zG
      · intro γ u W hcur hd
        obtain ⟨⟨h20, -, -⟩, ⟨h25, -, -⟩, -⟩ := hd
        dsimp only at h20 h25
        (try simp only [h20, h25])
        simp [Region.wanted, yielded, undef, *]
      · rfl
      dsimp only [nA, cA]
      apply RGW.off (i := 27) rfl
      · exact zG
      · intro γ u W hcur hd
        obtain ⟨⟨h20, -, -⟩, -⟩ := hd
        dsimp only at h20
        (try simp only [h20])
        simp [Region.wanted, yielded, undef, *]
      · rfl
      dsimp only [nA, cA]
      apply RGW.off (i := 28) rfl
      · exact zG
      · intro γ u W hcur hd
        obtain ⟨⟨h20, -, -⟩, ⟨h26, -, -⟩, ⟨h27, -, -⟩, -⟩ := hd
        dsimp only at h20 h26 h27
        (try simp only [h20, h26, h27])
        simp [Region.wanted, yielded, undef, *]
      · rfl
      dsimp only [nA, cA]
      apply RGW.off (i := 29) rfl
      · exact zG
      · intro γ u W hcur hd
        obtain ⟨⟨h20, -, -⟩, ⟨h28, -, -⟩, -⟩ := hd
        dsimp only at h20 h28
        (try simp only [h20, h28])
        simp [Region.wanted, yielded, undef, *]
      · rfl
      dsimp only [nA, cA]
      apply RGW.off (i := 30) rfl
      · exact zG
      · intro γ u W hcur hd
        obtain ⟨⟨h20, -, -⟩, ⟨h24, -, -⟩, ⟨h29, -, -⟩, -⟩ := hd
        dsimp only at h20 h24 h29
        (try simp only [h20, h24, h29])
        simp [Region.wanted, yielded, undef, *]
      · rfl
      dsimp only [nA, cA]
      apply RGW.off (i := 31) rfl
      · exact zG
      · intro γ u W hcur hd
        obtain ⟨⟨h20, -, -⟩, ⟨h30, -, -⟩, -⟩ := hd
        dsimp only at h20 h30
        (try simp only [h20, h30])
        simp [Region.wanted, yielded, undef, *]
      · rfl
      dsimp only [nA, cA]
      apply RGW.off (i := 32) rfl
      · exact zG
      · intro γ u W hcur hd
        obtain ⟨⟨h20, -, -⟩, ⟨h31, -, -⟩, -⟩ := hd
        dsimp only at h20 h31
        (try simp only [h20, h31])
        simp [Region.wanted, yielded, undef, *]
      · rfl
      dsimp only [nA, cA]
      apply RGW.off (i := 33) rfl
      · exact zG
      · intro γ u W hcur hd
        obtain ⟨⟨h32, -, -⟩, -⟩ := hd
        dsimp only at h32
        (try simp only [h32])
        simp [Region.wanted, yielded, undef, *]
      · rfl
      dsimp only [nA, cA]
      apply RGW.off (i := 34) rfl
      · exact zG
      · intro γ u W hcur hd
        obtain ⟨⟨h32, -, -⟩, -⟩ := hd
        dsimp only at h32
        (try simp only [h32])
        simp [Region.wanted, yielded, undef, *]
      · rfl
      dsimp only [nA, cA]
      apply RGW.off (i := 35) rfl
      · exact zG
      · intro γ u W hcur hd
        obtain ⟨⟨h32, -, -⟩, ⟨h34, -, -⟩, -⟩ := hd
        dsimp only at h32 h34
        (try simp only [h32, h34])
        simp [Region.wanted, yielded, undef, *]
      · rfl
      dsimp only [nA, cA]
      apply RGW.off (i := 36) rfl
      · exact zG
      · intro γ u W hcur hd
        obtain ⟨⟨h32, -, -⟩, -⟩ := hd
        dsimp only at h32
        (try simp only [h32])
        simp [Region.wanted, yielded, undef, *]
      · rfl
      dsimp only [nA, cA]
      apply RGW.off (i := 37) rfl
      · exact zG
      · intro γ u W hcur hd
        obtain ⟨⟨h32, -, -⟩, ⟨h35, -, -⟩, ⟨h36, -, -⟩, -⟩ := hd
        dsimp only at h32 h35 h36
        (try simp only [h32, h35, h36])
        simp [Region.wanted, yielded, undef, *]
      · rfl
      dsimp only [nA, cA]
      apply RGW.off (i := 38) rfl
      · exact zG
      · intro γ u W hcur hd
        obtain ⟨⟨h32, -, -⟩, ⟨h37, -, -⟩, -⟩ := hd
        dsimp only at h32 h37
        (try simp only [h32, h37])
        simp [Region.wanted, yielded, undef, *]
      · rfl
      dsimp only [nA, cA]
      apply RGW.off (i := 39) rfl
      · exact zG
      · intro γ u W hcur hd
        obtain ⟨⟨h32, -, -⟩, ⟨h33, -, -⟩, ⟨h38, -, -⟩, -⟩ := hd
        dsimp only at h32 h33 h38
        (try simp only [h32, h33, h38])
        simp [Region.wanted, yielded, undef, *]
      · rfl
      dsimp only [nA, cA]
      apply RGW.off (i := 40) rfl
      · exact zG
      · intro γ u W hcur hd
        obtain ⟨⟨h32, -, -⟩, ⟨h39, -, -⟩, -⟩ := hd
        dsimp only at h32 h39
        (try simp only [h32, h39])
        simp [Region.wanted, yielded, undef, *]
      · rfl
      dsimp only [nA, cA]
      apply RGW.off (i := 41) rfl
      · exact zG
      · intro γ u W hcur hd
        obtain ⟨⟨h20, -, -⟩, ⟨h32, -, -⟩, ⟨h40, -, -⟩, -⟩ := hd
        dsimp only at h20 h32 h40
        (try simp only [h20, h32, h40])
        simp [Region.wanted, yielded, undef, *]
      · rfl
      dsimp only [nA, cA]
      apply RGW.on (i := 42) rfl
      · exact zG
      · intro γ u W hcur hd
        obtain ⟨⟨h18, -, -⟩, ⟨h20, -, -⟩, ⟨h41, -, -⟩, -⟩ := hd
        dsimp only at h18 h20 h41
        (try simp only [h18, h20, h41])
        refine ⟨?_, ?_⟩
        · (simp [Region.wanted, yielded, undef, *]; done)
        exact zS
      · exact zC
      · rfl
      dsimp only [nA, cA]
      apply RGW.on (i := 43) rfl
      · exact zG
      · intro γ u W hcur hd
        obtain ⟨⟨h18, -, -⟩, ⟨h42, -, -⟩, -⟩ := hd
        dsimp only at h18 h42
        (try simp only [h18, h42])
        exact ⟨rfl, zS⟩
      · exact zC
      · rfl
      dsimp only [nA, cA]
      refine RGW.fin (fun γ u x1y hx1y hd hdis => ?_)
      obtain ⟨⟨h0, -, -⟩, ⟨h1, -, -⟩, ⟨h2, -, -⟩, ⟨h3, -, -⟩, ⟨h4, -, -⟩, ⟨h5, -, -⟩, ⟨h6, -, -⟩, ⟨h7, -, -⟩, ⟨h8, -, -⟩, ⟨h9, -, -⟩, ⟨h10, -, -⟩, ⟨h11, -, -⟩, ⟨h12, -, -⟩, ⟨h13, -, -⟩, ⟨h14, -, -⟩, ⟨h15, -, -⟩, ⟨h16, -, -⟩, ⟨h17, -, -⟩, ⟨h18, -, -⟩, ⟨h19, -, -⟩, ⟨h20, -, -⟩, ⟨h21, -, -⟩, ⟨h22, -, -⟩, ⟨h23, -, -⟩, ⟨h24, -, -⟩, ⟨h25, -, -⟩, ⟨h26, -, -⟩, ⟨h27, -, -⟩, ⟨h28, -, -⟩, ⟨h29, -, -⟩, ⟨h30, -, -⟩, ⟨h31, -, -⟩, ⟨h32, -, -⟩, ⟨h33, -, -⟩, ⟨h34, -, -⟩, ⟨h35, -, -⟩, ⟨h36, -, -⟩, ⟨h37, -, -⟩, ⟨h38, -, -⟩, ⟨h39, -, -⟩, ⟨h40, -, -⟩, ⟨h41, -, -⟩, ⟨h42, -, -⟩, ⟨h43, -, -⟩, -⟩ := hd
      dsimp only at h0 h1 h2 h3 h4 h5 h6 h7 h8 h9 h10 h11 h12 h13 h14 h15 h16 h17 h18 h19 h20 h21 h22 h23 h24 h25 h26 h27 h28 h29 h30 h31 h32 h33 h34 h35 h36 h37 h38 h39 h40 h41 h42 h43
      clear hdis
      simp only [h0, h1, h2, h3, h4, h5, h6, h7, h8, h9, h10, h11, h12, h13, h14, h15, h16, h17, h18, h19, h20, h21, h22, h23, h24, h25, h26, h27, h28, h29, h30, h31, h32, h33, h34, h35, h36, h37, h38, h39, h40, h41, h42, h43]
      clear h43 h42 h41 h40 h39 h38 h37 h36 h35 h34 h33 h32 h31 h30 h29 h28 h27 h26 h25 h24 h23 h22 h21 h20 h19 h18 h17 h16 h15 h14 h13 h12 h11 h10 h9 h8 h7 h6 h5 h4 h3 h2 h1 h0
      clear u
      simp only [List.map_nil]
      refine PlanW.done ?_
      have hb3 := bl_tt hx1y
      clear d0 d1 d2 d3 d4 d5 q0 q1 q2
      have hbe := hb3 _ hbx
      go_wp2
      go_roundw
      case rel => exact ⟨j + 1, by omega, by go_num, hbe⟩
      case measure => simp [intOf]; omega
    obtain ⟨hc1, hd1⟩ := hhas.out rfl
    rw [hd1] at his1
    rw [hc1] at his2
    clear hc1 hd1
    refine wp_any (w0 := x1) ⟨[], [], [some 159, some 160, some 161, some 162, some 163, some 164, some 165, some 166, some 167, some 168, some 169, some 170, some 171, some 172, some 173, some 174, some 175, some 176, some 177, some 178, some 179, some 180, some 181, some 182, some 183, some 184, some 185, some 186, some 187, some 188, some 189, some 190, some 191, some 192, some 193, some 194, some 195, some 196, some 197, some 198, some 199, some 200, some 201, some 202], [[], [], [0, 1], [0, 1, 2], [0, 1, 2, 3], [0, 1, 2, 3, 4], [0, 1, 2, 3, 4, 5], [0, 1, 2, 3, 4, 5], [0, 1, 2, 3, 4, 5], [0, 1, 2, 3, 4, 5, 7, 8], [0, 1, 2, 3, 4, 5, 7, 8, 9], [0, 1, 2, 3, 4, 5, 6, 7, 8, 9, 10], [0, 1, 2, 3, 4, 5], [0, 1, 2, 3, 4, 5], [0, 1, 2, 3, 4, 5, 12, 13], [0, 1, 2, 3, 4, 5, 12, 13, 14], [0, 1, 2, 3, 4, 5, 6, 7, 8, 9, 10, 11, 12, 13, 14, 15], [0, 1, 2, 3, 4, 5, 6, 7, 8, 9, 10, 11, 12, 13, 14, 15, 16], [0, 1, 2, 3, 4, 5, 6, 7, 8, 9, 10, 11, 12, 13, 14, 15, 16, 17], [0, 1, 2, 3, 4, 5, 6, 7, 8, 9, 10, 11, 12, 13, 14, 15, 16, 17, 18], [0, 1, 2, 3, 4, 5, 6, 7, 8, 9, 10, 11, 12, 13, 14, 15, 16, 17, 18, 19], [0, 1, 2, 3, 4, 5, 6, 7, 8, 9, 10, 11, 12, 13, 14, 15, 16, 17, 18, 19, 20], [0, 1, 2, 3, 4, 5, 6, 7, 8, 9, 10, 11, 12, 13, 14, 15, 16, 17, 18, 19, 20], [0, 1, 2, 3, 4, 5, 6, 7, 8, 9, 10, 11, 12, 13, 14, 15, 16, 17, 18, 19, 20, 21, 22], [0, 1, 2, 3, 4, 5, 6, 7, 8, 9, 10, 11, 12, 13, 14, 15, 16, 17, 18, 19, 20, 21, 22, 23], [0, 1, 2, 3, 4, 5, 6, 7, 8, 9, 10, 11, 12, 13, 14, 15, 16, 17, 18, 19, 20], [0, 1, 2, 3, 4, 5, 6, 7, 8, 9, 10, 11, 12, 13, 14, 15, 16, 17, 18, 19, 20, 25], [0, 1, 2, 3, 4, 5, 6, 7, 8, 9, 10, 11, 12, 13, 14, 15, 16, 17, 18, 19, 20], [0, 1, 2, 3, 4, 5, 6, 7, 8, 9, 10, 11, 12, 13, 14, 15, 16, 17, 18, 19, 20, 25, 26, 27], [0, 1, 2, 3, 4, 5, 6, 7, 8, 9, 10, 11, 12, 13, 14, 15, 16, 17, 18, 19, 20, 25, 26, 27, 28], [0, 1, 2, 3, 4, 5, 6, 7, 8, 9, 10, 11, 12, 13, 14, 15, 16, 17, 18, 19, 20, 21, 22, 23, 24, 25, 26, 27, 28, 29], [0, 1, 2, 3, 4, 5, 6, 7, 8, 9, 10, 11, 12, 13, 14, 15, 16, 17, 18, 19, 20, 21, 22, 23, 24, 25, 26, 27, 28, 29, 30], [0, 1, 2, 3, 4, 5, 6, 7, 8, 9, 10, 11, 12, 13, 14, 15, 16, 17, 18, 19, 20, 21, 22, 23, 24, 25, 26, 27, 28, 29, 30, 31], [0, 1, 2, 3, 4, 5, 6, 7, 8, 9, 10, 11, 12, 13, 14, 15, 16, 17, 18, 19, 20, 21, 22, 23, 24, 25, 26, 27, 28, 29, 30, 31, 32], [0, 1, 2, 3, 4, 5, 6, 7, 8, 9, 10, 11, 12, 13, 14, 15, 16, 17, 18, 19, 20, 21, 22, 23, 24, 25, 26, 27, 28, 29, 30, 31, 32], [0, 1, 2, 3, 4, 5, 6, 7, 8, 9, 10, 11, 12, 13, 14, 15, 16, 17, 18, 19, 20, 21, 22, 23, 24, 25, 26, 27, 28, 29, 30, 31, 32, 34], [0, 1, 2, 3, 4, 5, 6, 7, 8, 9, 10, 11, 12, 13, 14, 15, 16, 17, 18, 19, 20, 21, 22, 23, 24, 25, 26, 27, 28, 29, 30, 31, 32], [0, 1, 2, 3, 4, 5, 6, 7, 8, 9, 10, 11, 12, 13, 14, 15, 16, 17, 18, 19, 20, 21, 22, 23, 24, 25, 26, 27, 28, 29, 30, 31, 32, 34, 35, 36], [0, 1, 2, 3, 4, 5, 6, 7, 8, 9, 10, 11, 12, 13, 14, 15, 16, 17, 18, 19, 20, 21, 22, 23, 24, 25, 26, 27, 28, 29, 30, 31, 32, 34, 35, 36, 37], [0, 1, 2, 3, 4, 5, 6, 7, 8, 9, 10, 11, 12, 13, 14, 15, 16, 17, 18, 19, 20, 21, 22, 23, 24, 25, 26, 27, 28, 29, 30, 31, 32, 33, 34, 35, 36, 37, 38], [0, 1, 2, 3, 4, 5, 6, 7, 8, 9, 10, 11, 12, 13, 14, 15, 16, 17, 18, 19, 20, 21, 22, 23, 24, 25, 26, 27, 28, 29, 30, 31, 32, 33, 34, 35, 36, 37, 38, 39], [0, 1, 2, 3, 4, 5, 6, 7, 8, 9, 10, 11, 12, 13, 14, 15, 16, 17, 18, 19, 20, 21, 22, 23, 24, 25, 26, 27, 28, 29, 30, 31, 32, 33, 34, 35, 36, 37, 38, 39, 40], [0, 1, 2, 3, 4, 5, 6, 7, 8, 9, 10, 11, 12, 13, 14, 15, 16, 17, 18, 19, 20, 21, 22, 23, 24, 25, 26, 27, 28, 29, 30, 31, 32, 33, 34, 35, 36, 37, 38, 39, 40, 41], [0, 1, 2, 3, 4, 5, 6, 7, 8, 9, 10, 11, 12, 13, 14, 15, 16, 17, 18, 19, 20, 21, 22, 23, 24, 25, 26, 27, 28, 29, 30, 31, 32, 33, 34, 35, 36, 37, 38, 39, 40, 41, 42]], [[], [], [0, 1], [2], [3], [4], [5], [5], [5], [5, 7, 8], [5, 9], [5, 6, 10], [5], [5], [5, 12, 13], [5, 14], [5, 11, 15], [5, 16], [17], [18], [18, 19], [20], [20], [20, 21, 22], [20, 23], [20], [20, 25], [20], [20, 26, 27], [20, 28], [20, 24, 29], [20, 30], [20, 31], [32], [32], [32, 34], [32], [32, 35, 36], [32, 37], [32, 33, 38], [32, 39], [20, 32, 40], [18, 20, 41], [18, 42]]⟩ (fun _ => []) (by kernel_rfl) (by kernel_rfl) (by (exact zE)) (fun u => by simp only [putD, Act.put, List.setIfInBounds_toArray, List.set_cons_zero, List.set_cons_succ, Nat.zero_add, Nat.reduceAdd]; rfl) ?_
    apply RGW.on (i := 0) rfl
    · exact zG
    · intro γ u W hcur hd
      clear hd
      (try dsimp only)
      exact ⟨rfl, zS⟩
    · exact zC
    · rfl
    dsimp only [nA, cA]
    apply RGW.on (i := 1) rfl
    · exact zG
    · intro γ u W hcur hd
      clear hd
      (try dsimp only)
      exact ⟨rfl, zS⟩
    · exact zC
    · rfl
    dsimp only [nA, cA]
    apply RGW.on (i := 2) rfl
    · exact zG
    · intro γ u W hcur hd
      obtain ⟨⟨h0, -, -⟩, ⟨h1, -, -⟩, -⟩ := hd
      dsimp only at h0 h1
      (try simp only [h0, h1])
      exact ⟨rfl, zS⟩
    · exact zC
    · rfl
    dsimp only [nA, cA]
    apply RGW.on (i := 3) rfl
    · exact zG
    · intro γ u W hcur hd
      obtain ⟨⟨h2, -, -⟩, -⟩ := hd
      dsimp only at h2
      (try simp only [h2])
      exact ⟨rfl, zS⟩
    · exact zC
    · rfl
    dsimp only [nA, cA]
    apply RGW.call (i := 4) rfl
    · exact zG
    · intro γ u W hcur hd
      obtain ⟨⟨h3, -, -⟩, -⟩ := hd
      dsimp only at h3
      (try simp only [h3])
      refine ⟨rfl, fun K hK => ?_⟩
      go_simp
      (go_at_call 29; (with_reducible refine (hie.out _).mono ?_); rintro e w3 ⟨rfl, hb3⟩; replace hb3 := bl_tt hb3)
      (try dsimp only)
      exact hK.out _ _ rfl (by (exact zE))
    · exact zC
    · rfl
    dsimp only [nA, cA]
    apply RGW.on (i := 5) rfl
    · exact zG
    · intro γ u W hcur hd
      obtain ⟨⟨h4, -, -⟩, -⟩ := hd
      dsimp only at h4
      (try simp only [h4])
      exact ⟨rfl, zS⟩
    · exact zC
    · rfl
    dsimp only [nA, cA]
    apply RGW.on (i := 6) rfl
    · exact zG
    · intro γ u W hcur hd
      obtain ⟨⟨h5, -, -⟩, -⟩ := hd
      dsimp only at h5
      (try simp only [h5])
      refine ⟨?_, ?_⟩
      · (simp [Region.wanted, yielded, undef, *]; done)
      exact zS
    · exact zC
    · rfl
    dsimp only [nA, cA]
    apply RGW.on (i := 7) rfl
    · exact zG
    · intro γ u W hcur hd
      obtain ⟨⟨h5, -, -⟩, -⟩ := hd
      dsimp only at h5
      (try simp only [h5])
      refine ⟨?_, ?_⟩
      · (simp [Region.wanted, yielded, undef, *]; done)
      exact zS
    · exact zC
    · rfl
    dsimp only [nA, cA]
    apply RGW.on (i := 8) rfl
    · exact zG
    · intro γ u W hcur hd
      obtain ⟨⟨h5, -, -⟩, -⟩ := hd
      dsimp only at h5
      (try simp only [h5])
      refine ⟨?_, ?_⟩
      · (simp [Region.wanted, yielded, undef, *]; done)
      exact zS
    · exact zC
    · rfl
    dsimp only [nA, cA]
    apply RGW.on (i := 9) rfl
    · exact zG
    · intro γ u W hcur hd
      obtain ⟨⟨h5, -, -⟩, ⟨h7, -, -⟩, ⟨h8, -, -⟩, -⟩ := hd
      dsimp only at h5 h7 h8
      (try simp only [h5, h7, h8])
      refine ⟨?_, ?_⟩
      · (simp [Region.wanted, yielded, undef, *]; done)
      exact zS
    · exact zC
    · rfl
    dsimp only [nA, cA]
    apply RGW.on (i := 10) rfl
    · exact zG
    · intro γ u W hcur hd
      obtain ⟨⟨h5, -, -⟩, ⟨h9, -, -⟩, -⟩ := hd
      dsimp only at h5 h9
      (try simp only [h5, h9])
      refine ⟨?_, ?_⟩
      · (simp [Region.wanted, yielded, undef, *]; done)
      exact zS
    · exact zC
    · rfl
    dsimp only [nA, cA]
    apply RGW.call (i := 11) rfl
    · exact zG
    · intro γ u W hcur hd
      obtain ⟨⟨h5, -, -⟩, ⟨h6, -, -⟩, ⟨h10, -, -⟩, -⟩ := hd
      dsimp only at h5 h6 h10
      (try simp only [h5, h6, h10])
      refine ⟨?_, fun K hK => ?_⟩
      · (simp [Region.wanted, yielded, undef, *]; done)
      go_simp
      (go_at_call 30; (with_reducible refine (hco.out _).mono ?_); rintro e w3 ⟨rfl, hb3⟩; replace hb3 := bl_tt hb3)
      (try dsimp only)
      exact hK.out _ _ rfl (by (exact zE))
    · exact zC
    · rfl
    dsimp only [nA, cA]
    apply RGW.on (i := 12) rfl
    · exact zG
    · intro γ u W hcur hd
      obtain ⟨⟨h5, -, -⟩, -⟩ := hd
      dsimp only at h5
      (try simp only [h5])
      refine ⟨?_, ?_⟩
      · (simp [Region.wanted, yielded, undef, *]; done)
      exact zS
    · exact zC
    · rfl
    dsimp only [nA, cA]
    apply RGW.on (i := 13) rfl
    · exact zG
    · intro γ u W hcur hd
      obtain ⟨⟨h5, -, -⟩, -⟩ := hd
      dsimp only at h5
      (try simp only [h5])
      refine ⟨?_, ?_⟩
      · (simp [Region.wanted, yielded, undef, *]; done)
      exact zS
    · exact zC
    · rfl
    dsimp only [nA, cA]
    apply RGW.on (i := 14) rfl
    · exact zG
    · intro γ u W hcur hd
      obtain ⟨⟨h5, -, -⟩, ⟨h12, -, -⟩, ⟨h13, -, -⟩, -⟩ := hd
      dsimp only at h5 h12 h13
      (try simp only [h5, h12, h13])
      refine ⟨?_, ?_⟩
      · (simp [Region.wanted, yielded, undef, *]; done)
      exact zS
    · exact zC
    · rfl
    dsimp only [nA, cA]
    apply RGW.on (i := 15) rfl
    · exact zG
    · intro γ u W hcur hd
      obtain ⟨⟨h5, -, -⟩, ⟨h14, -, -⟩, -⟩ := hd
      dsimp only at h5 h14
      (try simp only [h5, h14])
      refine ⟨?_, ?_⟩
      · (simp [Region.wanted, yielded, undef, *]; done)
      exact zS
    · exact zC
    · rfl
    dsimp only [nA, cA]
    apply RGW.on (i := 16) rfl
    · exact zG
    · intro γ u W hcur hd
      obtain ⟨⟨h5, -, -⟩, ⟨h11, -, -⟩, ⟨h15, -, -⟩, -⟩ := hd
      dsimp only at h5 h11 h15
      (try simp only [h5, h11, h15])
      refine ⟨?_, ?_⟩
      · (simp [Region.wanted, yielded, undef, *]; done)
      exact zS
    · exact zC
    · rfl
    dsimp only [nA, cA]
    apply RGW.on (i := 17) rfl
    · exact zG
    · intro γ u W hcur hd
      obtain ⟨⟨h5, -, -⟩, ⟨h16, -, -⟩, -⟩ := hd
      dsimp only at h5 h16
      (try simp only [h5, h16])
      exact ⟨rfl, zS⟩
    · exact zC
    · rfl
    dsimp only [nA, cA]
    apply RGW.on (i := 18) rfl
    · exact zG
    · intro γ u W hcur hd
      obtain ⟨⟨h17, -, -⟩, -⟩ := hd
      dsimp only at h17
      (try simp only [h17])
      exact ⟨rfl, zS⟩
    · exact zC
    · rfl
    dsimp only [nA, cA]
    apply RGW.on (i := 19) rfl
    · exact zG
    · intro γ u W hcur hd
      obtain ⟨⟨h18, -, -⟩, -⟩ := hd
      dsimp only at h18
      (try simp only [h18])
      refine ⟨?_, ?_⟩
      · (simp [Region.wanted, yielded, undef, *]; done)
      exact zS
    · exact zC
    · rfl
    dsimp only [nA, cA]
    apply RGW.on (i := 20) rfl
    · exact zG
    · intro γ u W hcur hd
      obtain ⟨⟨h18, -, -⟩, ⟨h19, -, -⟩, -⟩ := hd
      dsimp only at h18 h19
      (try simp only [h18, h19])
      refine ⟨?_, ?_⟩
      · (simp [Region.wanted, yielded, undef, *]; done)
      exact zS
    · exact zC
    · rfl
    dsimp only [nA, cA]
    apply RGW.on (i := 21) rfl
    · exact zG
    · intro γ u W hcur hd
      obtain ⟨⟨h20, -, -⟩, -⟩ := hd
      dsimp only at h20
      (try simp only [h20])
      refine ⟨?_, ?_⟩
      · (simp [Region.wanted, yielded, undef, *]; done)
      exact zS
    · exact zC
    · rfl
    dsimp only [nA, cA]
    apply RGW.on (i := 22) rfl
    · exact zG
    · intro γ u W hcur hd
      obtain ⟨⟨h20, -, -⟩, -⟩ := hd
      dsimp only at h20
      (try simp only [h20])
      refine ⟨?_, ?_⟩
      · (simp [Region.wanted, yielded, undef, *]; done)
      exact zS
    · exact zC
    · rfl
    dsimp only [nA, cA]
    apply RGW.on (i := 23) rfl
    · exact zG
    · intro γ u W hcur hd
      obtain ⟨⟨h20, -, -⟩, ⟨h21, -, -⟩, ⟨h22, -, -⟩, -⟩ := hd
      dsimp only at h20 h21 h22
      (try simp only [h20, h21, h22])
      refine ⟨?_, ?_⟩
      · (simp [Region.wanted, yielded, undef, *]; done)
      exact zS
    · exact zC
    · rfl
    dsimp only [nA, cA]
    apply RGW.on (i := 24) rfl
    · exact zG
    · intro γ u W hcur hd
      obtain ⟨⟨h20, -, -⟩, ⟨h23, -, -⟩, -⟩ := hd
      dsimp only at h20 h23
      (try simp only [h20, h23])
      refine ⟨?_, ?_⟩
      · (simp [Region.wanted, yielded, undef, *]; done)
      exact zS
    · exact zC
    · rfl
    dsimp only [nA, cA]
    apply RGW.on (i := 25) rfl
    · exact zG
    · intro γ u W hcur hd
      obtain ⟨⟨h20, -, -⟩, -⟩ := hd
      dsimp only at h20
      (try simp only [h20])
      refine ⟨?_, ?_⟩
      · (simp [Region.wanted, yielded, undef, *]; done)
      exact zS
    · exact zC
    · rfl
    dsimp only [nA, cA]
    apply RGW.on (i := 26) rfl
    · exact zG
    · intro γ u W hcur hd
      obtain ⟨⟨h20, -, -⟩, ⟨h25, -, -⟩, -⟩ := hd
      dsimp only at h20 h25
      (try simp only [h20, h25])
      refine ⟨?_, ?_⟩
      · (simp [Region.wanted, yielded, undef, *]; done)
      exact zS
    · exact zC
    · rfl
    dsimp only [nA, cA]
    apply RGW.on (i := 27) rfl
    · exact zG
    · intro γ u W hcur hd
      obtain ⟨⟨h20, -, -⟩, -⟩ := hd
      dsimp only at h20
      (try simp only [h20])
      refine ⟨?_, ?_⟩
      · (simp [Region.wanted, yielded, undef, *]; done)
      exact zS
    · exact zC
    · rfl
    dsimp only [nA, cA]
    apply RGW.on (i := 28) rfl
    · exact zG
    · intro γ u W hcur hd
      obtain ⟨⟨h20, -, -⟩, ⟨h26, -, -⟩, ⟨h27, -, -⟩, -⟩ := hd
      dsimp only at h20 h26 h27
      (try simp only [h20, h26, h27])
      refine ⟨?_, ?_⟩
      · (simp [Region.wanted, yielded, undef, *]; done)
      exact zS
    · exact zC
    · rfl
    dsimp only [nA, cA]
    apply RGW.on (i := 29) rfl
    · exact zG
    · intro γ u W hcur hd
      obtain ⟨⟨h20, -, -⟩, ⟨h28, -, -⟩, -⟩ := hd
      dsimp only at h20 h28
      (try simp only [h20, h28])
      refine ⟨?_, ?_⟩
      · (simp [Region.wanted, yielded, undef, *]; done)
      exact zS
    · exact zC
    · rfl
    dsimp only [nA, cA]
    apply RGW.call (i := 30) rfl
    · exact zG
    · intro γ u W hcur hd
      obtain ⟨⟨h20, -, -⟩, ⟨h24, -, -⟩, ⟨h29, -, -⟩, -⟩ := hd
      dsimp only at h20 h24 h29
      (try simp only [h20, h24, h29])
      refine ⟨?_, fun K hK => ?_⟩
      · (simp [Region.wanted, yielded, undef, *]; done)
      go_simp
      (go_at_call 31; (with_reducible refine (his1.out _).mono ?_); rintro e w3 ⟨rfl, hb3⟩; replace hb3 := bl_tt hb3)
      (try dsimp only)
      exact hK.out _ _ rfl (by (exact zE))
    · exact zC
    · rfl
    dsimp only [nA, cA]
    apply RGW.on (i := 31) rfl
    · exact zG
    · intro γ u W hcur hd
      obtain ⟨⟨h20, -, -⟩, ⟨h30, -, -⟩, -⟩ := hd
      dsimp only at h20 h30
      (try simp only [h20, h30])
      refine ⟨?_, ?_⟩
      · (simp [Region.wanted, yielded, undef, *]; done)
      exact zS
    · exact zC
    · rfl
    dsimp only [nA, cA]
    apply RGW.on (i := 32) rfl
    · exact zG
    · intro γ u W hcur hd
      obtain ⟨⟨h20, -, -⟩, ⟨h31, -, -⟩, -⟩ := hd
      dsimp only at h20 h31
      (try simp only [h20, h31])
      refine ⟨?_, ?_⟩
      · (simp [Region.wanted, yielded, undef, *]; done)
      exact zS
    · exact zC
    · rfl
    dsimp only [nA, cA]
    apply RGW.on (i := 33) rfl
    · exact zG
    · intro γ u W hcur hd
      obtain ⟨⟨h32, -, -⟩, -⟩ := hd
      dsimp only at h32
      (try simp only [h32])
      refine ⟨?_, ?_⟩
      · (simp [Region.wanted, yielded, undef, *]; done)
      exact zS
    · exact zC
    · rfl
    dsimp only [nA, cA]
    apply RGW.on (i := 34) rfl
    · exact zG
    · intro γ u W hcur hd
      obtain ⟨⟨h32, -, -⟩, -⟩ := hd
      dsimp only at h32
      (try simp only [h32])
      refine ⟨?_, ?_⟩
      · (simp [Region.wanted, yielded, undef, *]; done)
      exact zS
    · exact zC
    · rfl
    dsimp only [nA, cA]
    apply RGW.on (i := 35) rfl
    · exact zG
    · intro γ u W hcur hd
      obtain ⟨⟨h32, -, -⟩, ⟨h34, -, -⟩, -⟩ := hd
      dsimp only at h32 h34
      (try simp only [h32, h34])
      refine ⟨?_, ?_⟩
      · (simp [Region.wanted, yielded, undef, *]; done)
      exact zS
    · exact zC
    · rfl
    dsimp only [nA, cA]
    apply RGW.on (i := 36) rfl
    · exact zG
    · intro γ u W hcur hd
      obtain ⟨⟨h32, -, -⟩, -⟩ := hd
      dsimp only at h32
      (try simp only [h32])
      refine ⟨?_, ?_⟩
      · (simp [Region.wanted, yielded, undef, *]; done)
      exact zS
    · exact zC
    · rfl
    dsimp only [nA, cA]
    apply RGW.on (i := 37) rfl
    · exact zG
    · intro γ u W hcur hd
      obtain ⟨⟨h32, -, -⟩, ⟨h35, -, -⟩, ⟨h36, -, -⟩, -⟩ := hd
      dsimp only at h32 h35 h36
      (try simp only [h32, h35, h36])
      refine ⟨?_, ?_⟩
      · (simp [Region.wanted, yielded, undef, *]; done)
      exact zS
    · exact zC
    · rfl
    dsimp only [nA, cA]
    apply RGW.on (i := 38) rfl
    · exact zG
    · intro γ u W hcur hd
      obtain ⟨⟨h32, -, -⟩, ⟨h37, -, -⟩, -⟩ := hd
      dsimp only at h32 h37
      (try simp only [h32, h37])
      refine ⟨?_, ?_⟩
      · (simp [Region.wanted, yielded, undef, *]; done)
      exact zS
    · exact zC
    · rfl
    dsimp only [nA, cA]
    apply RGW.call (i := 39) rfl
    · exact zG
    · intro γ u W hcur hd
      obtain ⟨⟨h32, -, -⟩, ⟨h33, -, -⟩, ⟨h38, -, -⟩, -⟩ := hd
      dsimp only at h32 h33 h38
      (try simp only [h32, h33, h38])
      refine ⟨?_, fun K hK => ?_⟩
      · (simp [Region.wanted, yielded, undef, *]; done)
      go_simp
      (go_at_call 31; (with_reducible refine (his2.out _).mono ?_); rintro e w3 ⟨rfl, hb3⟩; replace hb3 := bl_tt hb3)
      (try dsimp only)
      exact hK.out _ _ rfl (by (exact zE))
    · exact zC
    · rfl
    dsimp only [nA, cA]
    apply RGW.on (i := 40) rfl
    · exact zG
    · intro γ u W hcur hd
      obtain ⟨⟨h32, -, -⟩, ⟨h39, -, -⟩, -⟩ := hd
      dsimp only at h32 h39
      (try simp only [h32, h39])
      refine ⟨?_, ?_⟩
      · (simp [Region.wanted, yielded, undef, *]; done)
      exact zS
    · exact zC
    · rfl
    dsimp only [nA, cA]
    apply RGW.on (i := 41) rfl
    · exact zG
    · intro γ u W hcur hd
      obtain ⟨⟨h20, -, -⟩, ⟨h32, -, -⟩, ⟨h40, -, -⟩, -⟩ := hd
      dsimp only at h20 h32 h40
      (try simp only [h20, h32, h40])
      refine ⟨?_, ?_⟩
      · (simp [Region.wanted, yielded, undef, *]; done)
      exact zS
    · exact zC
    · rfl
    dsimp only [nA, cA]
    apply RGW.on (i := 42) rfl
    · exact zG
    · intro γ u W hcur hd
      obtain ⟨⟨h18, -, -⟩, ⟨h20, -, -⟩, ⟨h41, -, -⟩, -⟩ := hd
      dsimp only at h18 h20 h41
      (try simp only [h18, h20, h41])
      refine ⟨?_, ?_⟩
      · (simp [Region.wanted, yielded, undef, *]; done)
      exact zS
    · exact zC
    · rfl
    dsimp only [nA, cA]
    apply RGW.on (i := 43) rfl
    · exact zG
    · intro γ u W hcur hd
      obtain ⟨⟨h18, -, -⟩, ⟨h42, -, -⟩, -⟩ := hd
      dsimp only at h18 h42
      (try simp only [h18, h42])
      exact ⟨rfl, zS⟩
    · exact zC
    · rfl
    dsimp only [nA, cA]
    refine RGW.fin (fun γ u x1z hx1z hd hdis => ?_)
    obtain ⟨⟨h0, -, -⟩, ⟨h1, -, -⟩, ⟨h2, -, -⟩, ⟨h3, -, -⟩, ⟨h4, -, -⟩, ⟨h5, -, -⟩, ⟨h6, -, -⟩, ⟨h7, -, -⟩, ⟨h8, -, -⟩, ⟨h9, -, -⟩, ⟨h10, -, -⟩, ⟨h11, -, -⟩, ⟨h12, -, -⟩, ⟨h13, -, -⟩, ⟨h14, -, -⟩, ⟨h15, -, -⟩, ⟨h16, -, -⟩, ⟨h17, -, -⟩, ⟨h18, -, -⟩, ⟨h19, -, -⟩, ⟨h20, -, -⟩, ⟨h21, -, -⟩, ⟨h22, -, -⟩, ⟨h23, -, -⟩, ⟨h24, -, -⟩, ⟨h25, -, -⟩, ⟨h26, -, -⟩, ⟨h27, -, -⟩, ⟨h28, -, -⟩, ⟨h29, -, -⟩, ⟨h30, -, -⟩, ⟨h31, -, -⟩, ⟨h32, -, -⟩, ⟨h33, -, -⟩, ⟨h34, -, -⟩, ⟨h35, -, -⟩, ⟨h36, -, -⟩, ⟨h37, -, -⟩, ⟨h38, -, -⟩, ⟨h39, -, -⟩, ⟨h40, -, -⟩, ⟨h41, -, -⟩, ⟨h42, -, -⟩, ⟨h43, -, -⟩, -⟩ := hd
    dsimp only at h0 h1 h2 h3 h4 h5 h6 h7 h8 h9 h10 h11 h12 h13 h14 h15 h16 h17 h18 h19 h20 h21 h22 h23 h24 h25 h26 h27 h28 h29 h30 h31 h32 h33 h34 h35 h36 h37 h38 h39 h40 h41 h42 h43
    clear hdis
    simp only [h0, h1, h2, h3, h4, h5, h6, h7, h8, h9, h10, h11, h12, h13, h14, h15, h16, h17, h18, h19, h20, h21, h22, h23, h24, h25, h26, h27, h28, h29, h30, h31, h32, h33, h34, h35, h36, h37, h38, h39, h40, h41, h42, h43]
    clear h43 h42 h41 h40 h39 h38 h37 h36 h35 h34 h33 h32 h31 h30 h29 h28 h27 h26 h25 h24 h23 h22 h21 h20 h19 h18 h17 h16 h15 h14 h13 h12 h11 h10 h9 h8 h7 h6 h5 h4 h3 h2 h1 h0
    clear u
    simp only [List.map_nil]
    refine PlanW.done ?_
    have hb3 := bl_tt hx1z
    clear d0 d1 d2 d3 d4 d5 q0 q1 q2
    have hbe := hb3 _ hbx
    go_wp2
    go_roundw
    case rel => exact ⟨j + 1, by omega, by go_num, hbe⟩
    case measure => simp [intOf]; omega
theorem l_FixPaths (n : Nt) (b : Bx) (l : List StA) (t : List Pl) (A A' AP : Option Addr) (c c' cp : Nat) (w : World) (hs : Sl cBc 4 w A n.bs) (hc : n.bs.length ≤ c) (hnm : ∀ b ∈ n.bs, b.name.size ≤ maxLen) (hl : StsIn l A' w) (ht : Sl cPl 3 w AP t) :
    Calls Tryz.prog 5 #[vNt n.world (.slice A n.bs.length c), vBx b, .agg #[.slice A' l.length c', .slice AP t.length cp]] w (Ret (.bool true) w) := by
  cases hF : (decide (n.bs.length ≤ 8) && decide (0 ≤ 10))
  · exact l_Paths_few n b l t A A' AP c c' cp w hF
  · have hF' := hF
    simp only [Bool.and_eq_true, decide_eq_true_eq] at hF'
    exact l_Paths n b l t A A' AP c c' cp w hF ⟨by omega, hc, hnm, hs⟩ hl ht
end Go.Proofs.YtephimmamkafoaaGreat
