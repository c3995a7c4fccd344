/-
  Walk: the law of tracks.
-/
import Derived.Test.YtephimmamkafoaaGreatT14
import Derived.Test.YtephimmamkafoaaGreatTH6
import Derived.Test.YtephimmamkafoaaGreatTH7
set_option linter.unusedSimpArgs false
set_option linter.unusedVariables false
namespace Go.Proofs.YtephimmamkafoaaGreat
open Go.RowKit Go.Shelf
attribute [local go_sem] bl_al bl_drew bl_drewN bl_refl bx_al bx_drew bx_drewN bx_refl
set_option maxRecDepth 20000
/-- Steps in memory, whatever their readings' places. -/
def StsAs (L : List St) (A : Option Addr) (W : World) : Prop := ∃ l2 : List StA, l2.map (·.s) = L ∧ StsIn l2 A W
theorem StsAs.below {L : List St} {A : Option Addr} {w w' : World} (h : StsAs L A w) (hb : Below w.heap.size w w') : StsAs L A w' := by
  obtain ⟨l2, h1, h2⟩ := h
  exact ⟨l2, h1, h2.below hb⟩
theorem few_as {l l2 : List StA} (h : l2.map (·.s) = l.map (·.s)) (hf : few2 l) : few1 l2 ∧ l2.length = l.length := by
  have hlen : l2.length = l.length := by
    have := congrArg List.length h
    simpa using this
  refine ⟨⟨by rw [hlen]; exact hf.few1.1, fun x hx => ?_⟩, hlen⟩
  have h1 : x.s ∈ l2.map (·.s) := List.mem_map_of_mem hx
  rw [h] at h1
  obtain ⟨y, hy, e⟩ := List.mem_map.1 h1
  rw [← e]
  exact hf.few1.2 y hy
/-- The library's tracks, and smoothed boxes, at whatever copies of a net and of steps. -/
theorem trackOf_as0 {n : Nt} {b : Bx} {l : List StA} (hlb : n.bs.length ≤ 1000) (hf : few2 l) (h0 : trackE n b (l.map (·.s)) ≠ 0) (W : World) (A A' : Option Addr) (c c' : Nat) (h : NtIn n A c W) (h' : StsAs (l.map (·.s)) A' W) :
    Calls Tryz.prog 18 #[vNt n.world (.slice A n.bs.length c), vBx b, .slice A' l.length c'] W (Ret (.tuple #[.slice none 0 0, .int .i64 (trackE n b (l.map (·.s)))]) W) := by
  obtain ⟨l2, h1, h2⟩ := h'
  obtain ⟨h3, h4⟩ := few_as h1 hf
  have := c_TrackOf n b l2 A A' c c' W h h2 h3 hlb
  rw [h1, h4] at this
  exact this.mono fun e w' hp => ⟨hp.2.1 h0, hp.1⟩
theorem trackOf_as1 {n : Nt} {b : Bx} {l : List StA} (hlb : n.bs.length ≤ 1000) (hf : few2 l) (h0 : trackE n b (l.map (·.s)) = 0) (W : World) (A A' : Option Addr) (c c' : Nat) (h : NtIn n A c W) (h' : StsAs (l.map (·.s)) A' W) :
    Calls Tryz.prog 18 #[vNt n.world (.slice A n.bs.length c), vBx b, .slice A' l.length c'] W (fun e w' => ∃ A2 c2, e = .returned (.tuple #[.slice A2 l.length c2, .int .i64 0]) ∧ Below W.heap.size W w' ∧ Sl cBox 6 w' A2 (trk n b (l.map (·.s)))) := by
  obtain ⟨l2, h1, h2⟩ := h'
  obtain ⟨h3, h4⟩ := few_as h1 hf
  have := c_TrackOf n b l2 A A' c c' W h h2 h3 hlb
  rw [h1, h4] at this
  refine this.mono fun e w' hp => ?_
  obtain ⟨A2, c2, e1, ho⟩ := hp.2.2 h0
  refine ⟨A2, c2, e1, hp.1, ?_⟩
  have hl : (trk n b (l.map (·.s))).length = l.length := by rw [trk_len, List.length_map]
  rw [← hl] at ho
  exact own_slC (cs := cBox) (fun _ => rfl) (by decide) ho
theorem smoothedOf_as0 {n : Nt} {b : Bx} {l : List StA} (hlb : n.bs.length ≤ 1000) (hf : few2 l) (h0 : trackE n b (l.map (·.s)) ≠ 0) (W : World) (A A' : Option Addr) (c c' : Nat) (h : NtIn n A c W) (h' : StsAs (l.map (·.s)) A' W) :
    Calls Tryz.prog 19 #[vNt n.world (.slice A n.bs.length c), vBx b, .slice A' l.length c'] W (Ret (.tuple #[.slice none 0 0, .int .i64 (trackE n b (l.map (·.s)))]) W) := by
  obtain ⟨l2, h1, h2⟩ := h'
  obtain ⟨h3, h4⟩ := few_as h1 hf
  have := c_SmoothedOf n b l2 A A' c c' W h h2 h3 (by rw [h4]; exact hf.1) hlb
  rw [h1, h4] at this
  exact this.mono fun e w' hp => ⟨hp.2.1 h0, hp.1⟩
theorem smoothedOf_as1 {n : Nt} {b : Bx} {l : List StA} (hlb : n.bs.length ≤ 1000) (hf : few2 l) (h0 : trackE n b (l.map (·.s)) = 0) (W : World) (A A' : Option Addr) (c c' : Nat) (h : NtIn n A c W) (h' : StsAs (l.map (·.s)) A' W) :
    Calls Tryz.prog 19 #[vNt n.world (.slice A n.bs.length c), vBx b, .slice A' l.length c'] W (fun e w' => ∃ A2 c2, e = .returned (.tuple #[.slice A2 (l.length + 1) c2, .int .i64 0]) ∧ Below W.heap.size W w' ∧ Sl cBox 6 w' A2 (smo n b (l.map (·.s)))) := by
  obtain ⟨l2, h1, h2⟩ := h'
  obtain ⟨h3, h4⟩ := few_as h1 hf
  have := c_SmoothedOf n b l2 A A' c c' W h h2 h3 (by rw [h4]; exact hf.1) hlb
  rw [h1, h4] at this
  refine this.mono fun e w' hp => ?_
  obtain ⟨A2, c2, e1, ho⟩ := hp.2.2 h0
  refine ⟨A2, c2, e1, hp.1, ?_⟩
  have hl : (smo n b (l.map (·.s))).length = l.length + 1 := by rw [smo_len, List.length_map]
  rw [← hl] at ho
  exact own_slC (cs := cBox) (fun _ => rfl) (by decide) ho
theorem copySteps_as {l : List StA} {A' : Option Addr} {c' : Nat} (hf : few2 l) {W : World} (hl : StsIn l A' W) :
    Calls Tryz.prog 11 #[.slice A' l.length c'] W (fun e w' => ∃ A2 c2, e = .returned (.slice A2 l.length c2) ∧ Below W.heap.size W w' ∧ StsAs (l.map (·.s)) A2 w') :=
  (r_CopySteps l A' c' W hl hf.few1).mono fun e w' ⟨l2, A2, c2, e1, e2, h1, h2⟩ => ⟨A2, c2, e1, h1, l2, e2, h2⟩
set_option maxHeartbeats 4000000 in
theorem l_Tracks_few (n : Nt) (b : Bx) (l : List StA) (A A' : Option Addr) (c c' : Nat) (w : World) (hF : (decide (n.bs.length ≤ 8) && decide (0 ≤ 10)) = false) :
    Calls Tryz.prog 4 #[vNt n.world (.slice A n.bs.length c), vBx b, .slice A' l.length c'] w (Ret (.bool true) w) := by
  have hfw := Lib.hid fun W : World => r_few n A none c 0 0 W
  rw [hF] at hfw
  clear hF
  generalize n.bs.length = nl at *
  generalize l.length = ll at *
  go_enter Tryz.func4, Tryz.ntmps4
  go_upto_region 3 with (go_at_call 6; (with_reducible refine (r_awake _).mono ?_); rintro e w3 ⟨rfl, hb3⟩; replace hb3 := bl_tt hb3)
  apply absB2 (w0 := w) (g0 := w.heap.size) (g1 := w.heap.size + 1)
  iterate 3 (focus ((with_reducible (repeat' (first | assumption | apply jA | apply jB | apply jC | apply jD | apply jE | apply jF | apply hb3 | apply jG | apply jH | apply jI | apply jJ | apply jK | apply hb3x | (apply jL; first | (simp; done) | rfl) | apply jM | apply jN | apply jO | apply jP | apply jQ | apply jR | apply jS | apply jT (hb := hb3 _ (jA _)) | omega | (simp; done) | (simp; omega) | (dsimp only; omega)))); done))
  intro wa hb0' k0' k1'
  (try simp only [List.setIfInBounds_toArray, List.set_cons_zero, List.set_cons_succ] at k0' k1')
  try clear hb3
  try clear hb0
  try clear k0
  try clear k1
  have hb0 := hb0'; clear hb0'
  have k0 := k0'; clear k0'
  have k1 := k1'; clear k1'
  have Lk0 := k0.later
  have Fk0 := k0.laterF
  have Qk0 := k0.lt
  have Lk1 := k1.later
  have Fk1 := k1.laterF
  have Qk1 := k1.lt
  have hb3 := fun (w' : World) (h : Below w'.heap.size w' wa) => h
  have hv := hb3 wa (bl_refl wa)
  go_wp2_with (go_at_call 7; (with_reducible refine (hfw.out _).mono ?_); rintro e w3 ⟨rfl, hb4⟩; replace hb3 := fun w h => bl_tt hb4 w (hb3 w h); have hv := hb3 wa (bl_refl wa))
  go_ret
  exact ⟨rfl, bl_tr hb0 hv⟩
set_option maxHeartbeats 16000000 in
theorem l_Tracks (n : Nt) (b : Bx) (l : List StA) (A A' : Option Addr) (c c' : Nat) (w : World) (hF : (decide (n.bs.length ≤ 8) && decide (0 ≤ 10)) = true) (hn : NtIn n A c w) (hl : StsIn l A' w) :
    Calls Tryz.prog 4 #[vNt n.world (.slice A n.bs.length c), vBx b, .slice A' l.length c'] w (Ret (.bool true) w) := by
  have hlb : n.bs.length ≤ 1000 := hn.len
  have hfw := Lib.hid fun W : World => r_few n A none c 0 0 W
  rw [hF] at hfw
  have hls := Lib.hid fun (W : World) (hb : Below w.heap.size w W) => r_lightSteps n b l A A' c c' W (hn.below hb) hlb (hl.below hb)
  have hcp := Lib.hid fun (W : World) (hb : Below w.heap.size w W) => r_CopyNet n A c W (hn.below hb)
  have hcy := Lib.hid fun (hf : few2 l) (W : World) (hb : Below w.heap.size w W) => copySteps_as (c' := c') hf (hl.below hb)
  have hte := Lib.hid fun (hf : few2 l) (W : World) (hb : Below w.heap.size w W) => r_TrackErr n b l A A' c c' W (hn.below hb) (hl.below hb) hf.few1 hlb
  have htr : Hid (few2 l → trackE n b (l.map (·.s)) = 0 → ∀ W, Below w.heap.size w W → Calls Tryz.prog 22 #[vNt n.world (.slice A n.bs.length c), vBx b, .slice A' l.length c'] W (fun e w' => ∃ A2 c2, e = .returned (.slice A2 l.length c2) ∧ Below W.heap.size W w' ∧ Sl cBox 6 w' A2 (trk n b (l.map (·.s))))) := fun hf h W hb =>
    (r_Track n b l A A' c c' W (hn.below hb) (hl.below hb) hf.few1 h).mono fun e w' ⟨A2, c2, e1, h1, h2⟩ => ⟨A2, c2, e1, h1, by
      have hl : (trk n b (l.map (·.s))).length = l.length := by rw [trk_len, List.length_map]
      rw [← hl] at h2
      exact own_slC (cs := cBox) (fun _ => rfl) (by decide) h2⟩
  have hss := Lib.hid fun (hf : few2 l) (h : trackE n b (l.map (·.s)) = 0) (W : World) (hb : Below w.heap.size w W) => r_Smoothed n b l A A' c c' W (hn.below hb) (hl.below hb) hf.few1 h
  have htk0 := Lib.hid fun (hf : few2 l) (h : trackE n b (l.map (·.s)) ≠ 0) => trackOf_as0 hlb hf h
  have htk1 := Lib.hid fun (hf : few2 l) (h : trackE n b (l.map (·.s)) = 0) => trackOf_as1 hlb hf h
  have hsm0 := Lib.hid fun (hf : few2 l) (h : trackE n b (l.map (·.s)) ≠ 0) => smoothedOf_as0 hlb hf h
  have hsm1 := Lib.hid fun (hf : few2 l) (h : trackE n b (l.map (·.s)) = 0) => smoothedOf_as1 hlb hf h
  have hbt : Hid (l.length ≤ 8 → ∀ (W : World) (A A' : Option Addr) (c c' : Nat), Sl cBox 6 W A (trk n b (l.map (·.s))) → Sl cBox 6 W A' (trk n b (l.map (·.s))) → Calls Tryz.prog 21 #[.slice A l.length c, .slice A' l.length c'] W (Ret (.bool true) W)) := fun h8 W A A' c c' h h' => by
    have hl : (trk n b (l.map (·.s))).length = l.length := by rw [trk_len, List.length_map]
    have := r_SameBoxes _ A A' c c' W h h' (by omega)
    rw [hl] at this
    exact this
  have hbs : Hid (l.length ≤ 8 → ∀ (W : World) (A A' : Option Addr) (c c' : Nat), Sl cBox 6 W A (smo n b (l.map (·.s))) → Sl cBox 6 W A' (smo n b (l.map (·.s))) → Calls Tryz.prog 21 #[.slice A (l.length + 1) c, .slice A' (l.length + 1) c'] W (Ret (.bool true) W)) := fun h8 W A A' c c' h h' => by
    have hl : (smo n b (l.map (·.s))).length = l.length + 1 := by rw [smo_len, List.length_map]
    have := r_SameBoxes _ A A' c c' W h h' (by omega)
    rw [hl] at this
    exact this
  clear hF hn hl hlb
  generalize trackE n b (l.map (·.s)) = TE at *
  generalize trk n b (l.map (·.s)) = TR at *
  generalize smo n b (l.map (·.s)) = SM at *
  generalize l.map (·.s) = L at *
  generalize n.bs.length = nl at *
  have hf8 : Hid (few2 l → l.length ≤ 8) := fun h => h.1
  generalize few2 l = FL at *
  generalize l.length = ll at *
  go_enter Tryz.func4, Tryz.ntmps4
  go_upto_region 3 with (go_at_call 6; (with_reducible refine (r_awake _).mono ?_); rintro e w3 ⟨rfl, hb3⟩; replace hb3 := bl_tt hb3)
  apply absB2 (w0 := w) (g0 := w.heap.size) (g1 := w.heap.size + 1)
  iterate 3 (focus ((with_reducible (repeat' (first | assumption | apply jA | apply jB | apply jC | apply jD | apply jE | apply jF | apply hb3 | apply jG | apply jH | apply jI | apply jJ | apply jK | apply hb3x | (apply jL; first | (simp; done) | rfl) | apply jM | apply jN | apply jO | apply jP | apply jQ | apply jR | apply jS | apply jT (hb := hb3 _ (jA _)) | omega | (simp; done) | (simp; omega) | (dsimp only; omega)))); done))
  intro wa hb0' k0' k1'
  (try simp only [List.setIfInBounds_toArray, List.set_cons_zero, List.set_cons_succ] at k0' k1')
  try clear hb3
  try clear hb0
  try clear k0
  try clear k1
  have hb0 := hb0'; clear hb0'
  have k0 := k0'; clear k0'
  have k1 := k1'; clear k1'
  have Lk0 := k0.later
  have Fk0 := k0.laterF
  have Qk0 := k0.lt
  have Lk1 := k1.later
  have Fk1 := k1.laterF
  have Qk1 := k1.lt
  have hb3 := fun (w' : World) (h : Below w'.heap.size w' wa) => h
  have hv := hb3 wa (bl_refl wa)
  go_wp2_with (go_at_call 7; (with_reducible refine (hfw.out _).mono ?_); rintro e w3 ⟨rfl, hb4⟩; replace hb3 := fun w h => bl_tt hb4 w (hb3 w h); have hv := hb3 wa (bl_refl wa))
  with_reducible refine Calls.mono (hls.out _ (bl_tr hb0 hv)) ?_
  rintro e w4 ⟨B, rfl, hb5, hB⟩
  replace hb3 := fun w h => bl_tt hb5 w (hb3 w h)
  have hv := hb3 wa (bl_refl wa)
  cases B
  case false =>
    go_wp2
    go_ret
    exact ⟨rfl, bl_tr hb0 hv⟩
  have hf := hB rfl
  clear hB hls hfw
  replace hbt := Lib.hid (hbt.out (hf8.out hf))
  replace hbs := Lib.hid (hbs.out (hf8.out hf))
  clear hf8
  replace hcy := Lib.hid (hcy.out hf)
  replace hte := Lib.hid (hte.out hf)
  by_cases hT : TE = 0
  case neg =>
    replace htk0 := Lib.hid (htk0.out hf hT)
    replace hsm0 := Lib.hid (hsm0.out hf hT)
    have hT' : (TE != 0) = true := by simp [hT]
    replace hT := Lib.hid hT
    clear htk1 hsm1 htr hss hf hbt hbs
    apply absX2 (w0 := w) (w := w4) (g0 := w.heap.size) (g1 := w.heap.size + 1)
    iterate 3 (focus ((with_reducible (repeat' (first | assumption | apply jA | apply jB | apply jC | apply jD | apply jE | apply jF | apply hb3 | apply jG | apply jH | apply jI | apply jJ | apply jK | apply hb3x | (apply jL; first | (simp; done) | rfl) | apply jM | apply jN | apply jO | apply jP | apply jQ | apply jR | apply jS | apply jT (hb := hb3 _ (jA _)) | omega | (simp; done) | (simp; omega) | (dsimp only; omega)))); done))
    intro wb hb0' k0' k1'
    (try simp only [List.setIfInBounds_toArray, List.set_cons_zero, List.set_cons_succ] at k0' k1')
    try clear hb3
    try clear Lk0
    try clear Fk0
    try clear Qk0
    try clear Lk1
    try clear Fk1
    try clear Qk1
    try clear hb0
    try clear k0
    try clear k1
    have hb0 := hb0'; clear hb0'
    have k0 := k0'; clear k0'
    have k1 := k1'; clear k1'
    have Lk0 := k0.later
    have Fk0 := k0.laterF
    have Qk0 := k0.lt
    have Lk1 := k1.later
    have Fk1 := k1.laterF
    have Qk1 := k1.lt
    go_upto_region 5 with fail
    refine wp_any (w0 := wb) ⟨[], [], [some 25, some 26, some 27, some 28, some 29, some 30, some 24, some 31, some 32, some 7, some 8], [[], [0], [], [], [0, 1, 3], [0, 1, 2, 3, 4], [0, 1, 2, 3, 4, 5], [0, 1, 2, 3, 4, 5, 6], [0, 1, 2, 3, 4, 5, 6], [0, 1, 2, 3, 4, 5, 6, 7], [0, 1, 2, 3, 4, 5, 6, 7, 8, 9]], [[], [0], [], [], [3], [1, 2, 4], [1, 4, 5], [1, 4, 6], [1, 4, 6], [1, 4, 7], [1, 4, 8]]⟩ (fun _ => []) (by kernel_rfl) (by kernel_rfl) (by (with_reducible (repeat' (first | assumption | apply jA | apply jB | apply jC | apply jD | apply jE | apply jF | apply hb3 | omega | (simp; done) | (simp; omega) | (dsimp only; omega))))) (fun u => by simp only [putD, Act.put, List.setIfInBounds_toArray, List.set_cons_zero, List.set_cons_succ, Nat.zero_add, Nat.reduceAdd]; rfl) ?_
    apply RGW.on (i := 0) rfl
    · (simp only [gA, gB, gC] <;> rfl)
    · intro γ u W hcur hd
      clear hd
      (try dsimp only)
      refine ⟨rfl, ?_⟩
      go_simp <;> (try go_bits) <;> with_reducible rfl
    · exact fun _ _ _ => rfl
    · rfl
    dsimp only [nA, cA]
    apply RGW.gh (⟨fun γ => vNt n.world (.slice (γ 1).A nl (γ 1).c), fun γ W => NtIn n (γ 1).A (γ 1).c W, fun _ => []⟩) (i := 1) rfl
    · (simp only [gA, gB, gC] <;> rfl)
    · intro γ u W hcur hd
      obtain ⟨⟨h0, -, -⟩, -⟩ := hd
      dsimp only at h0
      (try simp only [h0])
      refine ⟨rfl, fun K hK => ?_⟩
      go_simp
      (go_at_call 10; (with_reducible refine (hcp.out _ (bl_tr hb0 hcur)).mono ?_); rintro e w3 ⟨Ax, cx, rfl, hb3, hox⟩; dsimp only; exact hK.out ⟨0, undef, Ax, cx⟩ _ _ (by simp [up]) hb3 (by simpa [up] using hox) (by simp))
    · intro γ γ' hg
      try dsimp only
      have e1 := hg 1 (by decide)
      simp only [e1]
      try exact ⟨trivial, fun _ h => h⟩
    · intro γ W W' hbl hR
      first | exact hR.below hbl | exact own_below hR hbl | exact trivial | exact ⟨hR.1.below hbl, hR.2⟩
    · rfl
    dsimp only [nA, cA]
    apply RGW.on (i := 2) rfl
    · (simp only [gA, gB, gC] <;> rfl)
    · intro γ u W hcur hd
      clear hd
      (try dsimp only)
      refine ⟨rfl, ?_⟩
      go_simp <;> (try go_bits) <;> with_reducible rfl
    · exact fun _ _ _ => rfl
    · rfl
    dsimp only [nA, cA]
    apply RGW.on (i := 3) rfl
    · (simp only [gA, gB, gC] <;> rfl)
    · intro γ u W hcur hd
      clear hd
      (try dsimp only)
      refine ⟨rfl, ?_⟩
      go_simp <;> (try go_bits) <;> with_reducible rfl
    · exact fun _ _ _ => rfl
    · rfl
    dsimp only [nA, cA]
    apply RGW.gh (⟨fun γ => .slice (γ 4).A ll (γ 4).c, fun γ W => StsAs L (γ 4).A W, fun _ => []⟩) (i := 4) rfl
    · (simp only [gA, gB, gC] <;> rfl)
    · intro γ u W hcur hd
      obtain ⟨⟨h3, -, -⟩, -⟩ := hd
      dsimp only at h3
      (try simp only [h3])
      refine ⟨rfl, fun K hK => ?_⟩
      go_simp
      (go_at_call 11; (with_reducible refine (hcy.out _ (bl_tr hb0 hcur)).mono ?_); rintro e w3 ⟨Ax, cx, rfl, hb3, hox⟩; dsimp only; exact hK.out ⟨0, undef, Ax, cx⟩ _ _ (by simp [up]) hb3 (by simpa [up] using hox) (by simp))
    · intro γ γ' hg
      try dsimp only
      have e1 := hg 1 (by decide)
      have e4 := hg 4 (by decide)
      simp only [e1, e4]
      try exact ⟨trivial, fun _ h => h⟩
    · intro γ W W' hbl hR
      first | exact hR.below hbl | exact own_below hR hbl | exact trivial | exact ⟨hR.1.below hbl, hR.2⟩
    · rfl
    dsimp only [nA, cA]
    apply RGW.call (i := 5) rfl
    · (simp only [gA, gB, gC] <;> rfl)
    · intro γ u W hcur hd
      obtain ⟨⟨h1, r1, -⟩, ⟨h2, -, -⟩, ⟨h4, r4, -⟩, -⟩ := hd
      dsimp only at h1 h2 h4 r1 r4
      (try simp only [h1, h2, h4])
      refine ⟨rfl, fun K hK => ?_⟩
      go_simp
      (go_at_call 18; (with_reducible refine (htk0.out _ _ _ _ _ r1 r4).mono ?_); rintro e w3 ⟨rfl, hb3⟩; replace hb3 := bl_tt hb3)
      (try dsimp only)
      exact hK.out _ _ rfl (by (with_reducible (repeat' (first | assumption | apply jA | apply jB | apply jC | apply jD | apply jE | apply jF | apply hb3 | omega | (simp; done) | (simp; omega) | (dsimp only; omega)))))
    · exact fun _ _ _ => rfl
    · rfl
    dsimp only [nA, cA]
    apply RGW.on (i := 6) rfl
    · (simp only [gA, gB, gC] <;> rfl)
    · intro γ u W hcur hd
      obtain ⟨⟨h1, r1, -⟩, ⟨h4, r4, -⟩, ⟨h5, -, -⟩, -⟩ := hd
      dsimp only at h1 h4 h5 r1 r4
      (try simp only [h1, h4, h5])
      refine ⟨rfl, ?_⟩
      go_simp <;> (try go_bits) <;> with_reducible rfl
    · exact fun _ _ _ => rfl
    · rfl
    dsimp only [nA, cA]
    apply RGW.on (i := 7) rfl
    · (simp only [gA, gB, gC] <;> rfl)
    · intro γ u W hcur hd
      obtain ⟨⟨h1, r1, -⟩, ⟨h4, r4, -⟩, ⟨h6, -, -⟩, -⟩ := hd
      dsimp only at h1 h4 h6 r1 r4
      (try simp only [h1, h4, h6])
      refine ⟨rfl, ?_⟩
      go_simp <;> (try go_bits) <;> with_reducible rfl
    · exact fun _ _ _ => rfl
    · rfl
    dsimp only [nA, cA]
    apply RGW.on (i := 8) rfl
    · (simp only [gA, gB, gC] <;> rfl)
    · intro γ u W hcur hd
      obtain ⟨⟨h1, r1, -⟩, ⟨h4, r4, -⟩, ⟨h6, -, -⟩, -⟩ := hd
      dsimp only at h1 h4 h6 r1 r4
      (try simp only [h1, h4, h6])
      refine ⟨rfl, ?_⟩
      go_simp <;> (try go_bits) <;> with_reducible rfl
    · exact fun _ _ _ => rfl
    · rfl
    dsimp only [nA, cA]
    apply RGW.on (i := 9) rfl
    · (simp only [gA, gB, gC] <;> rfl)
    · intro γ u W hcur hd
      obtain ⟨⟨h1, r1, -⟩, ⟨h4, r4, -⟩, ⟨h7, -, -⟩, -⟩ := hd
      dsimp only at h1 h4 h7 r1 r4
      (try simp only [h1, h4, h7])
      refine ⟨rfl, ?_⟩
      go_simp <;> (try go_bits) <;> with_reducible rfl
    · exact fun _ _ _ => rfl
    · rfl
    dsimp only [nA, cA]
    apply RGW.on (i := 10) rfl
    · (simp only [gA, gB, gC] <;> rfl)
    · intro γ u W hcur hd
      obtain ⟨⟨h1, r1, -⟩, ⟨h4, r4, -⟩, ⟨h8, -, -⟩, -⟩ := hd
      dsimp only at h1 h4 h8 r1 r4
      (try simp only [h1, h4, h8])
      refine ⟨rfl, ?_⟩
      go_simp <;> (try go_bits) <;> with_reducible rfl
    · exact fun _ _ _ => rfl
    · rfl
    dsimp only [nA, cA]
    refine RGW.fin (fun γ u wc hwc hd hdis => ?_)
    obtain ⟨⟨h0, -, -⟩, ⟨h1, r1, b1⟩, ⟨h2, -, -⟩, ⟨h3, -, -⟩, ⟨h4, r4, b4⟩, ⟨h5, -, -⟩, ⟨h6, -, -⟩, ⟨h7, -, -⟩, ⟨h8, -, -⟩, ⟨h9, -, -⟩, ⟨h10, -, -⟩, -⟩ := hd
    dsimp only at h0 h1 h2 h3 h4 h5 h6 h7 h8 h9 h10 r1 r4 b1 b4
    clear hdis
    simp only [h0, h1, h2, h3, h4, h5, h6, h7, h8, h9, h10]
    clear h10 h9 h8 h7 h6 h5 h4 h3 h2 h1 h0
    clear u
    simp only [List.map_nil]
    refine PlanW.done ?_
    have hb3 := bl_tt hwc
    clear r1 r4
    apply absTB2 (w0 := w) (g0 := w.heap.size) (g1 := w.heap.size + 1)
    iterate 3 (focus ((with_reducible (repeat' (first | assumption | apply jA | apply jB | apply jC | apply jD | apply jE | apply jF | apply hb3 | apply jG | apply jH | apply jI | apply jJ | apply jK | apply hb3x | (apply jL; first | (simp; done) | rfl) | apply jM | apply jN | apply jO | apply jP | apply jQ | apply jR | apply jS | apply jT (hb := hb3 _ (jA _)) | omega | (simp; done) | (simp; omega) | (dsimp only; omega)))); done))
    intro wd hb0' k0' k1'
    (try simp only [List.setIfInBounds_toArray, List.set_cons_zero, List.set_cons_succ] at k0' k1')
    try clear hb3
    try clear Lk0
    try clear Fk0
    try clear Qk0
    try clear Lk1
    try clear Fk1
    try clear Qk1
    try clear hb0
    try clear k0
    try clear k1
    have hb0 := hb0'; clear hb0'
    have k0 := k0'; clear k0'
    have k1 := k1'; clear k1'
    have Lk0 := k0.later
    have Fk0 := k0.laterF
    have Qk0 := k0.lt
    have Lk1 := k1.later
    have Fk1 := k1.laterF
    have Qk1 := k1.lt
    go_upto_region 6 with fail
    refine wp_any (w0 := wd) ⟨[], [], [some 34, some 35, some 36, some 37, some 38, some 39, some 33, some 40, some 41, some 9, some 10], [[], [0], [], [], [0, 1, 3], [0, 1, 2, 3, 4], [0, 1, 2, 3, 4, 5], [0, 1, 2, 3, 4, 5, 6], [0, 1, 2, 3, 4, 5, 6], [0, 1, 2, 3, 4, 5, 6, 7], [0, 1, 2, 3, 4, 5, 6, 7, 8, 9]], [[], [0], [], [], [3], [1, 2, 4], [1, 4, 5], [1, 4, 6], [1, 4, 6], [1, 4, 7], [1, 4, 8]]⟩ (fun _ => []) (by kernel_rfl) (by kernel_rfl) (by (with_reducible (repeat' (first | assumption | apply jA | apply jB | apply jC | apply jD | apply jE | apply jF | apply hb3 | omega | (simp; done) | (simp; omega) | (dsimp only; omega))))) (fun u => by simp only [putD, Act.put, List.setIfInBounds_toArray, List.set_cons_zero, List.set_cons_succ, Nat.zero_add, Nat.reduceAdd]; rfl) ?_
    apply RGW.on (i := 0) rfl
    · (simp only [gA, gB, gC] <;> rfl)
    · intro γ u W hcur hd
      clear hd
      (try dsimp only)
      refine ⟨rfl, ?_⟩
      go_simp <;> (try go_bits) <;> with_reducible rfl
    · exact fun _ _ _ => rfl
    · rfl
    dsimp only [nA, cA]
    apply RGW.gh (⟨fun γ => vNt n.world (.slice (γ 1).A nl (γ 1).c), fun γ W => NtIn n (γ 1).A (γ 1).c W, fun _ => []⟩) (i := 1) rfl
    · (simp only [gA, gB, gC] <;> rfl)
    · intro γ u W hcur hd
      obtain ⟨⟨h0, -, -⟩, -⟩ := hd
      dsimp only at h0
      (try simp only [h0])
      refine ⟨rfl, fun K hK => ?_⟩
      go_simp
      (go_at_call 10; (with_reducible refine (hcp.out _ (bl_tr hb0 hcur)).mono ?_); rintro e w3 ⟨Ax, cx, rfl, hb3, hox⟩; dsimp only; exact hK.out ⟨0, undef, Ax, cx⟩ _ _ (by simp [up]) hb3 (by simpa [up] using hox) (by simp))
    · intro γ γ' hg
      try dsimp only
      have e1 := hg 1 (by decide)
      simp only [e1]
      try exact ⟨trivial, fun _ h => h⟩
    · intro γ W W' hbl hR
      first | exact hR.below hbl | exact own_below hR hbl | exact trivial | exact ⟨hR.1.below hbl, hR.2⟩
    · rfl
    dsimp only [nA, cA]
    apply RGW.on (i := 2) rfl
    · (simp only [gA, gB, gC] <;> rfl)
    · intro γ u W hcur hd
      clear hd
      (try dsimp only)
      refine ⟨rfl, ?_⟩
      go_simp <;> (try go_bits) <;> with_reducible rfl
    · exact fun _ _ _ => rfl
    · rfl
    dsimp only [nA, cA]
    apply RGW.on (i := 3) rfl
    · (simp only [gA, gB, gC] <;> rfl)
    · intro γ u W hcur hd
      clear hd
      (try dsimp only)
      refine ⟨rfl, ?_⟩
      go_simp <;> (try go_bits) <;> with_reducible rfl
    · exact fun _ _ _ => rfl
    · rfl
    dsimp only [nA, cA]
    apply RGW.gh (⟨fun γ => .slice (γ 4).A ll (γ 4).c, fun γ W => StsAs L (γ 4).A W, fun _ => []⟩) (i := 4) rfl
    · (simp only [gA, gB, gC] <;> rfl)
    · intro γ u W hcur hd
      obtain ⟨⟨h3, -, -⟩, -⟩ := hd
      dsimp only at h3
      (try simp only [h3])
      refine ⟨rfl, fun K hK => ?_⟩
      go_simp
      (go_at_call 11; (with_reducible refine (hcy.out _ (bl_tr hb0 hcur)).mono ?_); rintro e w3 ⟨Ax, cx, rfl, hb3, hox⟩; dsimp only; exact hK.out ⟨0, undef, Ax, cx⟩ _ _ (by simp [up]) hb3 (by simpa [up] using hox) (by simp))
    · intro γ γ' hg
      try dsimp only
      have e1 := hg 1 (by decide)
      have e4 := hg 4 (by decide)
      simp only [e1, e4]
      try exact ⟨trivial, fun _ h => h⟩
    · intro γ W W' hbl hR
      first | exact hR.below hbl | exact own_below hR hbl | exact trivial | exact ⟨hR.1.below hbl, hR.2⟩
    · rfl
    dsimp only [nA, cA]
    apply RGW.call (i := 5) rfl
    · (simp only [gA, gB, gC] <;> rfl)
    · intro γ u W hcur hd
      obtain ⟨⟨h1, r1, -⟩, ⟨h2, -, -⟩, ⟨h4, r4, -⟩, -⟩ := hd
      dsimp only at h1 h2 h4 r1 r4
      (try simp only [h1, h2, h4])
      refine ⟨rfl, fun K hK => ?_⟩
      go_simp
      (go_at_call 19; (with_reducible refine (hsm0.out _ _ _ _ _ r1 r4).mono ?_); rintro e w3 ⟨rfl, hb3⟩; replace hb3 := bl_tt hb3)
      (try dsimp only)
      exact hK.out _ _ rfl (by (with_reducible (repeat' (first | assumption | apply jA | apply jB | apply jC | apply jD | apply jE | apply jF | apply hb3 | omega | (simp; done) | (simp; omega) | (dsimp only; omega)))))
    · exact fun _ _ _ => rfl
    · rfl
    dsimp only [nA, cA]
    apply RGW.on (i := 6) rfl
    · (simp only [gA, gB, gC] <;> rfl)
    · intro γ u W hcur hd
      obtain ⟨⟨h1, r1, -⟩, ⟨h4, r4, -⟩, ⟨h5, -, -⟩, -⟩ := hd
      dsimp only at h1 h4 h5 r1 r4
      (try simp only [h1, h4, h5])
      refine ⟨rfl, ?_⟩
      go_simp <;> (try go_bits) <;> with_reducible rfl
    · exact fun _ _ _ => rfl
    · rfl
    dsimp only [nA, cA]
    apply RGW.on (i := 7) rfl
    · (simp only [gA, gB, gC] <;> rfl)
    · intro γ u W hcur hd
      obtain ⟨⟨h1, r1, -⟩, ⟨h4, r4, -⟩, ⟨h6, -, -⟩, -⟩ := hd
      dsimp only at h1 h4 h6 r1 r4
      (try simp only [h1, h4, h6])
      refine ⟨rfl, ?_⟩
      go_simp <;> (try go_bits) <;> with_reducible rfl
    · exact fun _ _ _ => rfl
    · rfl
    dsimp only [nA, cA]
    apply RGW.on (i := 8) rfl
    · (simp only [gA, gB, gC] <;> rfl)
    · intro γ u W hcur hd
      obtain ⟨⟨h1, r1, -⟩, ⟨h4, r4, -⟩, ⟨h6, -, -⟩, -⟩ := hd
      dsimp only at h1 h4 h6 r1 r4
      (try simp only [h1, h4, h6])
      refine ⟨rfl, ?_⟩
      go_simp <;> (try go_bits) <;> with_reducible rfl
    · exact fun _ _ _ => rfl
    · rfl
    dsimp only [nA, cA]
    apply RGW.on (i := 9) rfl
    · (simp only [gA, gB, gC] <;> rfl)
    · intro γ u W hcur hd
      obtain ⟨⟨h1, r1, -⟩, ⟨h4, r4, -⟩, ⟨h7, -, -⟩, -⟩ := hd
      dsimp only at h1 h4 h7 r1 r4
      (try simp only [h1, h4, h7])
      refine ⟨rfl, ?_⟩
      go_simp <;> (try go_bits) <;> with_reducible rfl
    · exact fun _ _ _ => rfl
    · rfl
    dsimp only [nA, cA]
    apply RGW.on (i := 10) rfl
    · (simp only [gA, gB, gC] <;> rfl)
    · intro γ u W hcur hd
      obtain ⟨⟨h1, r1, -⟩, ⟨h4, r4, -⟩, ⟨h8, -, -⟩, -⟩ := hd
      dsimp only at h1 h4 h8 r1 r4
      (try simp only [h1, h4, h8])
      refine ⟨rfl, ?_⟩
      go_simp <;> (try go_bits) <;> with_reducible rfl
    · exact fun _ _ _ => rfl
    · rfl
    dsimp only [nA, cA]
    refine RGW.fin (fun γ u we hwe hd hdis => ?_)
    obtain ⟨⟨h0, -, -⟩, ⟨h1, r1, b1⟩, ⟨h2, -, -⟩, ⟨h3, -, -⟩, ⟨h4, r4, b4⟩, ⟨h5, -, -⟩, ⟨h6, -, -⟩, ⟨h7, -, -⟩, ⟨h8, -, -⟩, ⟨h9, -, -⟩, ⟨h10, -, -⟩, -⟩ := hd
    dsimp only at h0 h1 h2 h3 h4 h5 h6 h7 h8 h9 h10 r1 r4 b1 b4
    clear hdis
    simp only [h0, h1, h2, h3, h4, h5, h6, h7, h8, h9, h10]
    clear h10 h9 h8 h7 h6 h5 h4 h3 h2 h1 h0
    clear u
    simp only [List.map_nil]
    refine PlanW.done ?_
    have hb3 := bl_tt hwe
    clear r1 r4
    apply absTB2 (w0 := w) (g0 := w.heap.size) (g1 := w.heap.size + 1)
    iterate 3 (focus ((with_reducible (repeat' (first | assumption | apply jA | apply jB | apply jC | apply jD | apply jE | apply jF | apply hb3 | apply jG | apply jH | apply jI | apply jJ | apply jK | apply hb3x | (apply jL; first | (simp; done) | rfl) | apply jM | apply jN | apply jO | apply jP | apply jQ | apply jR | apply jS | apply jT (hb := hb3 _ (jA _)) | omega | (simp; done) | (simp; omega) | (dsimp only; omega)))); done))
    intro wf hb0' k0' k1'
    (try simp only [List.setIfInBounds_toArray, List.set_cons_zero, List.set_cons_succ] at k0' k1')
    try clear hb3
    try clear Lk0
    try clear Fk0
    try clear Qk0
    try clear Lk1
    try clear Fk1
    try clear Qk1
    try clear hb0
    try clear k0
    try clear k1
    have hb0 := hb0'; clear hb0'
    have k0 := k0'; clear k0'
    have k1 := k1'; clear k1'
    have Lk0 := k0.later
    have Fk0 := k0.laterF
    have Qk0 := k0.lt
    have Lk1 := k1.later
    have Fk1 := k1.laterF
    have Qk1 := k1.lt
    go_wp2_with (go_at_call 20; (with_reducible refine (hte.out _ (bl_tr hb0 (by (with_reducible (repeat' (first | assumption | apply jA | apply jB | apply jC | apply jD | apply jE | apply jF | apply hb3 | omega | (simp; done) | (simp; omega) | (dsimp only; omega))))))).mono ?_); rintro e w3 ⟨rfl, hb3⟩; replace hb3 := bl_tt hb3)
    go_ret
    exact ⟨by simp, hb3 _ hb0⟩
  replace htk1 := Lib.hid (htk1.out hf hT)
  replace hsm1 := Lib.hid (hsm1.out hf hT)
  replace htr := Lib.hid (htr.out hf hT)
  replace hss := Lib.hid (hss.out hf hT)
  subst hT
  clear htk0 hsm0
  apply absX2 (w0 := w) (w := w4) (g0 := w.heap.size) (g1 := w.heap.size + 1)
  iterate 3 (focus ((with_reducible (repeat' (first | assumption | apply jA | apply jB | apply jC | apply jD | apply jE | apply jF | apply hb3 | apply jG | apply jH | apply jI | apply jJ | apply jK | apply hb3x | (apply jL; first | (simp; done) | rfl) | apply jM | apply jN | apply jO | apply jP | apply jQ | apply jR | apply jS | apply jT (hb := hb3 _ (jA _)) | omega | (simp; done) | (simp; omega) | (dsimp only; omega)))); done))
  intro wb hb0' k0' k1'
  (try simp only [List.setIfInBounds_toArray, List.set_cons_zero, List.set_cons_succ] at k0' k1')
  try clear hb3
  try clear Lk0
  try clear Fk0
  try clear Qk0
  try clear Lk1
  try clear Fk1
  try clear Qk1
  try clear hb0
  try clear k0
  try clear k1
  have hb0 := hb0'; clear hb0'
  have k0 := k0'; clear k0'
  have k1 := k1'; clear k1'
  have Lk0 := k0.later
  have Fk0 := k0.laterF
  have Qk0 := k0.lt
  have Lk1 := k1.later
  have Fk1 := k1.laterF
  have Qk1 := k1.lt
  go_upto_region 5 with fail
  refine wp_any (w0 := wb) ⟨[], [], [some 25, some 26, some 27, some 28, some 29, some 30, some 24, some 31, some 32, some 7, some 8], [[], [0], [], [], [0, 1, 3], [0, 1, 2, 3, 4], [0, 1, 2, 3, 4, 5], [0, 1, 2, 3, 4, 5, 6], [0, 1, 2, 3, 4, 5, 6], [0, 1, 2, 3, 4, 5, 6, 7], [0, 1, 2, 3, 4, 5, 6, 7, 8, 9]], [[], [0], [], [], [3], [1, 2, 4], [1, 4, 5], [1, 4, 5, 6], [1, 4, 5, 6], [1, 4, 5, 7], [1, 4, 5, 8]]⟩ (fun _ => []) (by kernel_rfl) (by kernel_rfl) (by (with_reducible (repeat' (first | assumption | apply jA | apply jB | apply jC | apply jD | apply jE | apply jF | apply hb3 | omega | (simp; done) | (simp; omega) | (dsimp only; omega))))) (fun u => by simp only [putD, Act.put, List.setIfInBounds_toArray, List.set_cons_zero, List.set_cons_succ, Nat.zero_add, Nat.reduceAdd]; rfl) ?_
  apply RGW.on (i := 0) rfl
  · (simp only [gA, gB, gC] <;> rfl)
  · intro γ u W hcur hd
    clear hd
    (try dsimp only)
    refine ⟨rfl, ?_⟩
    go_simp <;> (try go_bits) <;> with_reducible rfl
  · exact fun _ _ _ => rfl
  · rfl
  dsimp only [nA, cA]
  apply RGW.gh (⟨fun γ => vNt n.world (.slice (γ 1).A nl (γ 1).c), fun γ W => NtIn n (γ 1).A (γ 1).c W, fun _ => []⟩) (i := 1) rfl
  · (simp only [gA, gB, gC] <;> rfl)
  · intro γ u W hcur hd
    obtain ⟨⟨h0, -, -⟩, -⟩ := hd
    dsimp only at h0
    (try simp only [h0])
    refine ⟨rfl, fun K hK => ?_⟩
    go_simp
    (go_at_call 10; (with_reducible refine (hcp.out _ (bl_tr hb0 hcur)).mono ?_); rintro e w3 ⟨Ax, cx, rfl, hb3, hox⟩; dsimp only; exact hK.out ⟨0, undef, Ax, cx⟩ _ _ (by simp [up]) hb3 (by simpa [up] using hox) (by simp))
  · intro γ γ' hg
    try dsimp only
    have e1 := hg 1 (by decide)
    simp only [e1]
    try exact ⟨trivial, fun _ h => h⟩
  · intro γ W W' hbl hR
    first | exact hR.below hbl | exact own_below hR hbl | exact trivial | exact ⟨hR.1.below hbl, hR.2⟩
  · rfl
  dsimp only [nA, cA]
  apply RGW.on (i := 2) rfl
  · (simp only [gA, gB, gC] <;> rfl)
  · intro γ u W hcur hd
    clear hd
    (try dsimp only)
    refine ⟨rfl, ?_⟩
    go_simp <;> (try go_bits) <;> with_reducible rfl
  · exact fun _ _ _ => rfl
  · rfl
  dsimp only [nA, cA]
  apply RGW.on (i := 3) rfl
  · (simp only [gA, gB, gC] <;> rfl)
  · intro γ u W hcur hd
    clear hd
    (try dsimp only)
    refine ⟨rfl, ?_⟩
    go_simp <;> (try go_bits) <;> with_reducible rfl
  · exact fun _ _ _ => rfl
  · rfl
  dsimp only [nA, cA]
  apply RGW.gh (⟨fun γ => .slice (γ 4).A ll (γ 4).c, fun γ W => StsAs L (γ 4).A W, fun _ => []⟩) (i := 4) rfl
  · (simp only [gA, gB, gC] <;> rfl)
  · intro γ u W hcur hd
    obtain ⟨⟨h3, -, -⟩, -⟩ := hd
    dsimp only at h3
    (try simp only [h3])
    refine ⟨rfl, fun K hK => ?_⟩
    go_simp
    (go_at_call 11; (with_reducible refine (hcy.out _ (bl_tr hb0 hcur)).mono ?_); rintro e w3 ⟨Ax, cx, rfl, hb3, hox⟩; dsimp only; exact hK.out ⟨0, undef, Ax, cx⟩ _ _ (by simp [up]) hb3 (by simpa [up] using hox) (by simp))
  · intro γ γ' hg
    try dsimp only
    have e1 := hg 1 (by decide)
    have e4 := hg 4 (by decide)
    simp only [e1, e4]
    try exact ⟨trivial, fun _ h => h⟩
  · intro γ W W' hbl hR
    first | exact hR.below hbl | exact own_below hR hbl | exact trivial | exact ⟨hR.1.below hbl, hR.2⟩
  · rfl
  dsimp only [nA, cA]
  apply RGW.gh (⟨fun γ => .tuple #[.slice (γ 5).A ll (γ 5).c, .int .i64 0], fun γ W => Sl cBox 6 W (γ 5).A TR, fun _ => []⟩) (i := 5) rfl
  · (simp only [gA, gB, gC] <;> rfl)
  · intro γ u W hcur hd
    obtain ⟨⟨h1, r1, -⟩, ⟨h2, -, -⟩, ⟨h4, r4, -⟩, -⟩ := hd
    dsimp only at h1 h2 h4 r1 r4
    (try simp only [h1, h2, h4])
    refine ⟨rfl, fun K hK => ?_⟩
    go_simp
    (go_at_call 18; (with_reducible refine (htk1.out _ _ _ _ _ r1 r4).mono ?_); rintro e w3 ⟨Ax, cx, rfl, hb3, hox⟩; dsimp only; exact hK.out ⟨0, undef, Ax, cx⟩ _ _ (by simp [up]) hb3 (by simpa [up] using hox) (by simp))
  · intro γ γ' hg
    try dsimp only
    have e1 := hg 1 (by decide)
    have e4 := hg 4 (by decide)
    have e5 := hg 5 (by decide)
    simp only [e1, e4, e5]
    try exact ⟨trivial, fun _ h => h⟩
  · intro γ W W' hbl hR
    first | exact hR.below hbl | exact own_below hR hbl | exact trivial | exact ⟨hR.1.below hbl, hR.2⟩
  · rfl
  dsimp only [nA, cA]
  apply RGW.on (i := 6) rfl
  · (simp only [gA, gB, gC] <;> rfl)
  · intro γ u W hcur hd
    obtain ⟨⟨h1, r1, -⟩, ⟨h4, r4, -⟩, ⟨h5, r5, -⟩, -⟩ := hd
    dsimp only at h1 h4 h5 r1 r4 r5
    (try simp only [h1, h4, h5])
    refine ⟨rfl, ?_⟩
    go_simp <;> (try go_bits) <;> with_reducible rfl
  · intro γ γ' hg
    try dsimp only
    have e1 := hg 1 (by decide)
    have e4 := hg 4 (by decide)
    have e5 := hg 5 (by decide)
    simp only [e1, e4, e5]
  · rfl
  dsimp only [nA, cA]
  apply RGW.on (i := 7) rfl
  · (simp only [gA, gB, gC] <;> rfl)
  · intro γ u W hcur hd
    obtain ⟨⟨h1, r1, -⟩, ⟨h4, r4, -⟩, ⟨h5, r5, -⟩, ⟨h6, -, -⟩, -⟩ := hd
    dsimp only at h1 h4 h5 h6 r1 r4 r5
    (try simp only [h1, h4, h5, h6])
    refine ⟨rfl, ?_⟩
    go_simp <;> (try go_bits) <;> with_reducible rfl
  · intro γ γ' hg
    try dsimp only
    have e1 := hg 1 (by decide)
    have e4 := hg 4 (by decide)
    have e5 := hg 5 (by decide)
    simp only [e1, e4, e5]
  · rfl
  dsimp only [nA, cA]
  apply RGW.on (i := 8) rfl
  · (simp only [gA, gB, gC] <;> rfl)
  · intro γ u W hcur hd
    obtain ⟨⟨h1, r1, -⟩, ⟨h4, r4, -⟩, ⟨h5, r5, -⟩, ⟨h6, -, -⟩, -⟩ := hd
    dsimp only at h1 h4 h5 h6 r1 r4 r5
    (try simp only [h1, h4, h5, h6])
    refine ⟨rfl, ?_⟩
    go_simp <;> (try go_bits) <;> with_reducible rfl
  · exact fun _ _ _ => rfl
  · rfl
  dsimp only [nA, cA]
  apply RGW.on (i := 9) rfl
  · (simp only [gA, gB, gC] <;> rfl)
  · intro γ u W hcur hd
    obtain ⟨⟨h1, r1, -⟩, ⟨h4, r4, -⟩, ⟨h5, r5, -⟩, ⟨h7, -, -⟩, -⟩ := hd
    dsimp only at h1 h4 h5 h7 r1 r4 r5
    (try simp only [h1, h4, h5, h7])
    refine ⟨rfl, ?_⟩
    go_simp <;> (try go_bits) <;> with_reducible rfl
  · intro γ γ' hg
    try dsimp only
    have e1 := hg 1 (by decide)
    have e4 := hg 4 (by decide)
    have e5 := hg 5 (by decide)
    simp only [e1, e4, e5]
  · rfl
  dsimp only [nA, cA]
  apply RGW.on (i := 10) rfl
  · (simp only [gA, gB, gC] <;> rfl)
  · intro γ u W hcur hd
    obtain ⟨⟨h1, r1, -⟩, ⟨h4, r4, -⟩, ⟨h5, r5, -⟩, ⟨h8, -, -⟩, -⟩ := hd
    dsimp only at h1 h4 h5 h8 r1 r4 r5
    (try simp only [h1, h4, h5, h8])
    refine ⟨rfl, ?_⟩
    go_simp <;> (try go_bits) <;> with_reducible rfl
  · exact fun _ _ _ => rfl
  · rfl
  dsimp only [nA, cA]
  refine RGW.fin (fun γ u wc hwc hd hdis => ?_)
  obtain ⟨⟨h0, -, -⟩, ⟨h1, r1, b1⟩, ⟨h2, -, -⟩, ⟨h3, -, -⟩, ⟨h4, r4, b4⟩, ⟨h5, r5, b5⟩, ⟨h6, -, -⟩, ⟨h7, -, -⟩, ⟨h8, -, -⟩, ⟨h9, -, -⟩, ⟨h10, -, -⟩, -⟩ := hd
  dsimp only at h0 h1 h2 h3 h4 h5 h6 h7 h8 h9 h10 r1 r4 r5 b1 b4 b5
  clear hdis
  simp only [h0, h1, h2, h3, h4, h5, h6, h7, h8, h9, h10]
  clear h10 h9 h8 h7 h6 h5 h4 h3 h2 h1 h0
  clear u
  simp only [List.map_nil]
  refine PlanW.done ?_
  have hb3 := bl_tt hwc
  have ht5 := Lib.hid r5
  clear r1 r4 r5
  generalize (γ 5).A = At at *
  generalize (γ 5).c = ct at *
  have hbw := bl_tr hb0 hwc
  replace k0 := k0.below hwc
  replace k1 := k1.below hwc
  clear hb0 Lk0 Lk1 Fk0 Fk1 hb3
  have hb0 := bl_refl wc
  have Lk0 := k0.later
  have Fk0 := k0.laterF
  have Qk0 := k0.lt
  have Lk1 := k1.later
  have Fk1 := k1.laterF
  have Qk1 := k1.lt
  go_upto_region 6 with fail
  refine wp_any (w0 := wc) ⟨[], [], [some 34, some 35, some 36, some 37, some 38, some 39, some 33, some 40, some 41, some 9, some 10], [[], [0], [], [], [0, 1, 3], [0, 1, 2, 3, 4], [0, 1, 2, 3, 4, 5], [0, 1, 2, 3, 4, 5, 6], [0, 1, 2, 3, 4, 5, 6], [0, 1, 2, 3, 4, 5, 6, 7], [0, 1, 2, 3, 4, 5, 6, 7, 8, 9]], [[], [0], [], [], [3], [1, 2, 4], [1, 4, 5], [1, 4, 5, 6], [1, 4, 5, 6], [1, 4, 5, 7], [1, 4, 5, 8]]⟩ (fun _ => []) (by kernel_rfl) (by kernel_rfl) (by (with_reducible (repeat' (first | assumption | apply jA | apply jB | apply jC | apply jD | apply jE | apply jF | apply hb3 | omega | (simp; done) | (simp; omega) | (dsimp only; omega))))) (fun u => by simp only [putD, Act.put, List.setIfInBounds_toArray, List.set_cons_zero, List.set_cons_succ, Nat.zero_add, Nat.reduceAdd]; rfl) ?_
  apply RGW.on (i := 0) rfl
  · (simp only [gA, gB, gC] <;> rfl)
  · intro γ u W hcur hd
    clear hd
    (try dsimp only)
    refine ⟨rfl, ?_⟩
    go_simp <;> (try go_bits) <;> with_reducible rfl
  · exact fun _ _ _ => rfl
  · rfl
  dsimp only [nA, cA]
  apply RGW.gh (⟨fun γ => vNt n.world (.slice (γ 1).A nl (γ 1).c), fun γ W => NtIn n (γ 1).A (γ 1).c W, fun _ => []⟩) (i := 1) rfl
  · (simp only [gA, gB, gC] <;> rfl)
  · intro γ u W hcur hd
    obtain ⟨⟨h0, -, -⟩, -⟩ := hd
    dsimp only at h0
    (try simp only [h0])
    refine ⟨rfl, fun K hK => ?_⟩
    go_simp
    (go_at_call 10; (with_reducible refine (hcp.out _ (bl_tr hbw (bl_tr hb0 hcur))).mono ?_); rintro e w3 ⟨Ax, cx, rfl, hb3, hox⟩; dsimp only; exact hK.out ⟨0, undef, Ax, cx⟩ _ _ (by simp [up]) hb3 (by simpa [up] using hox) (by simp))
  · intro γ γ' hg
    try dsimp only
    have e1 := hg 1 (by decide)
    simp only [e1]
    try exact ⟨trivial, fun _ h => h⟩
  · intro γ W W' hbl hR
    first | exact hR.below hbl | exact own_below hR hbl | exact trivial | exact ⟨hR.1.below hbl, hR.2⟩
  · rfl
  dsimp only [nA, cA]
  apply RGW.on (i := 2) rfl
  · (simp only [gA, gB, gC] <;> rfl)
  · intro γ u W hcur hd
    clear hd
    (try dsimp only)
    refine ⟨rfl, ?_⟩
    go_simp <;> (try go_bits) <;> with_reducible rfl
  · exact fun _ _ _ => rfl
  · rfl
  dsimp only [nA, cA]
  apply RGW.on (i := 3) rfl
  · (simp only [gA, gB, gC] <;> rfl)
  · intro γ u W hcur hd
    clear hd
    (try dsimp only)
    refine ⟨rfl, ?_⟩
    go_simp <;> (try go_bits) <;> with_reducible rfl
  · exact fun _ _ _ => rfl
  · rfl
  dsimp only [nA, cA]
  apply RGW.gh (⟨fun γ => .slice (γ 4).A ll (γ 4).c, fun γ W => StsAs L (γ 4).A W, fun _ => []⟩) (i := 4) rfl
  · (simp only [gA, gB, gC] <;> rfl)
  · intro γ u W hcur hd
    obtain ⟨⟨h3, -, -⟩, -⟩ := hd
    dsimp only at h3
    (try simp only [h3])
    refine ⟨rfl, fun K hK => ?_⟩
    go_simp
    (go_at_call 11; (with_reducible refine (hcy.out _ (bl_tr hbw (bl_tr hb0 hcur))).mono ?_); rintro e w3 ⟨Ax, cx, rfl, hb3, hox⟩; dsimp only; exact hK.out ⟨0, undef, Ax, cx⟩ _ _ (by simp [up]) hb3 (by simpa [up] using hox) (by simp))
  · intro γ γ' hg
    try dsimp only
    have e1 := hg 1 (by decide)
    have e4 := hg 4 (by decide)
    simp only [e1, e4]
    try exact ⟨trivial, fun _ h => h⟩
  · intro γ W W' hbl hR
    first | exact hR.below hbl | exact own_below hR hbl | exact trivial | exact ⟨hR.1.below hbl, hR.2⟩
  · rfl
  dsimp only [nA, cA]
  apply RGW.gh (⟨fun γ => .tuple #[.slice (γ 5).A (ll + 1) (γ 5).c, .int .i64 0], fun γ W => Sl cBox 6 W (γ 5).A SM, fun _ => []⟩) (i := 5) rfl
  · (simp only [gA, gB, gC] <;> rfl)
  · intro γ u W hcur hd
    obtain ⟨⟨h1, r1, -⟩, ⟨h2, -, -⟩, ⟨h4, r4, -⟩, -⟩ := hd
    dsimp only at h1 h2 h4 r1 r4
    (try simp only [h1, h2, h4])
    refine ⟨rfl, fun K hK => ?_⟩
    go_simp
    (go_at_call 19; (with_reducible refine (hsm1.out _ _ _ _ _ r1 r4).mono ?_); rintro e w3 ⟨Ax, cx, rfl, hb3, hox⟩; dsimp only; exact hK.out ⟨0, undef, Ax, cx⟩ _ _ (by simp [up]) hb3 (by simpa [up] using hox) (by simp))
  · intro γ γ' hg
    try dsimp only
    have e1 := hg 1 (by decide)
    have e4 := hg 4 (by decide)
    have e5 := hg 5 (by decide)
    simp only [e1, e4, e5]
    try exact ⟨trivial, fun _ h => h⟩
  · intro γ W W' hbl hR
    first | exact hR.below hbl | exact own_below hR hbl | exact trivial | exact ⟨hR.1.below hbl, hR.2⟩
  · rfl
  dsimp only [nA, cA]
  apply RGW.on (i := 6) rfl
  · (simp only [gA, gB, gC] <;> rfl)
  · intro γ u W hcur hd
    obtain ⟨⟨h1, r1, -⟩, ⟨h4, r4, -⟩, ⟨h5, r5, -⟩, -⟩ := hd
    dsimp only at h1 h4 h5 r1 r4 r5
    (try simp only [h1, h4, h5])
    refine ⟨rfl, ?_⟩
    go_simp <;> (try go_bits) <;> with_reducible rfl
  · intro γ γ' hg
    try dsimp only
    have e1 := hg 1 (by decide)
    have e4 := hg 4 (by decide)
    have e5 := hg 5 (by decide)
    simp only [e1, e4, e5]
  · rfl
  dsimp only [nA, cA]
  apply RGW.on (i := 7) rfl
  · (simp only [gA, gB, gC] <;> rfl)
  · intro γ u W hcur hd
    obtain ⟨⟨h1, r1, -⟩, ⟨h4, r4, -⟩, ⟨h5, r5, -⟩, ⟨h6, -, -⟩, -⟩ := hd
    dsimp only at h1 h4 h5 h6 r1 r4 r5
    (try simp only [h1, h4, h5, h6])
    refine ⟨rfl, ?_⟩
    go_simp <;> (try go_bits) <;> with_reducible rfl
  · intro γ γ' hg
    try dsimp only
    have e1 := hg 1 (by decide)
    have e4 := hg 4 (by decide)
    have e5 := hg 5 (by decide)
    simp only [e1, e4, e5]
  · rfl
  dsimp only [nA, cA]
  apply RGW.on (i := 8) rfl
  · (simp only [gA, gB, gC] <;> rfl)
  · intro γ u W hcur hd
    obtain ⟨⟨h1, r1, -⟩, ⟨h4, r4, -⟩, ⟨h5, r5, -⟩, ⟨h6, -, -⟩, -⟩ := hd
    dsimp only at h1 h4 h5 h6 r1 r4 r5
    (try simp only [h1, h4, h5, h6])
    refine ⟨rfl, ?_⟩
    go_simp <;> (try go_bits) <;> with_reducible rfl
  · exact fun _ _ _ => rfl
  · rfl
  dsimp only [nA, cA]
  apply RGW.on (i := 9) rfl
  · (simp only [gA, gB, gC] <;> rfl)
  · intro γ u W hcur hd
    obtain ⟨⟨h1, r1, -⟩, ⟨h4, r4, -⟩, ⟨h5, r5, -⟩, ⟨h7, -, -⟩, -⟩ := hd
    dsimp only at h1 h4 h5 h7 r1 r4 r5
    (try simp only [h1, h4, h5, h7])
    refine ⟨rfl, ?_⟩
    go_simp <;> (try go_bits) <;> with_reducible rfl
  · intro γ γ' hg
    try dsimp only
    have e1 := hg 1 (by decide)
    have e4 := hg 4 (by decide)
    have e5 := hg 5 (by decide)
    simp only [e1, e4, e5]
  · rfl
  dsimp only [nA, cA]
  apply RGW.on (i := 10) rfl
  · (simp only [gA, gB, gC] <;> rfl)
  · intro γ u W hcur hd
    obtain ⟨⟨h1, r1, -⟩, ⟨h4, r4, -⟩, ⟨h5, r5, -⟩, ⟨h8, -, -⟩, -⟩ := hd
    dsimp only at h1 h4 h5 h8 r1 r4 r5
    (try simp only [h1, h4, h5, h8])
    refine ⟨rfl, ?_⟩
    go_simp <;> (try go_bits) <;> with_reducible rfl
  · exact fun _ _ _ => rfl
  · rfl
  dsimp only [nA, cA]
  refine RGW.fin (fun γ u we hwe hd hdis => ?_)
  obtain ⟨⟨h0, -, -⟩, ⟨h1, r1, b1⟩, ⟨h2, -, -⟩, ⟨h3, -, -⟩, ⟨h4, r4, b4⟩, ⟨h5, r5, b5⟩, ⟨h6, -, -⟩, ⟨h7, -, -⟩, ⟨h8, -, -⟩, ⟨h9, -, -⟩, ⟨h10, -, -⟩, -⟩ := hd
  dsimp only at h0 h1 h2 h3 h4 h5 h6 h7 h8 h9 h10 r1 r4 r5 b1 b4 b5
  clear hdis
  simp only [h0, h1, h2, h3, h4, h5, h6, h7, h8, h9, h10]
  clear h10 h9 h8 h7 h6 h5 h4 h3 h2 h1 h0
  clear u
  simp only [List.map_nil]
  refine PlanW.done ?_
  have hb3 := bl_tt hwe
  have hs5 := Lib.hid r5
  have ht6 := Lib.hid (ht5.out.below hwe)
  clear r1 r4 r5 ht5
  generalize (γ 5).A = As at *
  generalize (γ 5).c = cs at *
  have hbx := bl_tr hbw hwe
  replace k0 := k0.below hwe
  replace k1 := k1.below hwe
  clear hb0 hbw Lk0 Lk1 Fk0 Fk1 hb3
  have hbw := hbx
  clear hbx
  have hb0 := bl_refl we
  have Lk0 := k0.later
  have Fk0 := k0.laterF
  have Qk0 := k0.lt
  have Lk1 := k1.later
  have Fk1 := k1.laterF
  have Qk1 := k1.lt
  have hb3 := fun (w' : World) (h : Below w'.heap.size w' we) => h
  have hv := hb3 we (bl_refl we)
  go_wp2_with (go_at_call 20; (with_reducible refine (hte.out _ (bl_tr hbw hv)).mono ?_); rintro e w3 ⟨rfl, hb4⟩; replace hb3 := fun w h => bl_tt hb4 w (hb3 w h); have hv := hb3 we (bl_refl we))
  with_reducible refine Calls.mono (htr.out _ (bl_tr hbw hv)) ?_
  rintro e w5 ⟨A3, c3, rfl, hb5, hs3⟩
  have hv5 := bl_tr hv hb5
  go_wp2_with fail
  with_reducible refine Calls.mono (hbt.out _ _ _ _ _ (ht6.out.below hv5) hs3) ?_
  rintro e w6 ⟨rfl, hb6⟩
  have hv6 := bl_tr hv5 hb6
  replace hb3 := fun w h => bl_tt hb6 w (bl_tt hb5 w (hb3 w h))
  go_wp2_with fail
  with_reducible refine Calls.mono (hss.out _ (bl_tr hbw hv6)) ?_
  rintro e w7 ⟨A4, c4, rfl, hb7, hs4⟩
  have hv7 := bl_tr hv6 hb7
  go_wp2_with fail
  with_reducible refine Calls.mono (hbs.out _ _ _ _ _ (hs5.out.below hv7) hs4) ?_
  rintro e w8 ⟨rfl, hb8⟩
  have hv8 := bl_tr hv7 hb8
  go_wp2
  go_ret
  exact ⟨rfl, bl_tr hbw hv8⟩
theorem l_FixTracks (n : Nt) (b : Bx) (l : List StA) (A A' : Option Addr) (c c' : Nat) (w : World) (hs : Sl cBc 4 w A n.bs) (hc : n.bs.length ≤ c) (hnm : ∀ b ∈ n.bs, b.name.size ≤ maxLen) (hl : StsIn l A' w) :
    Calls Tryz.prog 4 #[vNt n.world (.slice A n.bs.length c), vBx b, .slice A' l.length c'] w (Ret (.bool true) w) := by
  cases hF : (decide (n.bs.length ≤ 8) && decide (0 ≤ 10))
  · exact l_Tracks_few n b l A A' c c' w hF
  · have hF' := hF
    simp only [Bool.and_eq_true, decide_eq_true_eq] at hF'
    exact l_Tracks n b l A A' c c' w hF ⟨by omega, hc, hnm, hs⟩ hl
end Go.Proofs.YtephimmamkafoaaGreat
