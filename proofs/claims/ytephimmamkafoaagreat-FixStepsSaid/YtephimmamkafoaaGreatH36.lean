/-
  Walk: the law of steps.
-/
import Derived.Test.YtephimmamkafoaaGreatG15
import Derived.Test.YtephimmamkafoaaGreatH33
import Derived.Test.YtephimmamkafoaaGreatH35
namespace Go.Proofs.YtephimmamkafoaaGreat
set_option linter.unusedSimpArgs false
set_option linter.unusedVariables false
open Go.RowKit Go.Shelf
attribute [local go_sem] bl_al bl_drew bl_drewN bl_refl bx_al bx_drew bx_drewN bx_refl
set_option maxRecDepth 20000
theorem bne_neT {x : Int} (h : x ≠ 0) : (x != 0) = true := by simp [h]
theorem map_few {l l2 : List StA} (h : l2.map (·.s) = l.map (·.s)) (hf : few1 l) : few1 l2 ∧ l2.length = l.length := by
  have hlen : l2.length = l.length := by
    have := congrArg List.length h
    simpa using this
  refine ⟨⟨by rw [hlen]; exact hf.1, fun x hx => ?_⟩, hlen⟩
  have h1 : x.s ∈ l2.map (·.s) := List.mem_map_of_mem hx
  rw [h] at h1
  obtain ⟨y, hy, e⟩ := List.mem_map.1 h1
  rw [← e]
  exact hf.2 y hy
theorem StsIn.one {l : List StA} {A : Option Addr} {w : World} (h : StsIn l A w) {x : StA} (hx : l[0]? = some x) : StsIn [x] A w := by
  have e : [x] = l.take 1 := by
    cases l with
    | nil => simp at hx
    | cons y t => simp at hx; simp [hx]
  rw [e]
  exact ⟨h.sl.take 1, fun y hy => h.rd y (List.mem_of_mem_take hy)⟩
theorem afterErr_zero {n : Nt} {b : Bx} {s : St} (h : afterErr n b s = 0) : afterE n b s = 0 ∧ afterX n b s = 0 := by
  unfold afterErr at h
  split at h
  · rename_i h0
    exact ⟨h0, h⟩
  · rename_i h0
    exact absurd h h0
set_option maxHeartbeats 4000000 in
theorem l_Steps_few (n : Nt) (b : Bx) (l : List StA) (A A' : Option Addr) (c c' : Nat) (w : World) (hF : (decide (n.bs.length ≤ 8) && decide (0 ≤ 10)) = false) :
    Calls Tryz.prog 3 #[vNt n.world (.slice A n.bs.length c), vBx b, .slice A' l.length c'] w (Ret (.bool true) w) := by
  have hfw := Lib.hid fun W : World => r_few n A none c 0 0 W
  rw [hF] at hfw
  clear hF
  generalize n.bs.length = nl at *
  generalize l.length = ll at *
  go_enter Tryz.func3, Tryz.ntmps3
  go_upto_region 3 with (go_at_call 6; (with_reducible refine (r_awake _).mono ?_); rintro e w3 ⟨rfl, hb3⟩; replace hb3 := bl_tt hb3)
  apply absB2 (w0 := w) (g0 := w.heap.size) (g1 := w.heap.size + 1)
  iterate 3 (focus ((with_reducible (repeat' (first | assumption | apply jA | apply jB | apply jC | apply jD | apply jE | apply jF | apply hb3 | apply jG | apply jH | apply jI | apply jJ | apply jK | apply hb3x | (apply jL; first | (simp; done) | rfl) | apply jM | apply jN | apply jO | apply jP | apply jQ | apply jR | apply jS | apply jT (hb := hb3 _ (jA _)) | omega | (simp; done) | (simp; omega) | (dsimp only; omega)))); done))
  intro wa hb0' k0' k1'
  (try simp only [List.setIfInBounds_toArray, List.set_cons_zero, List.set_cons_succ] at k0' k1')
  try clear hb3
  try clear hb0
  try clear k0
  try clear k1
  have hb0 := hb0'; clear hb0'
  have k0 := k0'; clear k0'
  have k1 := k1'; clear k1'
  have Lk0 := k0.later
  have Fk0 := k0.laterF
  have Qk0 := k0.lt
  have Lk1 := k1.later
  have Fk1 := k1.laterF
  have Qk1 := k1.lt
  have hb3 := fun (w' : World) (h : Below w'.heap.size w' wa) => h
  have hv := hb3 wa (bl_refl wa)
  go_wp2_with (go_at_call 7; (with_reducible refine (hfw.out _).mono ?_); rintro e w3 ⟨rfl, hb4⟩; replace hb3 := fun w h => bl_tt hb4 w (hb3 w h); have hv := hb3 wa (bl_refl wa))
  go_ret
  exact ⟨rfl, bl_tr hb0 hv⟩
set_option maxHeartbeats 16000000 in
theorem l_Steps (n : Nt) (b : Bx) (l : List StA) (A A' : Option Addr) (c c' : Nat) (w : World) (hF : (decide (n.bs.length ≤ 8) && decide (0 ≤ 10)) = true) (hn : NtIn n A c w) (hl : StsIn l A' w) (hlc : l.length ≤ c') (hcm : c' ≤ maxLen) :
    Calls Tryz.prog 3 #[vNt n.world (.slice A n.bs.length c), vBx b, .slice A' l.length c'] w (Ret (.bool true) w) := by
  have hlb : n.bs.length ≤ 1000 := hn.len
  have hfw := Lib.hid fun W : World => r_few n A none c 0 0 W
  rw [hF] at hfw
  have hls := Lib.hid fun (W : World) (hb : Below w.heap.size w W) => r_lightSteps n b l A A' c c' W (hn.below hb) hlb (hl.below hb)
  have hcp := Lib.hid fun (W : World) (hb : Below w.heap.size w W) => r_CopyNet n A c W (hn.below hb)
  have hcy := Lib.hid fun (hf : few2 l) (W : World) (hb : Below w.heap.size w W) => r_CopySteps l A' c' W (hl.below hb) hf.few1
  have hck : Hid (∀ (l2 : List StA), l2.map (·.s) = l.map (·.s) → few2 l → ∀ (W : World) (A A' : Option Addr) (c c' : Nat), NtIn n A c W → StsIn l2 A' W → Calls Tryz.prog 9 #[vNt n.world (.slice A n.bs.length c), .slice A' l.length c'] W (Ret (.tuple #[.int .i64 (stepsChk n (l.map (·.s))).1, .int .i64 (stepsChk n (l.map (·.s))).2]) W)) := fun l2 hm hf W A A' c c' h h' => by
    obtain ⟨h1, h2⟩ := map_few hm hf.few1
    have := c_CheckSteps n l2 A A' c c' W h h' h1 hlb
    rw [hm, h2] at this
    exact this
  have hrs := Lib.hid fun (hf : few2 l) (W : World) (hb : Below w.heap.size w W) => r_CheckSteps n.world n.bs.length l A A' c c' W (hl.below hb) hf.few1 hlb
  have hne := Lib.hid fun (W : World) (hb : Below w.heap.size w W) => r_NetErr n A c W (hn.below hb)
  have fN0 : Hid (netErr n = 0 → refSteps n.bs.length (l.map (·.s)) = stepsChk n (l.map (·.s))) := fun h => steps_ref h _
  have fN1 : Hid (netErr n ≠ 0 → stepsChk n (l.map (·.s)) = (0, netErr n)) := fun h => by
    have e : stepsE n (l.map (·.s)).length = netErr n := by simp [stepsE, fstE, h]
    rw [stepsChk, if_neg (by rw [e]; exact h), e]
  have fX : Hid (∀ x, l[0]? = some x → few2 l → ∃ (pb : Bx) (pe : Int) (vb : Bx) (ae : Int),
      Hid (∀ W, Below w.heap.size w W → Calls Tryz.prog 8 #[vNt n.world (.slice A n.bs.length c), vBx b, .slice A' 1 c'] W (fun e w' => ∃ B, e = .returned (.bool B) ∧ Below W.heap.size W w' ∧ (B = true → few2 [x])))
      ∧ Hid (∀ W, Below w.heap.size w W → Calls Tryz.prog 15 #[vSt x.s x.A x.c] W (fun e w' => ∃ A2 c2, e = .returned (vSt x.s A2 c2) ∧ Below W.heap.size W w' ∧ Sl cRd 4 w' A2 x.s.vt.rs))
      ∧ Hid (∀ (W : World) (A A' : Option Addr) (c c' : Nat), NtIn n A c W → Sl cRd 4 W A' x.s.vt.rs → Calls Tryz.prog 14 #[vNt n.world (.slice A n.bs.length c), vBx b, vSt x.s A' c'] W (Ret (.tuple #[vBx pb, .int .i64 pe]) W))
      ∧ Hid (∀ W, Below w.heap.size w W → Calls Tryz.prog 16 #[vNt n.world (.slice A n.bs.length c), vBx b, vSt x.s x.A x.c] W (Ret (.int .i64 ae) W))
      ∧ Hid (ae = 0 → ∀ W, Below w.heap.size w W → Calls Tryz.prog 17 #[vNt n.world (.slice A n.bs.length c), vBx b, vSt x.s x.A x.c] W (Ret (vBx vb) W))
      ∧ Hid (ae = 0 → pb = vb ∧ pe = 0) ∧ Hid (ae ≠ 0 → pb = bx0 ∧ pe = ae)) := fun x hx hf => by
    have hm : x ∈ l := List.mem_of_getElem? hx
    have hr : x.s.vt.rs.length ≤ 1000 := hf.few1.2 x hm
    refine ⟨(afterS n b x.s).1, (afterS n b x.s).2, (afterV n b x.s).1, afterErr n b x.s, fun W hb => r_lightSteps n b [x] A A' c c' W (hn.below hb) hlb ((hl.one hx).below hb), fun W hb => ?_, fun W A A' c c' h h' => c_After n b x.s A A' c c' W h h' hr hlb, fun W hb => r_AfterErr n b x.s A x.A c x.c W (hn.below hb) ((hl.rd x hm).below hb) hr hlb, fun h W hb => ?_, fun h => ?_, fun h => ?_⟩
    · refine (r_CopyStep x.s x.A x.c W ((hl.rd x hm).below hb) hr).mono fun e w' ⟨A2, c2, e1, h1, h2⟩ => ⟨A2, c2, e1, h1, own_slC (cs := cRd) (fun _ => rfl) (by decide) h2⟩
    · obtain ⟨h1, h2⟩ := afterErr_zero h
      exact r_After n b x.s A x.A c x.c W (hn.below hb) ((hl.rd x hm).below hb) h1 h2
    · obtain ⟨h1, h2⟩ := afterErr_zero h
      rw [afterS, if_pos h1, if_pos h2]
      exact ⟨rfl, rfl⟩
    · unfold afterErr at h ⊢
      unfold afterS
      by_cases h1 : afterE n b x.s = 0
      · rw [if_pos h1] at h
        rw [if_pos h1, if_pos h1, if_neg h]
        exact ⟨rfl, rfl⟩
      · rw [if_neg h1, if_neg h1]
        exact ⟨rfl, rfl⟩
  have Hl := Lib.hid hl
  unfold vSt at fX
  clear hF hn hl hlb
  generalize stepsChk n (l.map (·.s)) = SC at *
  generalize refSteps n.bs.length (l.map (·.s)) = RS at *
  generalize netErr n = ne at *
  generalize n.bs.length = nl at *
  obtain ⟨s1, s2⟩ := SC
  obtain ⟨t1, t2⟩ := RS
  simp only [Prod.mk.injEq] at fN0 fN1
  dsimp only at hck hrs
  obtain ⟨ll, Hn⟩ : ∃ k, Hid (l.length = k) := ⟨_, rfl⟩
  rw [Hn.out] at hls hcy hck hrs hlc ⊢
  go_enter Tryz.func3, Tryz.ntmps3
  go_upto_region 3 with (go_at_call 6; (with_reducible refine (r_awake _).mono ?_); rintro e w3 ⟨rfl, hb3⟩; replace hb3 := bl_tt hb3)
  apply absB2 (w0 := w) (g0 := w.heap.size) (g1 := w.heap.size + 1)
  iterate 3 (focus ((with_reducible (repeat' (first | assumption | apply jA | apply jB | apply jC | apply jD | apply jE | apply jF | apply hb3 | apply jG | apply jH | apply jI | apply jJ | apply jK | apply hb3x | (apply jL; first | (simp; done) | rfl) | apply jM | apply jN | apply jO | apply jP | apply jQ | apply jR | apply jS | apply jT (hb := hb3 _ (jA _)) | omega | (simp; done) | (simp; omega) | (dsimp only; omega)))); done))
  intro wa hb0' k0' k1'
  (try simp only [List.setIfInBounds_toArray, List.set_cons_zero, List.set_cons_succ] at k0' k1')
  try clear hb3
  try clear hb0
  try clear k0
  try clear k1
  have hb0 := hb0'; clear hb0'
  have k0 := k0'; clear k0'
  have k1 := k1'; clear k1'
  have Lk0 := k0.later
  have Fk0 := k0.laterF
  have Qk0 := k0.lt
  have Lk1 := k1.later
  have Fk1 := k1.laterF
  have Qk1 := k1.lt
  have hb3 := fun (w' : World) (h : Below w'.heap.size w' wa) => h
  have hv := hb3 wa (bl_refl wa)
  go_wp2_with (go_at_call 7; (with_reducible refine (hfw.out _).mono ?_); rintro e w3 ⟨rfl, hb4⟩; replace hb3 := fun w h => bl_tt hb4 w (hb3 w h); have hv := hb3 wa (bl_refl wa))
  with_reducible refine Calls.mono (hls.out _ (bl_tr hb0 hv)) ?_
  rintro e w4 ⟨B, rfl, hb5, hB⟩
  replace hb3 := fun w h => bl_tt hb5 w (hb3 w h)
  have hv := hb3 wa (bl_refl wa)
  cases B
  · go_wp2
    go_ret
    exact ⟨rfl, bl_tr hb0 hv⟩
  have hf := hB rfl
  clear hB hls
  replace hcy := Lib.hid (hcy.out hf)
  replace hck := Lib.hid fun l2 hm => hck.out l2 hm hf
  replace hrs := Lib.hid (hrs.out hf)
  replace fX := Lib.hid fun x hx => fX.out x hx hf
  clear hf
  apply absX2 (w0 := w) (w := w4) (g0 := w.heap.size) (g1 := w.heap.size + 1)
  iterate 3 (focus ((with_reducible (repeat' (first | assumption | apply jA | apply jB | apply jC | apply jD | apply jE | apply jF | apply hb3 | apply jG | apply jH | apply jI | apply jJ | apply jK | apply hb3x | (apply jL; first | (simp; done) | rfl) | apply jM | apply jN | apply jO | apply jP | apply jQ | apply jR | apply jS | apply jT (hb := hb3 _ (jA _)) | omega | (simp; done) | (simp; omega) | (dsimp only; omega)))); done))
  intro wb hb0' k0' k1'
  (try simp only [List.setIfInBounds_toArray, List.set_cons_zero, List.set_cons_succ] at k0' k1')
  try clear hb3
  try clear Lk0
  try clear Fk0
  try clear Qk0
  try clear Lk1
  try clear Fk1
  try clear Qk1
  try clear hb0
  try clear k0
  try clear k1
  have hb0 := hb0'; clear hb0'
  have k0 := k0'; clear k0'
  have k1 := k1'; clear k1'
  have Lk0 := k0.later
  have Fk0 := k0.laterF
  have Qk0 := k0.lt
  have Lk1 := k1.later
  have Fk1 := k1.laterF
  have Qk1 := k1.lt
  go_wp2_with fail
  with_reducible refine Calls.mono (hcp.out _ (bl_tr hb0 (by (with_reducible (repeat' (first | assumption | apply jA | apply jB | apply jC | apply jD | apply jE | apply jF | apply hb3 | omega | (simp; done) | (simp; omega) | (dsimp only; omega))))))) ?_
  rintro e w3 ⟨An, cn, rfl, hb3, hn2⟩
  have hbn := bl_tr hb0 hb3
  go_wp2_with fail
  with_reducible refine Calls.mono (hcy.out _ hbn) ?_
  rintro e w5 ⟨l2, As, cs, rfl, hm2, hb4, hs2⟩
  go_wp2_with fail
  with_reducible refine Calls.mono (hck.out l2 hm2 _ _ _ _ _ (hn2.below hb4) hs2) ?_
  rintro e w6 ⟨rfl, hb5⟩
  replace hb3 := fun w h => bl_tt hb5 w (bl_tt hb4 w (bl_tt hb3 w h))
  clear hb4 hb5 hn2 hs2 hck hcy
  apply absX2 (w0 := w) (w := w6) (g0 := w.heap.size) (g1 := w.heap.size + 1)
  iterate 3 (focus ((with_reducible (repeat' (first | assumption | apply jA | apply jB | apply jC | apply jD | apply jE | apply jF | apply hb3 | apply jG | apply jH | apply jI | apply jJ | apply jK | apply hb3x | (apply jL; first | (simp; done) | rfl) | apply jM | apply jN | apply jO | apply jP | apply jQ | apply jR | apply jS | apply jT (hb := hb3 _ (jA _)) | omega | (simp; done) | (simp; omega) | (dsimp only; omega)))); done))
  intro wc hb0' k0' k1'
  (try simp only [List.setIfInBounds_toArray, List.set_cons_zero, List.set_cons_succ] at k0' k1')
  try clear hb3
  try clear Lk0
  try clear Fk0
  try clear Qk0
  try clear Lk1
  try clear Fk1
  try clear Qk1
  try clear hb0
  try clear k0
  try clear k1
  have hb0 := hb0'; clear hb0'
  have k0 := k0'; clear k0'
  have k1 := k1'; clear k1'
  have Lk0 := k0.later
  have Fk0 := k0.laterF
  have Qk0 := k0.lt
  have Lk1 := k1.later
  have Fk1 := k1.laterF
  have Qk1 := k1.lt
  go_upto_region 7 with (go_at_call 12; (with_reducible refine (hne.out _ (bl_tr hb0 (by (with_reducible (repeat' (first | assumption | apply jA | apply jB | apply jC | apply jD | apply jE | apply jF | apply hb3 | omega | (simp; done) | (simp; omega) | (dsimp only; omega))))))).mono ?_); rintro e w3 ⟨rfl, hb3⟩; replace hb3 := bl_tt hb3)
  apply absB2 (w0 := w) (g0 := w.heap.size) (g1 := w.heap.size + 1)
  iterate 3 (focus ((with_reducible (repeat' (first | assumption | apply jA | apply jB | apply jC | apply jD | apply jE | apply jF | apply hb3 | apply jG | apply jH | apply jI | apply jJ | apply jK | apply hb3x | (apply jL; first | (simp; done) | rfl) | apply jM | apply jN | apply jO | apply jP | apply jQ | apply jR | apply jS | apply jT (hb := hb3 _ (jA _)) | omega | (simp; done) | (simp; omega) | (dsimp only; omega)))); done))
  intro wd hb0' k0' k1'
  (try simp only [List.setIfInBounds_toArray, List.set_cons_zero, List.set_cons_succ] at k0' k1')
  try clear hb3
  try clear Lk0
  try clear Fk0
  try clear Qk0
  try clear Lk1
  try clear Fk1
  try clear Qk1
  try clear hb0
  try clear k0
  try clear k1
  have hb0 := hb0'; clear hb0'
  have k0 := k0'; clear k0'
  have k1 := k1'; clear k1'
  have Lk0 := k0.later
  have Fk0 := k0.laterF
  have Qk0 := k0.lt
  have Lk1 := k1.later
  have Fk1 := k1.laterF
  have Qk1 := k1.lt
  by_cases hN : ne = 0
  · subst hN
    obtain ⟨rfl, rfl⟩ := fN0.out (by simp)
    clear fN0 fN1
    go_upto_region 9 with (go_at_call 13; (with_reducible refine (hrs.out _ (bl_tr hb0 (by (with_reducible (repeat' (first | assumption | apply jA | apply jB | apply jC | apply jD | apply jE | apply jF | apply hb3 | omega | (simp; done) | (simp; omega) | (dsimp only; omega))))))).mono ?_); rintro e w3 ⟨rfl, hb3⟩; replace hb3 := bl_tt hb3)
    apply absB2 (w0 := w) (g0 := w.heap.size) (g1 := w.heap.size + 1)
    iterate 3 (focus ((with_reducible (repeat' (first | assumption | apply jA | apply jB | apply jC | apply jD | apply jE | apply jF | apply hb3 | apply jG | apply jH | apply jI | apply jJ | apply jK | apply hb3x | (apply jL; first | (simp; done) | rfl) | apply jM | apply jN | apply jO | apply jP | apply jQ | apply jR | apply jS | apply jT (hb := hb3 _ (jA _)) | omega | (simp; done) | (simp; omega) | (dsimp only; omega)))); done))
    intro y0 hb0' k0' k1'
    (try simp only [List.setIfInBounds_toArray, List.set_cons_zero, List.set_cons_succ] at k0' k1')
    try clear hb3
    try clear Lk0
    try clear Fk0
    try clear Qk0
    try clear Lk1
    try clear Fk1
    try clear Qk1
    try clear hb0
    try clear k0
    try clear k1
    have hb0 := hb0'; clear hb0'
    have k0 := k0'; clear k0'
    have k1 := k1'; clear k1'
    have Lk0 := k0.later
    have Fk0 := k0.laterF
    have Qk0 := k0.lt
    have Lk1 := k1.later
    have Fk1 := k1.laterF
    have Qk1 := k1.lt
    clear hrs hne hfw
    by_cases h0 : ll = 0
    · subst h0
      clear fX
      go_upto_region 11 with fail
      refine wp_any (w0 := y0) ⟨[], [], [some 51, some 52, some 53, some 54, some 55, some 56, some 57, some 58, some 59, some 60, some 61], [[], [0], [0, 1], [0, 1, 2], [0, 1, 2, 3], [0, 1, 2, 3], [0, 1, 2, 3], [0, 1, 2, 3, 6], [0, 1, 2, 3, 4, 5, 6, 7], [0, 1, 2, 3, 4, 5, 6, 7, 8], [0, 1, 2, 3, 4, 5, 6, 7, 8, 9]], [[], [0], [1], [2], [3], [3], [3], [3, 6], [3, 4, 5, 7], [3, 8], [3, 9]]⟩ (fun _ => []) (by kernel_rfl) (by kernel_rfl) (by (with_reducible (repeat' (first | assumption | apply jA | apply jB | apply jC | apply jD | apply jE | apply jF | apply hb3 | omega | (simp; done) | (simp; omega) | (dsimp only; omega))))) (fun u => by simp only [putD, Act.put, List.setIfInBounds_toArray, List.set_cons_zero, List.set_cons_succ, Nat.zero_add, Nat.reduceAdd]; rfl) ?_
      apply RGW.on (i := 0) rfl
      · (simp only [gA, gB, gC] <;> rfl)
      · intro γ u W hcur hd
        clear hd
        (try dsimp only)
        refine ⟨rfl, ?_⟩
        go_simp <;> (try go_bits) <;> with_reducible rfl
      · exact fun _ _ _ => rfl
      · rfl
      dsimp only [nA, cA]
      apply RGW.on (i := 1) rfl
      · (simp only [gA, gB, gC] <;> rfl)
      · intro γ u W hcur hd
        obtain ⟨⟨h0, -, -⟩, -⟩ := hd
        dsimp only at h0
        (try simp only [h0])
        refine ⟨rfl, ?_⟩
        go_simp <;> (try go_bits) <;> with_reducible rfl
      · exact fun _ _ _ => rfl
      · rfl
      dsimp only [nA, cA]
      apply RGW.on (i := 2) rfl
      · (simp only [gA, gB, gC] <;> rfl)
      · intro γ u W hcur hd
        obtain ⟨⟨h1, -, -⟩, -⟩ := hd
        dsimp only at h1
        (try simp only [h1])
        refine ⟨rfl, ?_⟩
        go_simp <;> (try go_bits) <;> with_reducible rfl
      · exact fun _ _ _ => rfl
      · rfl
      dsimp only [nA, cA]
      apply RGW.on (i := 3) rfl
      · (simp only [gA, gB, gC] <;> rfl)
      · intro γ u W hcur hd
        obtain ⟨⟨h2, -, -⟩, -⟩ := hd
        dsimp only at h2
        (try simp only [h2])
        refine ⟨rfl, ?_⟩
        go_simp <;> (try go_bits) <;> with_reducible rfl
      · exact fun _ _ _ => rfl
      · rfl
      dsimp only [nA, cA]
      apply RGW.off (i := 4) rfl
      · (simp only [gA, gB, gC] <;> rfl)
      · intro γ u W hcur hd
        obtain ⟨⟨h3, -, -⟩, -⟩ := hd
        dsimp only at h3
        (try simp only [h3])
        simp [Region.wanted, yielded, undef, *]
      · rfl
      dsimp only [nA, cA]
      apply RGW.off (i := 5) rfl
      · (simp only [gA, gB, gC] <;> rfl)
      · intro γ u W hcur hd
        obtain ⟨⟨h3, -, -⟩, -⟩ := hd
        dsimp only at h3
        (try simp only [h3])
        simp [Region.wanted, yielded, undef, *]
      · rfl
      dsimp only [nA, cA]
      apply RGW.off (i := 6) rfl
      · (simp only [gA, gB, gC] <;> rfl)
      · intro γ u W hcur hd
        obtain ⟨⟨h3, -, -⟩, -⟩ := hd
        dsimp only at h3
        (try simp only [h3])
        simp [Region.wanted, yielded, undef, *]
      · rfl
      dsimp only [nA, cA]
      apply RGW.off (i := 7) rfl
      · (simp only [gA, gB, gC] <;> rfl)
      · intro γ u W hcur hd
        obtain ⟨⟨h3, -, -⟩, ⟨h6, -, -⟩, -⟩ := hd
        dsimp only at h3 h6
        (try simp only [h3, h6])
        simp [Region.wanted, yielded, undef, *]
      · rfl
      dsimp only [nA, cA]
      apply RGW.off (i := 8) rfl
      · (simp only [gA, gB, gC] <;> rfl)
      · intro γ u W hcur hd
        obtain ⟨⟨h3, -, -⟩, ⟨h4, -, -⟩, ⟨h5, -, -⟩, ⟨h7, -, -⟩, -⟩ := hd
        dsimp only at h3 h4 h5 h7
        (try simp only [h3, h4, h5, h7])
        simp [Region.wanted, yielded, undef, *]
      · rfl
      dsimp only [nA, cA]
      apply RGW.off (i := 9) rfl
      · (simp only [gA, gB, gC] <;> rfl)
      · intro γ u W hcur hd
        obtain ⟨⟨h3, -, -⟩, ⟨h8, -, -⟩, -⟩ := hd
        dsimp only at h3 h8
        (try simp only [h3, h8])
        simp [Region.wanted, yielded, undef, *]
      · rfl
      dsimp only [nA, cA]
      apply RGW.on (i := 10) rfl
      · (simp only [gA, gB, gC] <;> rfl)
      · intro γ u W hcur hd
        obtain ⟨⟨h3, -, -⟩, ⟨h9, -, -⟩, -⟩ := hd
        dsimp only at h3 h9
        (try simp only [h3, h9])
        refine ⟨rfl, ?_⟩
        go_simp <;> (try go_bits) <;> with_reducible rfl
      · exact fun _ _ _ => rfl
      · rfl
      dsimp only [nA, cA]
      refine RGW.fin (fun γ u y1 hy1 hd hdis => ?_)
      obtain ⟨⟨h0, -, -⟩, ⟨h1, -, -⟩, ⟨h2, -, -⟩, ⟨h3, -, -⟩, ⟨h4, -, -⟩, ⟨h5, -, -⟩, ⟨h6, -, -⟩, ⟨h7, -, -⟩, ⟨h8, -, -⟩, ⟨h9, -, -⟩, ⟨h10, -, -⟩, -⟩ := hd
      dsimp only at h0 h1 h2 h3 h4 h5 h6 h7 h8 h9 h10
      clear hdis
      simp only [h0, h1, h2, h3, h4, h5, h6, h7, h8, h9, h10]
      clear h10 h9 h8 h7 h6 h5 h4 h3 h2 h1 h0
      clear u
      simp only [List.map_nil]
      refine PlanW.done ?_
      have hb3 := bl_tt hy1
      apply absTB2 (w0 := w) (g0 := w.heap.size) (g1 := w.heap.size + 1)
      iterate 3 (focus ((with_reducible (repeat' (first | assumption | apply jA | apply jB | apply jC | apply jD | apply jE | apply jF | apply hb3 | apply jG | apply jH | apply jI | apply jJ | apply jK | apply hb3x | (apply jL; first | (simp; done) | rfl) | apply jM | apply jN | apply jO | apply jP | apply jQ | apply jR | apply jS | apply jT (hb := hb3 _ (jA _)) | omega | (simp; done) | (simp; omega) | (dsimp only; omega)))); done))
      intro y2 hb0' k0' k1'
      (try simp only [List.setIfInBounds_toArray, List.set_cons_zero, List.set_cons_succ] at k0' k1')
      try clear hb3
      try clear Lk0
      try clear Fk0
      try clear Qk0
      try clear Lk1
      try clear Fk1
      try clear Qk1
      try clear hb0
      try clear k0
      try clear k1
      have hb0 := hb0'; clear hb0'
      have k0 := k0'; clear k0'
      have k1 := k1'; clear k1'
      go_wp2
      go_ret
      exact ⟨rfl, hb0⟩
    · obtain ⟨x, hx⟩ : ∃ x, l[0]? = some x := ⟨l[0]'(by have := Hn.out; omega), List.getElem?_eq_getElem _⟩
      obtain ⟨pb, pe, vb, ae, hl1, hcs, haf, hae, har, fA0, fA1⟩ := fX.out x hx
      clear fX
      obtain ⟨bb, off, hA, hc0⟩ := Hl.out.sl 0 x hx
      have hc : ∀ (j : Nat) (v : Value), (cSp x)[j]? = some v → w.cell? ⟨bb, off + j, none⟩ = some v := fun j v h => by have := hc0 j v h; simpa using this
      clear hc0
      replace hc := Lib.hid hc
      replace hx := Lib.hid hx
      subst hA
      have hq1 : (1 : Int) ≤ (c' : Int) := by omega
      have hq2 : 1 ≤ c' := by omega
      have hq3 : ¬ c' = 0 := by omega
      have hq5 : 0 < ll := by omega
      have hq4 : (0 : Int) ≤ 1 ∧ (1 : Int) ≤ (c' : Int) := by omega
      have hl0 : decide (ll = 0) = false := by simp [h0]
      have hl0' : ((ll : Int) == 0) = false := by simp [h0]
      replace h0 := Lib.hid h0
      go_upto_region 11 with fail
      refine wp_any (w0 := y0) ⟨[], [], [some 51, some 52, some 53, some 54, some 55, some 56, some 57, some 58, some 59, some 60, some 61], [[], [0], [0, 1], [0, 1, 2], [0, 1, 2, 3], [0, 1, 2, 3], [0, 1, 2, 3], [0, 1, 2, 3, 6], [0, 1, 2, 3, 4, 5, 6, 7], [0, 1, 2, 3, 4, 5, 6, 7, 8], [0, 1, 2, 3, 4, 5, 6, 7, 8, 9]], [[], [0], [1], [2], [3], [3], [3], [3, 6], [3, 4, 5, 7], [3, 8], [3, 8, 9]]⟩ (fun _ => []) (by kernel_rfl) (by kernel_rfl) (by (with_reducible (repeat' (first | assumption | apply jA | apply jB | apply jC | apply jD | apply jE | apply jF | apply hb3 | omega | (simp; done) | (simp; omega) | (dsimp only; omega))))) (fun u => by simp only [putD, Act.put, List.setIfInBounds_toArray, List.set_cons_zero, List.set_cons_succ, Nat.zero_add, Nat.reduceAdd]; rfl) ?_
      apply RGW.on (i := 0) rfl
      · (simp only [gA, gB, gC] <;> rfl)
      · intro γ u W hcur hd
        clear hd
        (try dsimp only)
        refine ⟨rfl, ?_⟩
        go_simp <;> (try go_bits) <;> with_reducible rfl
      · exact fun _ _ _ => rfl
      · rfl
      dsimp only [nA, cA]
      apply RGW.on (i := 1) rfl
      · (simp only [gA, gB, gC] <;> rfl)
      · intro γ u W hcur hd
        obtain ⟨⟨h0, -, -⟩, -⟩ := hd
        dsimp only at h0
        (try simp only [h0])
        refine ⟨rfl, ?_⟩
        go_simp <;> (try go_bits) <;> with_reducible rfl
      · exact fun _ _ _ => rfl
      · rfl
      dsimp only [nA, cA]
      apply RGW.on (i := 2) rfl
      · (simp only [gA, gB, gC] <;> rfl)
      · intro γ u W hcur hd
        obtain ⟨⟨h1, -, -⟩, -⟩ := hd
        dsimp only at h1
        (try simp only [h1])
        refine ⟨rfl, ?_⟩
        go_simp <;> (try go_bits) <;> with_reducible rfl
      · exact fun _ _ _ => rfl
      · rfl
      dsimp only [nA, cA]
      apply RGW.on (i := 3) rfl
      · (simp only [gA, gB, gC] <;> rfl)
      · intro γ u W hcur hd
        obtain ⟨⟨h2, -, -⟩, -⟩ := hd
        dsimp only at h2
        (try simp only [h2])
        refine ⟨rfl, ?_⟩
        go_simp <;> (try go_bits) <;> with_reducible rfl
      · exact fun _ _ _ => rfl
      · rfl
      dsimp only [nA, cA]
      apply RGW.on (i := 4) rfl
      · (simp only [gA, gB, gC] <;> rfl)
      · intro γ u W hcur hd
        obtain ⟨⟨h3, -, -⟩, -⟩ := hd
        dsimp only at h3
        (try simp only [h3])
        refine ⟨?_, ?_⟩
        · (simp [Region.wanted, yielded, undef, *]; done)
        go_simp <;> (try go_bits) <;> with_reducible rfl
      · exact fun _ _ _ => rfl
      · rfl
      dsimp only [nA, cA]
      apply RGW.on (i := 5) rfl
      · (simp only [gA, gB, gC] <;> rfl)
      · intro γ u W hcur hd
        obtain ⟨⟨h3, -, -⟩, -⟩ := hd
        dsimp only at h3
        (try simp only [h3])
        refine ⟨?_, ?_⟩
        · (simp [Region.wanted, yielded, undef, *]; done)
        go_simp <;> (try go_bits) <;> with_reducible rfl
      · exact fun _ _ _ => rfl
      · rfl
      dsimp only [nA, cA]
      apply RGW.on (i := 6) rfl
      · (simp only [gA, gB, gC] <;> rfl)
      · intro γ u W hcur hd
        obtain ⟨⟨h3, -, -⟩, -⟩ := hd
        dsimp only at h3
        (try simp only [h3])
        refine ⟨?_, ?_⟩
        · (simp [Region.wanted, yielded, undef, *]; done)
        go_simp <;> (try go_bits) <;> with_reducible rfl
      · exact fun _ _ _ => rfl
      · rfl
      dsimp only [nA, cA]
      apply RGW.on (i := 7) rfl
      · (simp only [gA, gB, gC] <;> rfl)
      · intro γ u W hcur hd
        obtain ⟨⟨h3, -, -⟩, ⟨h6, -, -⟩, -⟩ := hd
        dsimp only at h3 h6
        (try simp only [h3, h6])
        refine ⟨?_, ?_⟩
        · (simp [Region.wanted, yielded, undef, *]; done)
        go_simp <;> (try go_bits) <;> with_reducible rfl
      · exact fun _ _ _ => rfl
      · rfl
      dsimp only [nA, cA]
      apply RGW.gh (⟨fun γ => .bool (decide ((γ 8).n = 1)), fun γ W => True, fun _ => []⟩) (i := 8) rfl
      · (simp only [gA, gB, gC] <;> rfl)
      · intro γ u W hcur hd
        obtain ⟨⟨h3, -, -⟩, ⟨h4, -, -⟩, ⟨h5, -, -⟩, ⟨h7, -, -⟩, -⟩ := hd
        dsimp only at h3 h4 h5 h7
        (try simp only [h3, h4, h5, h7])
        refine ⟨?_, fun K hK => ?_⟩
        · (simp [Region.wanted, yielded, undef, *]; done)
        go_simp
        (go_at_call 8; (with_reducible refine (hl1.out _ (bl_tr hb0 (by (with_reducible (repeat' (first | assumption | apply jA | apply jB | apply jC | apply jD | apply jE | apply jF | apply hb3 | omega | (simp; done) | (simp; omega) | (dsimp only; omega))))))).mono ?_); rintro e w3 ⟨B, rfl, hb3, -⟩; dsimp only; exact hK.out ⟨if B then 1 else 0, undef, none, 0⟩ _ _ (by cases B <;> simp [up]) hb3 trivial (by simp))
      · intro γ γ' hg
        try dsimp only
        have e8 := hg 8 (by decide)
        simp only [e8]
        try exact ⟨trivial, fun _ h => h⟩
      · intro γ W W' hbl hR
        first | exact hR.below hbl | exact own_below hR hbl | exact trivial | exact ⟨hR.1.below hbl, hR.2⟩
      · rfl
      dsimp only [nA, cA]
      apply RGW.on (i := 9) rfl
      · (simp only [gA, gB, gC] <;> rfl)
      · intro γ u W hcur hd
        obtain ⟨⟨h3, -, -⟩, ⟨h8, r8, -⟩, -⟩ := hd
        dsimp only at h3 h8 r8
        (try simp only [h3, h8])
        refine ⟨?_, ?_⟩
        · (simp [Region.wanted, yielded, undef, *]; done)
        go_simp <;> (try go_bits) <;> with_reducible rfl
      · intro γ γ' hg
        try dsimp only
        have e8 := hg 8 (by decide)
        simp only [e8]
      · rfl
      dsimp only [nA, cA]
      apply RGW.on (i := 10) rfl
      · (simp only [gA, gB, gC] <;> rfl)
      · intro γ u W hcur hd
        obtain ⟨⟨h3, -, -⟩, ⟨h8, r8, -⟩, ⟨h9, -, -⟩, -⟩ := hd
        dsimp only at h3 h8 h9 r8
        (try simp only [h3, h8, h9])
        refine ⟨rfl, ?_⟩
        go_simp <;> (try go_bits) <;> with_reducible rfl
      · intro γ γ' hg
        try dsimp only
        have e8 := hg 8 (by decide)
        simp only [e8]
      · rfl
      dsimp only [nA, cA]
      refine RGW.fin (fun γ u y1 hy1 hd hdis => ?_)
      obtain ⟨⟨h0, -, -⟩, ⟨h1, -, -⟩, ⟨h2, -, -⟩, ⟨h3, -, -⟩, ⟨h4, -, -⟩, ⟨h5, -, -⟩, ⟨h6, -, -⟩, ⟨h7, -, -⟩, ⟨h8, r8, b8⟩, ⟨h9, -, -⟩, ⟨h10, -, -⟩, -⟩ := hd
      dsimp only at h0 h1 h2 h3 h4 h5 h6 h7 h8 h9 h10 r8 b8
      clear hdis
      simp only [h0, h1, h2, h3, h4, h5, h6, h7, h8, h9, h10]
      clear h10 h9 h8 h7 h6 h5 h4 h3 h2 h1 h0
      clear u
      simp only [List.map_nil]
      refine PlanW.done ?_
      have hb3 := bl_tt hy1
      clear r8
      generalize decide ((γ 8).n = 1) = B2 at *
      apply absTB2 (w0 := w) (g0 := w.heap.size) (g1 := w.heap.size + 1)
      iterate 3 (focus ((with_reducible (repeat' (first | assumption | apply jA | apply jB | apply jC | apply jD | apply jE | apply jF | apply hb3 | apply jG | apply jH | apply jI | apply jJ | apply jK | apply hb3x | (apply jL; first | (simp; done) | rfl) | apply jM | apply jN | apply jO | apply jP | apply jQ | apply jR | apply jS | apply jT (hb := hb3 _ (jA _)) | omega | (simp; done) | (simp; omega) | (dsimp only; omega)))); done))
      intro y2 hb0' k0' k1'
      (try simp only [List.setIfInBounds_toArray, List.set_cons_zero, List.set_cons_succ] at k0' k1')
      try clear hb3
      try clear hb0
      try clear k0
      try clear k1
      have hb0 := hb0'; clear hb0'
      have k0 := k0'; clear k0'
      have k1 := k1'; clear k1'
      have Lk0 := k0.later
      have Fk0 := k0.laterF
      have Qk0 := k0.lt
      have Lk1 := k1.later
      have Fk1 := k1.laterF
      have Qk1 := k1.lt
      cases B2
      · go_wp2
        go_ret
        exact ⟨rfl, hb0⟩
      go_upto_region 13 with fail
      have c0 : ∀ W, Below _ _ W → W.cell? ⟨bb, off, none⟩ = some (.int .i64 x.s.mv.ticks) := later (kcell hb0 (hc.out 0 _ rfl))
      have c1 : ∀ W, Below _ _ W → W.cell? ⟨bb, off + 1, none⟩ = some (.int .i64 x.s.mv.speed.x.lo) := later (kcell hb0 (hc.out 1 _ rfl))
      have c2 : ∀ W, Below _ _ W → W.cell? ⟨bb, off + 2, none⟩ = some (.int .i64 x.s.mv.speed.x.hi) := later (kcell hb0 (hc.out 2 _ rfl))
      have c3 : ∀ W, Below _ _ W → W.cell? ⟨bb, off + 3, none⟩ = some (.int .i64 x.s.mv.speed.y.lo) := later (kcell hb0 (hc.out 3 _ rfl))
      have c4 : ∀ W, Below _ _ W → W.cell? ⟨bb, off + 4, none⟩ = some (.int .i64 x.s.mv.speed.y.hi) := later (kcell hb0 (hc.out 4 _ rfl))
      have c5 : ∀ W, Below _ _ W → W.cell? ⟨bb, off + 5, none⟩ = some (.int .i64 x.s.mv.speed.z.lo) := later (kcell hb0 (hc.out 5 _ rfl))
      have c6 : ∀ W, Below _ _ W → W.cell? ⟨bb, off + 6, none⟩ = some (.int .i64 x.s.mv.speed.z.hi) := later (kcell hb0 (hc.out 6 _ rfl))
      have c7 : ∀ W, Below _ _ W → W.cell? ⟨bb, off + 7, none⟩ = some (.slice x.A x.s.vt.rs.length x.c) := later (kcell hb0 (hc.out 7 _ rfl))
      have c8 : ∀ W, Below _ _ W → W.cell? ⟨bb, off + 8, none⟩ = some (.int .i64 x.s.vt.wrong) := later (kcell hb0 (hc.out 8 _ rfl))
      refine wp_any (w0 := y2) ⟨[12, 13], [10], [some 63, some 64, some 65, some 66, some 67, some 68, some 69, some 70, some 62, some 71, some 72, some 11, none, none], [[], [0], [], [], [3], [3, 4], [0, 1, 3, 4, 5], [0, 1, 2, 3, 4, 5, 6], [0, 1, 2, 3, 4, 5, 6, 7], [0, 1, 2, 3, 4, 5, 6, 7, 8], [0, 1, 2, 3, 4, 5, 6, 7, 8], [], [0, 1, 2, 3, 4, 5, 6, 7, 8, 9, 11], [0, 1, 2, 3, 4, 5, 6, 7, 8, 9, 10, 11, 12]], [[], [0], [], [], [3], [4], [5], [1, 2, 6], [1, 6, 7], [1, 6, 8], [1, 6, 8], [], [], []]⟩ (fun γ => [(γ 11).n]) (by kernel_rfl) (by kernel_rfl) (by (with_reducible (repeat' (first | assumption | apply jA | apply jB | apply jC | apply jD | apply jE | apply jF | apply hb3 | omega | (simp; done) | (simp; omega) | (dsimp only; omega))))) (fun u => by simp only [putD, Act.put, List.setIfInBounds_toArray, List.set_cons_zero, List.set_cons_succ, Nat.zero_add, Nat.reduceAdd]; rfl) ?_
      apply RGW.on (i := 0) rfl
      · (simp only [gA, gB, gC] <;> rfl)
      · intro γ u W hcur hd
        clear hd
        (try dsimp only)
        refine ⟨rfl, ?_⟩
        go_simp <;> (try go_bits) <;> with_reducible rfl
      · exact fun _ _ _ => rfl
      · rfl
      dsimp only [nA, cA]
      apply RGW.gh (⟨fun γ => vNt n.world (.slice (γ 1).A nl (γ 1).c), fun γ W => NtIn n (γ 1).A (γ 1).c W, fun _ => []⟩) (i := 1) rfl
      · (simp only [gA, gB, gC] <;> rfl)
      · intro γ u W hcur hd
        obtain ⟨⟨h0, -, -⟩, -⟩ := hd
        dsimp only at h0
        (try simp only [h0])
        refine ⟨rfl, fun K hK => ?_⟩
        go_simp
        (go_at_call 10; (with_reducible refine (hcp.out _ (bl_tr hb0 hcur)).mono ?_); rintro e w3 ⟨Ax, cx, rfl, hb3, hox⟩; dsimp only; exact hK.out ⟨0, undef, Ax, cx⟩ _ _ (by simp [up]) hb3 (by simpa [up] using hox) (by simp))
      · intro γ γ' hg
        try dsimp only
        have e1 := hg 1 (by decide)
        simp only [e1]
        try exact ⟨trivial, fun _ h => h⟩
      · intro γ W W' hbl hR
        first | exact hR.below hbl | exact own_below hR hbl | exact trivial | exact ⟨hR.1.below hbl, hR.2⟩
      · rfl
      dsimp only [nA, cA]
      apply RGW.on (i := 2) rfl
      · (simp only [gA, gB, gC] <;> rfl)
      · intro γ u W hcur hd
        clear hd
        (try dsimp only)
        refine ⟨rfl, ?_⟩
        go_simp <;> (try go_bits) <;> with_reducible rfl
      · exact fun _ _ _ => rfl
      · rfl
      dsimp only [nA, cA]
      apply RGW.on (i := 3) rfl
      · (simp only [gA, gB, gC] <;> rfl)
      · intro γ u W hcur hd
        clear hd
        (try dsimp only)
        refine ⟨rfl, ?_⟩
        go_simp <;> (try go_bits) <;> with_reducible rfl
      · exact fun _ _ _ => rfl
      · rfl
      dsimp only [nA, cA]
      apply RGW.on (i := 4) rfl
      · (simp only [gA, gB, gC] <;> rfl)
      · intro γ u W hcur hd
        obtain ⟨⟨h3, -, -⟩, -⟩ := hd
        dsimp only at h3
        (try simp only [h3])
        refine ⟨rfl, ?_⟩
        go_simp <;> (try go_bits) <;> with_reducible rfl
      · exact fun _ _ _ => rfl
      · rfl
      dsimp only [nA, cA]
      apply RGW.on (i := 5) rfl
      · (simp only [gA, gB, gC] <;> rfl)
      · intro γ u W hcur hd
        obtain ⟨⟨h4, -, -⟩, -⟩ := hd
        dsimp only at h4
        (try simp only [h4])
        refine ⟨rfl, ?_⟩
        go_simp <;> (try go_bits) <;> with_reducible rfl
      · exact fun _ _ _ => rfl
      · rfl
      dsimp only [nA, cA]
      apply RGW.gh (⟨fun γ => .agg #[.int .i64 x.s.mv.ticks, .int .i64 x.s.mv.speed.x.lo, .int .i64 x.s.mv.speed.x.hi, .int .i64 x.s.mv.speed.y.lo, .int .i64 x.s.mv.speed.y.hi, .int .i64 x.s.mv.speed.z.lo, .int .i64 x.s.mv.speed.z.hi, .slice (γ 6).A x.s.vt.rs.length (γ 6).c, .int .i64 x.s.vt.wrong], fun γ W => Sl cRd 4 W (γ 6).A x.s.vt.rs, fun _ => []⟩) (i := 6) rfl
      · (simp only [gA, gB, gC] <;> rfl)
      · intro γ u W hcur hd
        obtain ⟨⟨h5, -, -⟩, -⟩ := hd
        dsimp only at h5
        (try simp only [h5])
        refine ⟨rfl, fun K hK => ?_⟩
        go_simp
        (go_at_call 15; (with_reducible refine (hcs.out _ (bl_tr hb0 hcur)).mono ?_); rintro e w3 ⟨Ax, cx, rfl, hb3, hox⟩; dsimp only; exact hK.out ⟨0, undef, Ax, cx⟩ _ _ (by simp [up]) hb3 (by simpa [up] using hox) (by simp))
      · intro γ γ' hg
        try dsimp only
        have e1 := hg 1 (by decide)
        have e6 := hg 6 (by decide)
        simp only [e1, e6]
        try exact ⟨trivial, fun _ h => h⟩
      · intro γ W W' hbl hR
        first | exact hR.below hbl | exact own_below hR hbl | exact trivial | exact ⟨hR.1.below hbl, hR.2⟩
      · rfl
      dsimp only [nA, cA]
      apply RGW.call (i := 7) rfl
      · (simp only [gA, gB, gC] <;> rfl)
      · intro γ u W hcur hd
        obtain ⟨⟨h1, r1, -⟩, ⟨h2, -, -⟩, ⟨h6, r6, -⟩, -⟩ := hd
        dsimp only at h1 h2 h6 r1 r6
        (try simp only [h1, h2, h6])
        refine ⟨rfl, fun K hK => ?_⟩
        go_simp
        (go_at_call 14; (with_reducible refine (haf.out _ _ _ _ _ r1 r6).mono ?_); rintro e w3 ⟨rfl, hb3⟩; replace hb3 := bl_tt hb3)
        (try dsimp only)
        exact hK.out _ _ rfl (by (with_reducible (repeat' (first | assumption | apply jA | apply jB | apply jC | apply jD | apply jE | apply jF | apply hb3 | omega | (simp; done) | (simp; omega) | (dsimp only; omega)))))
      · exact fun _ _ _ => rfl
      · rfl
      dsimp only [nA, cA]
      apply RGW.on (i := 8) rfl
      · (simp only [gA, gB, gC] <;> rfl)
      · intro γ u W hcur hd
        obtain ⟨⟨h1, r1, -⟩, ⟨h6, r6, -⟩, ⟨h7, -, -⟩, -⟩ := hd
        dsimp only at h1 h6 h7 r1 r6
        (try simp only [h1, h6, h7])
        refine ⟨rfl, ?_⟩
        go_simp <;> (try go_bits) <;> with_reducible rfl
      · exact fun _ _ _ => rfl
      · rfl
      dsimp only [nA, cA]
      apply RGW.on (i := 9) rfl
      · (simp only [gA, gB, gC] <;> rfl)
      · intro γ u W hcur hd
        obtain ⟨⟨h1, r1, -⟩, ⟨h6, r6, -⟩, ⟨h8, -, -⟩, -⟩ := hd
        dsimp only at h1 h6 h8 r1 r6
        (try simp only [h1, h6, h8])
        refine ⟨rfl, ?_⟩
        go_simp <;> (try go_bits) <;> with_reducible rfl
      · exact fun _ _ _ => rfl
      · rfl
      dsimp only [nA, cA]
      apply RGW.onL (i := 10) rfl
      · (simp only [gA, gB, gC] <;> rfl)
      · intro γ u Wm W hcur hd hX
        obtain ⟨⟨h1, r1, -⟩, ⟨h6, r6, -⟩, ⟨h8, -, -⟩, -⟩ := hd
        dsimp only at h1 h6 h8 r1 r6
        (try simp only [h1, h6, h8])
        refine ⟨rfl, ?_⟩
        go_simp <;> (try go_bits) <;> with_reducible rfl
      · exact fun _ _ _ => rfl
      dsimp only [nA, cA]
      apply RGW.alloc (i := 11) rfl
      · (simp only [gA, gB, gC] <;> rfl)
      · intro γ u W hcur hd
        clear hd
        (try dsimp only)
        refine ⟨rfl, fun K hK => ?_⟩
        go_simp
        exact hK.out _ _ rfl rfl
      · exact fun _ _ _ => rfl
      · rfl
      · rfl
      dsimp only [nA, cA]
      refine RGW.skip (i := 12) rfl rfl ?_
      dsimp only [nA, cA]
      refine RGW.skip (i := 13) rfl rfl ?_
      dsimp only [nA, cA]
      refine RGW.fin (fun γ u y3 hy3 hd hdis => ?_)
      obtain ⟨⟨h0, -, -⟩, ⟨h1, r1, b1⟩, ⟨h2, -, -⟩, ⟨h3, -, -⟩, ⟨h4, -, -⟩, ⟨h5, -, -⟩, ⟨h6, r6, b6⟩, ⟨h7, -, -⟩, ⟨h8, -, -⟩, ⟨h9, -, -⟩, ⟨h10, -, -⟩, ⟨h11, r11, b11⟩, -⟩ := hd
      dsimp only at h0 h1 h2 h3 h4 h5 h6 h7 h8 h9 h10 h11 r1 r6 r11 b1 b6 b11
      clear hdis
      simp only [h0, h1, h2, h3, h4, h5, h6, h7, h8, h9, h10, h11]
      clear h11 h10 h9 h8 h7 h6 h5 h4 h3 h2 h1 h0
      replace b11 := b11 _ (List.mem_singleton.2 rfl)
      generalize hγ11 : (γ 11).n = g11 at *
      clear hγ11
      clear u
      simp only [List.map_cons, List.map_nil]
      apply PlanW.step
      · (simp only [gA, gB, gC] <;> rfl)
      · rfl
      intro K hK
      refine wp_store_keep (X := [g11]) (w0 := y3) rfl rfl rfl (by with_reducible first | exact bx_refl _ _ | assumption) (by with_reducible first | assumption | (apply Blk.below (hb := hy3); assumption)) (by simp) (by kernel_rfl) (by rfl) (by simp [Value.oneCell']) (fun hres1 hcur => ?_)
      refine hK.out _ _ hcur (fun _ => ?_)
      clear hK K
      try simp only [Act.put, List.setIfInBounds_toArray, List.set_cons_zero, List.set_cons_succ]
      apply PlanW.step
      · (simp only [gA, gB, gC] <;> rfl)
      · rfl
      intro K hK
      go_simp
      refine hK.out _ _ (by (with_reducible (repeat' (first | assumption | apply jG | apply jH | apply jI | apply jJ | apply jK | apply hb3x | omega | (simp; done) | (simp; omega) | (dsimp only; omega))))) (fun hcur => ?_)
      clear hK K
      try simp only [Act.put, List.setIfInBounds_toArray, List.set_cons_zero, List.set_cons_succ]
      refine PlanW.done ?_
      have hb3 := bl_tt hy3
      clear r1 r6
      clear c0 c1 c2 c3 c4 c5 c6 c7 c8
      apply absTB3 (w0 := w) (g0 := w.heap.size) (g1 := w.heap.size + 1) (g2 := g11)
      iterate 4 (focus ((with_reducible (repeat' (first | assumption | apply jA | apply jB | apply jC | apply jD | apply jE | apply jF | apply hb3 | apply jG | apply jH | apply jI | apply jJ | apply jK | apply hb3x | (apply jL; first | (simp; done) | rfl) | apply jM | apply jN | apply jO | apply jP | apply jQ | apply jR | apply jS | apply jT (hb := hb3 _ (jA _)) | omega | (simp; done) | (simp; omega) | (dsimp only; omega)))); done))
      intro y4 hb0' k0' k1' k3'
      (try simp only [List.setIfInBounds_toArray, List.set_cons_zero, List.set_cons_succ] at k0' k1' k3')
      try clear hb3
      try clear Lk0
      try clear Fk0
      try clear Qk0
      try clear Lk1
      try clear Fk1
      try clear Qk1
      try clear hb0
      try clear k0
      try clear k1
      try clear k3
      have hb0 := hb0'; clear hb0'
      have k0 := k0'; clear k0'
      have k1 := k1'; clear k1'
      have k3 := k3'; clear k3'
      have Lk0 := k0.later
      have Fk0 := k0.laterF
      have Qk0 := k0.lt
      have Lk1 := k1.later
      have Fk1 := k1.laterF
      have Qk1 := k1.lt
      have Lk3 := k3.later
      have Fk3 := k3.laterF
      have Qk3 := k3.lt
      go_upto_region 14 with fail
      have c0 : ∀ W, Below _ _ W → W.cell? ⟨bb, off, none⟩ = some (.int .i64 x.s.mv.ticks) := later (kcell hb0 (hc.out 0 _ rfl))
      have c1 : ∀ W, Below _ _ W → W.cell? ⟨bb, off + 1, none⟩ = some (.int .i64 x.s.mv.speed.x.lo) := later (kcell hb0 (hc.out 1 _ rfl))
      have c2 : ∀ W, Below _ _ W → W.cell? ⟨bb, off + 2, none⟩ = some (.int .i64 x.s.mv.speed.x.hi) := later (kcell hb0 (hc.out 2 _ rfl))
      have c3 : ∀ W, Below _ _ W → W.cell? ⟨bb, off + 3, none⟩ = some (.int .i64 x.s.mv.speed.y.lo) := later (kcell hb0 (hc.out 3 _ rfl))
      have c4 : ∀ W, Below _ _ W → W.cell? ⟨bb, off + 4, none⟩ = some (.int .i64 x.s.mv.speed.y.hi) := later (kcell hb0 (hc.out 4 _ rfl))
      have c5 : ∀ W, Below _ _ W → W.cell? ⟨bb, off + 5, none⟩ = some (.int .i64 x.s.mv.speed.z.lo) := later (kcell hb0 (hc.out 5 _ rfl))
      have c6 : ∀ W, Below _ _ W → W.cell? ⟨bb, off + 6, none⟩ = some (.int .i64 x.s.mv.speed.z.hi) := later (kcell hb0 (hc.out 6 _ rfl))
      have c7 : ∀ W, Below _ _ W → W.cell? ⟨bb, off + 7, none⟩ = some (.slice x.A x.s.vt.rs.length x.c) := later (kcell hb0 (hc.out 7 _ rfl))
      have c8 : ∀ W, Below _ _ W → W.cell? ⟨bb, off + 8, none⟩ = some (.int .i64 x.s.vt.wrong) := later (kcell hb0 (hc.out 8 _ rfl))
      refine wp_any (w0 := y4) ⟨[], [], [some 73, some 74, some 75, some 76, some 77, some 78, some 10], [[], [], [], [2], [2, 3], [0, 1, 2, 3, 4], [0, 1, 2, 3, 4, 5]], [[], [], [], [2], [3], [0, 1, 4], [5]]⟩ (fun _ => []) (by kernel_rfl) (by kernel_rfl) (by (with_reducible (repeat' (first | assumption | apply jA | apply jB | apply jC | apply jD | apply jE | apply jF | apply hb3 | omega | (simp; done) | (simp; omega) | (dsimp only; omega))))) (fun u => by simp only [putD, Act.put, List.setIfInBounds_toArray, List.set_cons_zero, List.set_cons_succ, Nat.zero_add, Nat.reduceAdd]; rfl) ?_
      apply RGW.on (i := 0) rfl
      · (simp only [gA, gB, gC] <;> rfl)
      · intro γ u W hcur hd
        clear hd
        (try dsimp only)
        refine ⟨rfl, ?_⟩
        go_simp <;> (try go_bits) <;> with_reducible rfl
      · exact fun _ _ _ => rfl
      · rfl
      dsimp only [nA, cA]
      apply RGW.on (i := 1) rfl
      · (simp only [gA, gB, gC] <;> rfl)
      · intro γ u W hcur hd
        clear hd
        (try dsimp only)
        refine ⟨rfl, ?_⟩
        go_simp <;> (try go_bits) <;> with_reducible rfl
      · exact fun _ _ _ => rfl
      · rfl
      dsimp only [nA, cA]
      apply RGW.on (i := 2) rfl
      · (simp only [gA, gB, gC] <;> rfl)
      · intro γ u W hcur hd
        clear hd
        (try dsimp only)
        refine ⟨rfl, ?_⟩
        go_simp <;> (try go_bits) <;> with_reducible rfl
      · exact fun _ _ _ => rfl
      · rfl
      dsimp only [nA, cA]
      apply RGW.on (i := 3) rfl
      · (simp only [gA, gB, gC] <;> rfl)
      · intro γ u W hcur hd
        obtain ⟨⟨h2, -, -⟩, -⟩ := hd
        dsimp only at h2
        (try simp only [h2])
        refine ⟨rfl, ?_⟩
        go_simp <;> (try go_bits) <;> with_reducible rfl
      · exact fun _ _ _ => rfl
      · rfl
      dsimp only [nA, cA]
      apply RGW.on (i := 4) rfl
      · (simp only [gA, gB, gC] <;> rfl)
      · intro γ u W hcur hd
        obtain ⟨⟨h3, -, -⟩, -⟩ := hd
        dsimp only at h3
        (try simp only [h3])
        refine ⟨rfl, ?_⟩
        go_simp <;> (try go_bits) <;> with_reducible rfl
      · exact fun _ _ _ => rfl
      · rfl
      dsimp only [nA, cA]
      apply RGW.call (i := 5) rfl
      · (simp only [gA, gB, gC] <;> rfl)
      · intro γ u W hcur hd
        obtain ⟨⟨h0, -, -⟩, ⟨h1, -, -⟩, ⟨h4, -, -⟩, -⟩ := hd
        dsimp only at h0 h1 h4
        (try simp only [h0, h1, h4])
        refine ⟨rfl, fun K hK => ?_⟩
        go_simp
        (go_at_call 16; (with_reducible refine (hae.out _ (bl_tr hb0 (by (with_reducible (repeat' (first | assumption | apply jA | apply jB | apply jC | apply jD | apply jE | apply jF | apply hb3 | omega | (simp; done) | (simp; omega) | (dsimp only; omega))))))).mono ?_); rintro e w3 ⟨rfl, hb3⟩; replace hb3 := bl_tt hb3)
        (try dsimp only)
        exact hK.out _ _ rfl (by (with_reducible (repeat' (first | assumption | apply jA | apply jB | apply jC | apply jD | apply jE | apply jF | apply hb3 | omega | (simp; done) | (simp; omega) | (dsimp only; omega)))))
      · exact fun _ _ _ => rfl
      · rfl
      dsimp only [nA, cA]
      apply RGW.on (i := 6) rfl
      · (simp only [gA, gB, gC] <;> rfl)
      · intro γ u W hcur hd
        obtain ⟨⟨h5, -, -⟩, -⟩ := hd
        dsimp only at h5
        (try simp only [h5])
        refine ⟨rfl, ?_⟩
        go_simp <;> (try go_bits) <;> with_reducible rfl
      · exact fun _ _ _ => rfl
      · rfl
      dsimp only [nA, cA]
      refine RGW.fin (fun γ u y5 hy5 hd hdis => ?_)
      obtain ⟨⟨h0, -, -⟩, ⟨h1, -, -⟩, ⟨h2, -, -⟩, ⟨h3, -, -⟩, ⟨h4, -, -⟩, ⟨h5, -, -⟩, ⟨h6, -, -⟩, -⟩ := hd
      dsimp only at h0 h1 h2 h3 h4 h5 h6
      clear hdis
      simp only [h0, h1, h2, h3, h4, h5, h6]
      clear h6 h5 h4 h3 h2 h1 h0
      clear u
      simp only [List.map_nil]
      refine PlanW.done ?_
      have hb3 := bl_tt hy5
      clear c0 c1 c2 c3 c4 c5 c6 c7 c8
      apply absTB3 (w0 := w) (g0 := w.heap.size) (g1 := w.heap.size + 1) (g2 := g11)
      iterate 4 (focus ((with_reducible (repeat' (first | assumption | apply jA | apply jB | apply jC | apply jD | apply jE | apply jF | apply hb3 | apply jG | apply jH | apply jI | apply jJ | apply jK | apply hb3x | (apply jL; first | (simp; done) | rfl) | apply jM | apply jN | apply jO | apply jP | apply jQ | apply jR | apply jS | apply jT (hb := hb3 _ (jA _)) | omega | (simp; done) | (simp; omega) | (dsimp only; omega)))); done))
      intro y6 hb0' k0' k1' k3'
      (try simp only [List.setIfInBounds_toArray, List.set_cons_zero, List.set_cons_succ] at k0' k1' k3')
      try clear hb3
      try clear Lk0
      try clear Fk0
      try clear Qk0
      try clear Lk1
      try clear Fk1
      try clear Qk1
      try clear Lk3
      try clear Fk3
      try clear Qk3
      try clear hb0
      try clear k0
      try clear k1
      try clear k3
      have hb0 := hb0'; clear hb0'
      have k0 := k0'; clear k0'
      have k1 := k1'; clear k1'
      have k3 := k3'; clear k3'
      have Lk0 := k0.later
      have Fk0 := k0.laterF
      have Qk0 := k0.lt
      have Lk1 := k1.later
      have Fk1 := k1.laterF
      have Qk1 := k1.lt
      have Lk3 := k3.later
      have Fk3 := k3.laterF
      have Qk3 := k3.lt
      by_cases hE : ae = 0
      · subst hE
        replace har := Lib.hid (har.out (by simp))
        obtain ⟨rfl, rfl⟩ := fA0.out (by simp)
        clear fA0 fA1
        go_upto_region 17 with fail
        have c0 : ∀ W, Below _ _ W → W.cell? ⟨bb, off, none⟩ = some (.int .i64 x.s.mv.ticks) := later (kcell hb0 (hc.out 0 _ rfl))
        have c1 : ∀ W, Below _ _ W → W.cell? ⟨bb, off + 1, none⟩ = some (.int .i64 x.s.mv.speed.x.lo) := later (kcell hb0 (hc.out 1 _ rfl))
        have c2 : ∀ W, Below _ _ W → W.cell? ⟨bb, off + 2, none⟩ = some (.int .i64 x.s.mv.speed.x.hi) := later (kcell hb0 (hc.out 2 _ rfl))
        have c3 : ∀ W, Below _ _ W → W.cell? ⟨bb, off + 3, none⟩ = some (.int .i64 x.s.mv.speed.y.lo) := later (kcell hb0 (hc.out 3 _ rfl))
        have c4 : ∀ W, Below _ _ W → W.cell? ⟨bb, off + 4, none⟩ = some (.int .i64 x.s.mv.speed.y.hi) := later (kcell hb0 (hc.out 4 _ rfl))
        have c5 : ∀ W, Below _ _ W → W.cell? ⟨bb, off + 5, none⟩ = some (.int .i64 x.s.mv.speed.z.lo) := later (kcell hb0 (hc.out 5 _ rfl))
        have c6 : ∀ W, Below _ _ W → W.cell? ⟨bb, off + 6, none⟩ = some (.int .i64 x.s.mv.speed.z.hi) := later (kcell hb0 (hc.out 6 _ rfl))
        have c7 : ∀ W, Below _ _ W → W.cell? ⟨bb, off + 7, none⟩ = some (.slice x.A x.s.vt.rs.length x.c) := later (kcell hb0 (hc.out 7 _ rfl))
        have c8 : ∀ W, Below _ _ W → W.cell? ⟨bb, off + 8, none⟩ = some (.int .i64 x.s.vt.wrong) := later (kcell hb0 (hc.out 8 _ rfl))
        refine wp_any (w0 := y6) ⟨[], [], [some 89, some 90, some 91, some 92, some 93, some 94, some 95, some 96, some 97, some 98, some 99, some 100, some 6], [[], [0], [0, 1], [0, 1, 2], [0, 1, 2], [0, 1, 2], [0, 1, 2], [0, 1, 2, 6], [0, 1, 2, 6, 7], [0, 1, 2, 4, 5, 6, 7, 8], [0, 1, 2, 3, 4, 5, 6, 7, 8, 9], [0, 1, 2, 3, 4, 5, 6, 7, 8, 9, 10], [0, 1, 2, 3, 4, 5, 6, 7, 8, 9, 10, 11]], [[], [0], [1], [2], [2], [2], [2], [2, 6], [2, 7], [2, 4, 5, 8], [2, 3, 9], [2, 10], [11]]⟩ (fun _ => []) (by kernel_rfl) (by kernel_rfl) (by (with_reducible (repeat' (first | assumption | apply jA | apply jB | apply jC | apply jD | apply jE | apply jF | apply hb3 | omega | (simp; done) | (simp; omega) | (dsimp only; omega))))) (fun u => by simp only [putD, Act.put, List.setIfInBounds_toArray, List.set_cons_zero, List.set_cons_succ, Nat.zero_add, Nat.reduceAdd]; rfl) ?_
        apply RGW.on (i := 0) rfl
        · (simp only [gA, gB, gC] <;> rfl)
        · intro γ u W hcur hd
          clear hd
          (try dsimp only)
          refine ⟨rfl, ?_⟩
          go_simp <;> (try go_bits) <;> with_reducible rfl
        · exact fun _ _ _ => rfl
        · rfl
        dsimp only [nA, cA]
        apply RGW.on (i := 1) rfl
        · (simp only [gA, gB, gC] <;> rfl)
        · intro γ u W hcur hd
          obtain ⟨⟨h0, -, -⟩, -⟩ := hd
          dsimp only at h0
          (try simp only [h0])
          refine ⟨rfl, ?_⟩
          go_simp <;> (try go_bits) <;> with_reducible rfl
        · exact fun _ _ _ => rfl
        · rfl
        dsimp only [nA, cA]
        apply RGW.on (i := 2) rfl
        · (simp only [gA, gB, gC] <;> rfl)
        · intro γ u W hcur hd
          obtain ⟨⟨h1, -, -⟩, -⟩ := hd
          dsimp only at h1
          (try simp only [h1])
          refine ⟨rfl, ?_⟩
          go_simp <;> (try go_bits) <;> with_reducible rfl
        · exact fun _ _ _ => rfl
        · rfl
        dsimp only [nA, cA]
        apply RGW.on (i := 3) rfl
        · (simp only [gA, gB, gC] <;> rfl)
        · intro γ u W hcur hd
          obtain ⟨⟨h2, -, -⟩, -⟩ := hd
          dsimp only at h2
          (try simp only [h2])
          refine ⟨?_, ?_⟩
          · (simp [Region.wanted, yielded, undef, *]; done)
          go_simp <;> (try go_bits) <;> with_reducible rfl
        · exact fun _ _ _ => rfl
        · rfl
        dsimp only [nA, cA]
        apply RGW.on (i := 4) rfl
        · (simp only [gA, gB, gC] <;> rfl)
        · intro γ u W hcur hd
          obtain ⟨⟨h2, -, -⟩, -⟩ := hd
          dsimp only at h2
          (try simp only [h2])
          refine ⟨?_, ?_⟩
          · (simp [Region.wanted, yielded, undef, *]; done)
          go_simp <;> (try go_bits) <;> with_reducible rfl
        · exact fun _ _ _ => rfl
        · rfl
        dsimp only [nA, cA]
        apply RGW.on (i := 5) rfl
        · (simp only [gA, gB, gC] <;> rfl)
        · intro γ u W hcur hd
          obtain ⟨⟨h2, -, -⟩, -⟩ := hd
          dsimp only at h2
          (try simp only [h2])
          refine ⟨?_, ?_⟩
          · (simp [Region.wanted, yielded, undef, *]; done)
          go_simp <;> (try go_bits) <;> with_reducible rfl
        · exact fun _ _ _ => rfl
        · rfl
        dsimp only [nA, cA]
        apply RGW.on (i := 6) rfl
        · (simp only [gA, gB, gC] <;> rfl)
        · intro γ u W hcur hd
          obtain ⟨⟨h2, -, -⟩, -⟩ := hd
          dsimp only at h2
          (try simp only [h2])
          refine ⟨?_, ?_⟩
          · (simp [Region.wanted, yielded, undef, *]; done)
          go_simp <;> (try go_bits) <;> with_reducible rfl
        · exact fun _ _ _ => rfl
        · rfl
        dsimp only [nA, cA]
        apply RGW.on (i := 7) rfl
        · (simp only [gA, gB, gC] <;> rfl)
        · intro γ u W hcur hd
          obtain ⟨⟨h2, -, -⟩, ⟨h6, -, -⟩, -⟩ := hd
          dsimp only at h2 h6
          (try simp only [h2, h6])
          refine ⟨?_, ?_⟩
          · (simp [Region.wanted, yielded, undef, *]; done)
          go_simp <;> (try go_bits) <;> with_reducible rfl
        · exact fun _ _ _ => rfl
        · rfl
        dsimp only [nA, cA]
        apply RGW.on (i := 8) rfl
        · (simp only [gA, gB, gC] <;> rfl)
        · intro γ u W hcur hd
          obtain ⟨⟨h2, -, -⟩, ⟨h7, -, -⟩, -⟩ := hd
          dsimp only at h2 h7
          (try simp only [h2, h7])
          refine ⟨?_, ?_⟩
          · (simp [Region.wanted, yielded, undef, *]; done)
          go_simp <;> (try go_bits) <;> with_reducible rfl
        · exact fun _ _ _ => rfl
        · rfl
        dsimp only [nA, cA]
        apply RGW.call (i := 9) rfl
        · (simp only [gA, gB, gC] <;> rfl)
        · intro γ u W hcur hd
          obtain ⟨⟨h2, -, -⟩, ⟨h4, -, -⟩, ⟨h5, -, -⟩, ⟨h8, -, -⟩, -⟩ := hd
          dsimp only at h2 h4 h5 h8
          (try simp only [h2, h4, h5, h8])
          refine ⟨?_, fun K hK => ?_⟩
          · (simp [Region.wanted, yielded, undef, *]; done)
          go_simp
          (go_at_call 17; (with_reducible refine (har.out _ (bl_tr hb0 (by (with_reducible (repeat' (first | assumption | apply jA | apply jB | apply jC | apply jD | apply jE | apply jF | apply hb3 | omega | (simp; done) | (simp; omega) | (dsimp only; omega))))))).mono ?_); rintro e w3 ⟨rfl, hb3⟩; replace hb3 := bl_tt hb3)
          (try dsimp only)
          exact hK.out _ _ rfl (by (with_reducible (repeat' (first | assumption | apply jA | apply jB | apply jC | apply jD | apply jE | apply jF | apply hb3 | omega | (simp; done) | (simp; omega) | (dsimp only; omega)))))
        · exact fun _ _ _ => rfl
        · rfl
        dsimp only [nA, cA]
        apply RGW.on (i := 10) rfl
        · (simp only [gA, gB, gC] <;> rfl)
        · intro γ u W hcur hd
          obtain ⟨⟨h2, -, -⟩, ⟨h3, -, -⟩, ⟨h9, -, -⟩, -⟩ := hd
          dsimp only at h2 h3 h9
          (try simp only [h2, h3, h9])
          refine ⟨?_, ?_⟩
          · (simp [Region.wanted, yielded, undef, *]; done)
          go_simp <;> (try go_bits) <;> with_reducible rfl
        · exact fun _ _ _ => rfl
        · rfl
        dsimp only [nA, cA]
        apply RGW.on (i := 11) rfl
        · (simp only [gA, gB, gC] <;> rfl)
        · intro γ u W hcur hd
          obtain ⟨⟨h2, -, -⟩, ⟨h10, -, -⟩, -⟩ := hd
          dsimp only at h2 h10
          (try simp only [h2, h10])
          refine ⟨rfl, ?_⟩
          go_simp <;> (try go_bits) <;> with_reducible rfl
        · exact fun _ _ _ => rfl
        · rfl
        dsimp only [nA, cA]
        apply RGW.on (i := 12) rfl
        · (simp only [gA, gB, gC] <;> rfl)
        · intro γ u W hcur hd
          obtain ⟨⟨h11, -, -⟩, -⟩ := hd
          dsimp only at h11
          (try simp only [h11])
          refine ⟨rfl, ?_⟩
          go_simp <;> (try go_bits) <;> with_reducible rfl
        · exact fun _ _ _ => rfl
        · rfl
        dsimp only [nA, cA]
        refine RGW.fin (fun γ u y7 hy7 hd hdis => ?_)
        obtain ⟨⟨h0, -, -⟩, ⟨h1, -, -⟩, ⟨h2, -, -⟩, ⟨h3, -, -⟩, ⟨h4, -, -⟩, ⟨h5, -, -⟩, ⟨h6, -, -⟩, ⟨h7, -, -⟩, ⟨h8, -, -⟩, ⟨h9, -, -⟩, ⟨h10, -, -⟩, ⟨h11, -, -⟩, ⟨h12, -, -⟩, -⟩ := hd
        dsimp only at h0 h1 h2 h3 h4 h5 h6 h7 h8 h9 h10 h11 h12
        clear hdis
        simp only [h0, h1, h2, h3, h4, h5, h6, h7, h8, h9, h10, h11, h12]
        clear h12 h11 h10 h9 h8 h7 h6 h5 h4 h3 h2 h1 h0
        clear u
        simp only [List.map_nil]
        refine PlanW.done ?_
        have hb3 := bl_tt hy7
        clear c0 c1 c2 c3 c4 c5 c6 c7 c8
        apply absTB2 (w0 := w) (g0 := w.heap.size) (g1 := w.heap.size + 1)
        iterate 3 (focus ((with_reducible (repeat' (first | assumption | apply jA | apply jB | apply jC | apply jD | apply jE | apply jF | apply hb3 | apply jG | apply jH | apply jI | apply jJ | apply jK | apply hb3x | (apply jL; first | (simp; done) | rfl) | apply jM | apply jN | apply jO | apply jP | apply jQ | apply jR | apply jS | apply jT (hb := hb3 _ (jA _)) | omega | (simp; done) | (simp; omega) | (dsimp only; omega)))); done))
        intro y8 hb0' k0' k1'
        (try simp only [List.setIfInBounds_toArray, List.set_cons_zero, List.set_cons_succ] at k0' k1')
        try clear hb3
        try clear Lk0
        try clear Fk0
        try clear Qk0
        try clear Lk1
        try clear Fk1
        try clear Qk1
        try clear Lk3
        try clear Fk3
        try clear Qk3
        try clear hb0
        try clear k0
        try clear k1
        have hb0 := hb0'; clear hb0'
        have k0 := k0'; clear k0'
        have k1 := k1'; clear k1'
        go_wp2
        go_ret
        exact ⟨by simp, hb0⟩
      · obtain ⟨rfl, rfl⟩ := fA1.out hE
        clear fA0 fA1
        have hE' := bne_neT hE
        replace hE := Lib.hid hE
        go_wp2
        go_ret
        exact ⟨by simp [bx0], hb0⟩
  · have hN' := bne_neT hN
    have hN2 : (ne == 0) = false := by simp [hN]
    obtain ⟨rfl, rfl⟩ := fN1.out hN
    clear fN0 fN1
    replace hN := Lib.hid hN
    go_upto_region 9 with fail
    apply absB2 (w0 := w) (g0 := w.heap.size) (g1 := w.heap.size + 1)
    iterate 3 (focus ((with_reducible (repeat' (first | assumption | apply jA | apply jB | apply jC | apply jD | apply jE | apply jF | apply hb3 | apply jG | apply jH | apply jI | apply jJ | apply jK | apply hb3x | (apply jL; first | (simp; done) | rfl) | apply jM | apply jN | apply jO | apply jP | apply jQ | apply jR | apply jS | apply jT (hb := hb3 _ (jA _)) | omega | (simp; done) | (simp; omega) | (dsimp only; omega)))); done))
    intro y0 hb0' k0' k1'
    (try simp only [List.setIfInBounds_toArray, List.set_cons_zero, List.set_cons_succ] at k0' k1')
    try clear hb3
    try clear hb0
    try clear k0
    try clear k1
    have hb0 := hb0'; clear hb0'
    have k0 := k0'; clear k0'
    have k1 := k1'; clear k1'
    have Lk0 := k0.later
    have Fk0 := k0.laterF
    have Qk0 := k0.lt
    have Lk1 := k1.later
    have Fk1 := k1.laterF
    have Qk1 := k1.lt
    clear hrs hne hfw
    by_cases h0 : ll = 0
    · subst h0
      clear fX
      go_upto_region 11 with fail
      refine wp_any (w0 := y0) ⟨[], [], [some 51, some 52, some 53, some 54, some 55, some 56, some 57, some 58, some 59, some 60, some 61], [[], [0], [0, 1], [0, 1, 2], [0, 1, 2, 3], [0, 1, 2, 3], [0, 1, 2, 3], [0, 1, 2, 3, 6], [0, 1, 2, 3, 4, 5, 6, 7], [0, 1, 2, 3, 4, 5, 6, 7, 8], [0, 1, 2, 3, 4, 5, 6, 7, 8, 9]], [[], [0], [1], [2], [3], [3], [3], [3, 6], [3, 4, 5, 7], [3, 8], [3, 9]]⟩ (fun _ => []) (by kernel_rfl) (by kernel_rfl) (by (with_reducible (repeat' (first | assumption | apply jA | apply jB | apply jC | apply jD | apply jE | apply jF | apply hb3 | omega | (simp; done) | (simp; omega) | (dsimp only; omega))))) (fun u => by simp only [putD, Act.put, List.setIfInBounds_toArray, List.set_cons_zero, List.set_cons_succ, Nat.zero_add, Nat.reduceAdd]; rfl) ?_
      apply RGW.on (i := 0) rfl
      · (simp only [gA, gB, gC] <;> rfl)
      · intro γ u W hcur hd
        clear hd
        (try dsimp only)
        refine ⟨rfl, ?_⟩
        go_simp <;> (try go_bits) <;> with_reducible rfl
      · exact fun _ _ _ => rfl
      · rfl
      dsimp only [nA, cA]
      apply RGW.on (i := 1) rfl
      · (simp only [gA, gB, gC] <;> rfl)
      · intro γ u W hcur hd
        obtain ⟨⟨h0, -, -⟩, -⟩ := hd
        dsimp only at h0
        (try simp only [h0])
        refine ⟨rfl, ?_⟩
        go_simp <;> (try go_bits) <;> with_reducible rfl
      · exact fun _ _ _ => rfl
      · rfl
      dsimp only [nA, cA]
      apply RGW.on (i := 2) rfl
      · (simp only [gA, gB, gC] <;> rfl)
      · intro γ u W hcur hd
        obtain ⟨⟨h1, -, -⟩, -⟩ := hd
        dsimp only at h1
        (try simp only [h1])
        refine ⟨rfl, ?_⟩
        go_simp <;> (try go_bits) <;> with_reducible rfl
      · exact fun _ _ _ => rfl
      · rfl
      dsimp only [nA, cA]
      apply RGW.on (i := 3) rfl
      · (simp only [gA, gB, gC] <;> rfl)
      · intro γ u W hcur hd
        obtain ⟨⟨h2, -, -⟩, -⟩ := hd
        dsimp only at h2
        (try simp only [h2])
        refine ⟨rfl, ?_⟩
        go_simp <;> (try go_bits) <;> with_reducible rfl
      · exact fun _ _ _ => rfl
      · rfl
      dsimp only [nA, cA]
      apply RGW.off (i := 4) rfl
      · (simp only [gA, gB, gC] <;> rfl)
      · intro γ u W hcur hd
        obtain ⟨⟨h3, -, -⟩, -⟩ := hd
        dsimp only at h3
        (try simp only [h3])
        simp [Region.wanted, yielded, undef, *]
      · rfl
      dsimp only [nA, cA]
      apply RGW.off (i := 5) rfl
      · (simp only [gA, gB, gC] <;> rfl)
      · intro γ u W hcur hd
        obtain ⟨⟨h3, -, -⟩, -⟩ := hd
        dsimp only at h3
        (try simp only [h3])
        simp [Region.wanted, yielded, undef, *]
      · rfl
      dsimp only [nA, cA]
      apply RGW.off (i := 6) rfl
      · (simp only [gA, gB, gC] <;> rfl)
      · intro γ u W hcur hd
        obtain ⟨⟨h3, -, -⟩, -⟩ := hd
        dsimp only at h3
        (try simp only [h3])
        simp [Region.wanted, yielded, undef, *]
      · rfl
      dsimp only [nA, cA]
      apply RGW.off (i := 7) rfl
      · (simp only [gA, gB, gC] <;> rfl)
      · intro γ u W hcur hd
        obtain ⟨⟨h3, -, -⟩, ⟨h6, -, -⟩, -⟩ := hd
        dsimp only at h3 h6
        (try simp only [h3, h6])
        simp [Region.wanted, yielded, undef, *]
      · rfl
      dsimp only [nA, cA]
      apply RGW.off (i := 8) rfl
      · (simp only [gA, gB, gC] <;> rfl)
      · intro γ u W hcur hd
        obtain ⟨⟨h3, -, -⟩, ⟨h4, -, -⟩, ⟨h5, -, -⟩, ⟨h7, -, -⟩, -⟩ := hd
        dsimp only at h3 h4 h5 h7
        (try simp only [h3, h4, h5, h7])
        simp [Region.wanted, yielded, undef, *]
      · rfl
      dsimp only [nA, cA]
      apply RGW.off (i := 9) rfl
      · (simp only [gA, gB, gC] <;> rfl)
      · intro γ u W hcur hd
        obtain ⟨⟨h3, -, -⟩, ⟨h8, -, -⟩, -⟩ := hd
        dsimp only at h3 h8
        (try simp only [h3, h8])
        simp [Region.wanted, yielded, undef, *]
      · rfl
      dsimp only [nA, cA]
      apply RGW.on (i := 10) rfl
      · (simp only [gA, gB, gC] <;> rfl)
      · intro γ u W hcur hd
        obtain ⟨⟨h3, -, -⟩, ⟨h9, -, -⟩, -⟩ := hd
        dsimp only at h3 h9
        (try simp only [h3, h9])
        refine ⟨rfl, ?_⟩
        go_simp <;> (try go_bits) <;> with_reducible rfl
      · exact fun _ _ _ => rfl
      · rfl
      dsimp only [nA, cA]
      refine RGW.fin (fun γ u y1 hy1 hd hdis => ?_)
      obtain ⟨⟨h0, -, -⟩, ⟨h1, -, -⟩, ⟨h2, -, -⟩, ⟨h3, -, -⟩, ⟨h4, -, -⟩, ⟨h5, -, -⟩, ⟨h6, -, -⟩, ⟨h7, -, -⟩, ⟨h8, -, -⟩, ⟨h9, -, -⟩, ⟨h10, -, -⟩, -⟩ := hd
      dsimp only at h0 h1 h2 h3 h4 h5 h6 h7 h8 h9 h10
      clear hdis
      simp only [h0, h1, h2, h3, h4, h5, h6, h7, h8, h9, h10]
      clear h10 h9 h8 h7 h6 h5 h4 h3 h2 h1 h0
      clear u
      simp only [List.map_nil]
      refine PlanW.done ?_
      have hb3 := bl_tt hy1
      apply absTB2 (w0 := w) (g0 := w.heap.size) (g1 := w.heap.size + 1)
      iterate 3 (focus ((with_reducible (repeat' (first | assumption | apply jA | apply jB | apply jC | apply jD | apply jE | apply jF | apply hb3 | apply jG | apply jH | apply jI | apply jJ | apply jK | apply hb3x | (apply jL; first | (simp; done) | rfl) | apply jM | apply jN | apply jO | apply jP | apply jQ | apply jR | apply jS | apply jT (hb := hb3 _ (jA _)) | omega | (simp; done) | (simp; omega) | (dsimp only; omega)))); done))
      intro y2 hb0' k0' k1'
      (try simp only [List.setIfInBounds_toArray, List.set_cons_zero, List.set_cons_succ] at k0' k1')
      try clear hb3
      try clear Lk0
      try clear Fk0
      try clear Qk0
      try clear Lk1
      try clear Fk1
      try clear Qk1
      try clear hb0
      try clear k0
      try clear k1
      have hb0 := hb0'; clear hb0'
      have k0 := k0'; clear k0'
      have k1 := k1'; clear k1'
      go_wp2
      go_ret
      exact ⟨rfl, hb0⟩
    · obtain ⟨x, hx⟩ : ∃ x, l[0]? = some x := ⟨l[0]'(by have := Hn.out; omega), List.getElem?_eq_getElem _⟩
      obtain ⟨pb, pe, vb, ae, hl1, hcs, haf, hae, har, fA0, fA1⟩ := fX.out x hx
      clear fX
      obtain ⟨bb, off, hA, hc0⟩ := Hl.out.sl 0 x hx
      have hc : ∀ (j : Nat) (v : Value), (cSp x)[j]? = some v → w.cell? ⟨bb, off + j, none⟩ = some v := fun j v h => by have := hc0 j v h; simpa using this
      clear hc0
      replace hc := Lib.hid hc
      replace hx := Lib.hid hx
      subst hA
      have hq1 : (1 : Int) ≤ (c' : Int) := by omega
      have hq2 : 1 ≤ c' := by omega
      have hq3 : ¬ c' = 0 := by omega
      have hq5 : 0 < ll := by omega
      have hq4 : (0 : Int) ≤ 1 ∧ (1 : Int) ≤ (c' : Int) := by omega
      have hl0 : decide (ll = 0) = false := by simp [h0]
      have hl0' : ((ll : Int) == 0) = false := by simp [h0]
      replace h0 := Lib.hid h0
      go_upto_region 11 with fail
      refine wp_any (w0 := y0) ⟨[], [], [some 51, some 52, some 53, some 54, some 55, some 56, some 57, some 58, some 59, some 60, some 61], [[], [0], [0, 1], [0, 1, 2], [0, 1, 2, 3], [0, 1, 2, 3], [0, 1, 2, 3], [0, 1, 2, 3, 6], [0, 1, 2, 3, 4, 5, 6, 7], [0, 1, 2, 3, 4, 5, 6, 7, 8], [0, 1, 2, 3, 4, 5, 6, 7, 8, 9]], [[], [0], [1], [2], [3], [3], [3], [3, 6], [3, 4, 5, 7], [3, 8], [3, 8, 9]]⟩ (fun _ => []) (by kernel_rfl) (by kernel_rfl) (by (with_reducible (repeat' (first | assumption | apply jA | apply jB | apply jC | apply jD | apply jE | apply jF | apply hb3 | omega | (simp; done) | (simp; omega) | (dsimp only; omega))))) (fun u => by simp only [putD, Act.put, List.setIfInBounds_toArray, List.set_cons_zero, List.set_cons_succ, Nat.zero_add, Nat.reduceAdd]; rfl) ?_
      apply RGW.on (i := 0) rfl
      · (simp only [gA, gB, gC] <;> rfl)
      · intro γ u W hcur hd
        clear hd
        (try dsimp only)
        refine ⟨rfl, ?_⟩
        go_simp <;> (try go_bits) <;> with_reducible rfl
      · exact fun _ _ _ => rfl
      · rfl
      dsimp only [nA, cA]
      apply RGW.on (i := 1) rfl
      · (simp only [gA, gB, gC] <;> rfl)
      · intro γ u W hcur hd
        obtain ⟨⟨h0, -, -⟩, -⟩ := hd
        dsimp only at h0
        (try simp only [h0])
        refine ⟨rfl, ?_⟩
        go_simp <;> (try go_bits) <;> with_reducible rfl
      · exact fun _ _ _ => rfl
      · rfl
      dsimp only [nA, cA]
      apply RGW.on (i := 2) rfl
      · (simp only [gA, gB, gC] <;> rfl)
      · intro γ u W hcur hd
        obtain ⟨⟨h1, -, -⟩, -⟩ := hd
        dsimp only at h1
        (try simp only [h1])
        refine ⟨rfl, ?_⟩
        go_simp <;> (try go_bits) <;> with_reducible rfl
      · exact fun _ _ _ => rfl
      · rfl
      dsimp only [nA, cA]
      apply RGW.on (i := 3) rfl
      · (simp only [gA, gB, gC] <;> rfl)
      · intro γ u W hcur hd
        obtain ⟨⟨h2, -, -⟩, -⟩ := hd
        dsimp only at h2
        (try simp only [h2])
        refine ⟨rfl, ?_⟩
        go_simp <;> (try go_bits) <;> with_reducible rfl
      · exact fun _ _ _ => rfl
      · rfl
      dsimp only [nA, cA]
      apply RGW.on (i := 4) rfl
      · (simp only [gA, gB, gC] <;> rfl)
      · intro γ u W hcur hd
        obtain ⟨⟨h3, -, -⟩, -⟩ := hd
        dsimp only at h3
        (try simp only [h3])
        refine ⟨?_, ?_⟩
        · (simp [Region.wanted, yielded, undef, *]; done)
        go_simp <;> (try go_bits) <;> with_reducible rfl
      · exact fun _ _ _ => rfl
      · rfl
      dsimp only [nA, cA]
      apply RGW.on (i := 5) rfl
      · (simp only [gA, gB, gC] <;> rfl)
      · intro γ u W hcur hd
        obtain ⟨⟨h3, -, -⟩, -⟩ := hd
        dsimp only at h3
        (try simp only [h3])
        refine ⟨?_, ?_⟩
        · (simp [Region.wanted, yielded, undef, *]; done)
        go_simp <;> (try go_bits) <;> with_reducible rfl
      · exact fun _ _ _ => rfl
      · rfl
      dsimp only [nA, cA]
      apply RGW.on (i := 6) rfl
      · (simp only [gA, gB, gC] <;> rfl)
      · intro γ u W hcur hd
        obtain ⟨⟨h3, -, -⟩, -⟩ := hd
        dsimp only at h3
        (try simp only [h3])
        refine ⟨?_, ?_⟩
        · (simp [Region.wanted, yielded, undef, *]; done)
        go_simp <;> (try go_bits) <;> with_reducible rfl
      · exact fun _ _ _ => rfl
      · rfl
      dsimp only [nA, cA]
      apply RGW.on (i := 7) rfl
      · (simp only [gA, gB, gC] <;> rfl)
      · intro γ u W hcur hd
        obtain ⟨⟨h3, -, -⟩, ⟨h6, -, -⟩, -⟩ := hd
        dsimp only at h3 h6
        (try simp only [h3, h6])
        refine ⟨?_, ?_⟩
        · (simp [Region.wanted, yielded, undef, *]; done)
        go_simp <;> (try go_bits) <;> with_reducible rfl
      · exact fun _ _ _ => rfl
      · rfl
      dsimp only [nA, cA]
      apply RGW.gh (⟨fun γ => .bool (decide ((γ 8).n = 1)), fun γ W => True, fun _ => []⟩) (i := 8) rfl
      · (simp only [gA, gB, gC] <;> rfl)
      · intro γ u W hcur hd
        obtain ⟨⟨h3, -, -⟩, ⟨h4, -, -⟩, ⟨h5, -, -⟩, ⟨h7, -, -⟩, -⟩ := hd
        dsimp only at h3 h4 h5 h7
        (try simp only [h3, h4, h5, h7])
        refine ⟨?_, fun K hK => ?_⟩
        · (simp [Region.wanted, yielded, undef, *]; done)
        go_simp
        (go_at_call 8; (with_reducible refine (hl1.out _ (bl_tr hb0 (by (with_reducible (repeat' (first | assumption | apply jA | apply jB | apply jC | apply jD | apply jE | apply jF | apply hb3 | omega | (simp; done) | (simp; omega) | (dsimp only; omega))))))).mono ?_); rintro e w3 ⟨B, rfl, hb3, -⟩; dsimp only; exact hK.out ⟨if B then 1 else 0, undef, none, 0⟩ _ _ (by cases B <;> simp [up]) hb3 trivial (by simp))
      · intro γ γ' hg
        try dsimp only
        have e8 := hg 8 (by decide)
        simp only [e8]
        try exact ⟨trivial, fun _ h => h⟩
      · intro γ W W' hbl hR
        first | exact hR.below hbl | exact own_below hR hbl | exact trivial | exact ⟨hR.1.below hbl, hR.2⟩
      · rfl
      dsimp only [nA, cA]
      apply RGW.on (i := 9) rfl
      · (simp only [gA, gB, gC] <;> rfl)
      · intro γ u W hcur hd
        obtain ⟨⟨h3, -, -⟩, ⟨h8, r8, -⟩, -⟩ := hd
        dsimp only at h3 h8 r8
        (try simp only [h3, h8])
        refine ⟨?_, ?_⟩
        · (simp [Region.wanted, yielded, undef, *]; done)
        go_simp <;> (try go_bits) <;> with_reducible rfl
      · intro γ γ' hg
        try dsimp only
        have e8 := hg 8 (by decide)
        simp only [e8]
      · rfl
      dsimp only [nA, cA]
      apply RGW.on (i := 10) rfl
      · (simp only [gA, gB, gC] <;> rfl)
      · intro γ u W hcur hd
        obtain ⟨⟨h3, -, -⟩, ⟨h8, r8, -⟩, ⟨h9, -, -⟩, -⟩ := hd
        dsimp only at h3 h8 h9 r8
        (try simp only [h3, h8, h9])
        refine ⟨rfl, ?_⟩
        go_simp <;> (try go_bits) <;> with_reducible rfl
      · intro γ γ' hg
        try dsimp only
        have e8 := hg 8 (by decide)
        simp only [e8]
      · rfl
      dsimp only [nA, cA]
      refine RGW.fin (fun γ u y1 hy1 hd hdis => ?_)
      obtain ⟨⟨h0, -, -⟩, ⟨h1, -, -⟩, ⟨h2, -, -⟩, ⟨h3, -, -⟩, ⟨h4, -, -⟩, ⟨h5, -, -⟩, ⟨h6, -, -⟩, ⟨h7, -, -⟩, ⟨h8, r8, b8⟩, ⟨h9, -, -⟩, ⟨h10, -, -⟩, -⟩ := hd
      dsimp only at h0 h1 h2 h3 h4 h5 h6 h7 h8 h9 h10 r8 b8
      clear hdis
      simp only [h0, h1, h2, h3, h4, h5, h6, h7, h8, h9, h10]
      clear h10 h9 h8 h7 h6 h5 h4 h3 h2 h1 h0
      clear u
      simp only [List.map_nil]
      refine PlanW.done ?_
      have hb3 := bl_tt hy1
      clear r8
      generalize decide ((γ 8).n = 1) = B2 at *
      apply absTB2 (w0 := w) (g0 := w.heap.size) (g1 := w.heap.size + 1)
      iterate 3 (focus ((with_reducible (repeat' (first | assumption | apply jA | apply jB | apply jC | apply jD | apply jE | apply jF | apply hb3 | apply jG | apply jH | apply jI | apply jJ | apply jK | apply hb3x | (apply jL; first | (simp; done) | rfl) | apply jM | apply jN | apply jO | apply jP | apply jQ | apply jR | apply jS | apply jT (hb := hb3 _ (jA _)) | omega | (simp; done) | (simp; omega) | (dsimp only; omega)))); done))
      intro y2 hb0' k0' k1'
      (try simp only [List.setIfInBounds_toArray, List.set_cons_zero, List.set_cons_succ] at k0' k1')
      try clear hb3
      try clear hb0
      try clear k0
      try clear k1
      have hb0 := hb0'; clear hb0'
      have k0 := k0'; clear k0'
      have k1 := k1'; clear k1'
      have Lk0 := k0.later
      have Fk0 := k0.laterF
      have Qk0 := k0.lt
      have Lk1 := k1.later
      have Fk1 := k1.laterF
      have Qk1 := k1.lt
      cases B2
      · go_wp2
        go_ret
        exact ⟨rfl, hb0⟩
      go_upto_region 13 with fail
      have c0 : ∀ W, Below _ _ W → W.cell? ⟨bb, off, none⟩ = some (.int .i64 x.s.mv.ticks) := later (kcell hb0 (hc.out 0 _ rfl))
      have c1 : ∀ W, Below _ _ W → W.cell? ⟨bb, off + 1, none⟩ = some (.int .i64 x.s.mv.speed.x.lo) := later (kcell hb0 (hc.out 1 _ rfl))
      have c2 : ∀ W, Below _ _ W → W.cell? ⟨bb, off + 2, none⟩ = some (.int .i64 x.s.mv.speed.x.hi) := later (kcell hb0 (hc.out 2 _ rfl))
      have c3 : ∀ W, Below _ _ W → W.cell? ⟨bb, off + 3, none⟩ = some (.int .i64 x.s.mv.speed.y.lo) := later (kcell hb0 (hc.out 3 _ rfl))
      have c4 : ∀ W, Below _ _ W → W.cell? ⟨bb, off + 4, none⟩ = some (.int .i64 x.s.mv.speed.y.hi) := later (kcell hb0 (hc.out 4 _ rfl))
      have c5 : ∀ W, Below _ _ W → W.cell? ⟨bb, off + 5, none⟩ = some (.int .i64 x.s.mv.speed.z.lo) := later (kcell hb0 (hc.out 5 _ rfl))
      have c6 : ∀ W, Below _ _ W → W.cell? ⟨bb, off + 6, none⟩ = some (.int .i64 x.s.mv.speed.z.hi) := later (kcell hb0 (hc.out 6 _ rfl))
      have c7 : ∀ W, Below _ _ W → W.cell? ⟨bb, off + 7, none⟩ = some (.slice x.A x.s.vt.rs.length x.c) := later (kcell hb0 (hc.out 7 _ rfl))
      have c8 : ∀ W, Below _ _ W → W.cell? ⟨bb, off + 8, none⟩ = some (.int .i64 x.s.vt.wrong) := later (kcell hb0 (hc.out 8 _ rfl))
      refine wp_any (w0 := y2) ⟨[12, 13], [10], [some 63, some 64, some 65, some 66, some 67, some 68, some 69, some 70, some 62, some 71, some 72, some 11, none, none], [[], [0], [], [], [3], [3, 4], [0, 1, 3, 4, 5], [0, 1, 2, 3, 4, 5, 6], [0, 1, 2, 3, 4, 5, 6, 7], [0, 1, 2, 3, 4, 5, 6, 7, 8], [0, 1, 2, 3, 4, 5, 6, 7, 8], [], [0, 1, 2, 3, 4, 5, 6, 7, 8, 9, 11], [0, 1, 2, 3, 4, 5, 6, 7, 8, 9, 10, 11, 12]], [[], [0], [], [], [3], [4], [5], [1, 2, 6], [1, 6, 7], [1, 6, 8], [1, 6, 8], [], [], []]⟩ (fun γ => [(γ 11).n]) (by kernel_rfl) (by kernel_rfl) (by (with_reducible (repeat' (first | assumption | apply jA | apply jB | apply jC | apply jD | apply jE | apply jF | apply hb3 | omega | (simp; done) | (simp; omega) | (dsimp only; omega))))) (fun u => by simp only [putD, Act.put, List.setIfInBounds_toArray, List.set_cons_zero, List.set_cons_succ, Nat.zero_add, Nat.reduceAdd]; rfl) ?_
      apply RGW.on (i := 0) rfl
      · (simp only [gA, gB, gC] <;> rfl)
      · intro γ u W hcur hd
        clear hd
        (try dsimp only)
        refine ⟨rfl, ?_⟩
        go_simp <;> (try go_bits) <;> with_reducible rfl
      · exact fun _ _ _ => rfl
      · rfl
      dsimp only [nA, cA]
      apply RGW.gh (⟨fun γ => vNt n.world (.slice (γ 1).A nl (γ 1).c), fun γ W => NtIn n (γ 1).A (γ 1).c W, fun _ => []⟩) (i := 1) rfl
      · (simp only [gA, gB, gC] <;> rfl)
      · intro γ u W hcur hd
        obtain ⟨⟨h0, -, -⟩, -⟩ := hd
        dsimp only at h0
        (try simp only [h0])
        refine ⟨rfl, fun K hK => ?_⟩
        go_simp
        (go_at_call 10; (with_reducible refine (hcp.out _ (bl_tr hb0 hcur)).mono ?_); rintro e w3 ⟨Ax, cx, rfl, hb3, hox⟩; dsimp only; exact hK.out ⟨0, undef, Ax, cx⟩ _ _ (by simp [up]) hb3 (by simpa [up] using hox) (by simp))
      · intro γ γ' hg
        try dsimp only
        have e1 := hg 1 (by decide)
        simp only [e1]
        try exact ⟨trivial, fun _ h => h⟩
      · intro γ W W' hbl hR
        first | exact hR.below hbl | exact own_below hR hbl | exact trivial | exact ⟨hR.1.below hbl, hR.2⟩
      · rfl
      dsimp only [nA, cA]
      apply RGW.on (i := 2) rfl
      · (simp only [gA, gB, gC] <;> rfl)
      · intro γ u W hcur hd
        clear hd
        (try dsimp only)
        refine ⟨rfl, ?_⟩
        go_simp <;> (try go_bits) <;> with_reducible rfl
      · exact fun _ _ _ => rfl
      · rfl
      dsimp only [nA, cA]
      apply RGW.on (i := 3) rfl
      · (simp only [gA, gB, gC] <;> rfl)
      · intro γ u W hcur hd
        clear hd
        (try dsimp only)
        refine ⟨rfl, ?_⟩
        go_simp <;> (try go_bits) <;> with_reducible rfl
      · exact fun _ _ _ => rfl
      · rfl
      dsimp only [nA, cA]
      apply RGW.on (i := 4) rfl
      · (simp only [gA, gB, gC] <;> rfl)
      · intro γ u W hcur hd
        obtain ⟨⟨h3, -, -⟩, -⟩ := hd
        dsimp only at h3
        (try simp only [h3])
        refine ⟨rfl, ?_⟩
        go_simp <;> (try go_bits) <;> with_reducible rfl
      · exact fun _ _ _ => rfl
      · rfl
      dsimp only [nA, cA]
      apply RGW.on (i := 5) rfl
      · (simp only [gA, gB, gC] <;> rfl)
      · intro γ u W hcur hd
        obtain ⟨⟨h4, -, -⟩, -⟩ := hd
        dsimp only at h4
        (try simp only [h4])
        refine ⟨rfl, ?_⟩
        go_simp <;> (try go_bits) <;> with_reducible rfl
      · exact fun _ _ _ => rfl
      · rfl
      dsimp only [nA, cA]
      apply RGW.gh (⟨fun γ => .agg #[.int .i64 x.s.mv.ticks, .int .i64 x.s.mv.speed.x.lo, .int .i64 x.s.mv.speed.x.hi, .int .i64 x.s.mv.speed.y.lo, .int .i64 x.s.mv.speed.y.hi, .int .i64 x.s.mv.speed.z.lo, .int .i64 x.s.mv.speed.z.hi, .slice (γ 6).A x.s.vt.rs.length (γ 6).c, .int .i64 x.s.vt.wrong], fun γ W => Sl cRd 4 W (γ 6).A x.s.vt.rs, fun _ => []⟩) (i := 6) rfl
      · (simp only [gA, gB, gC] <;> rfl)
      · intro γ u W hcur hd
        obtain ⟨⟨h5, -, -⟩, -⟩ := hd
        dsimp only at h5
        (try simp only [h5])
        refine ⟨rfl, fun K hK => ?_⟩
        go_simp
        (go_at_call 15; (with_reducible refine (hcs.out _ (bl_tr hb0 hcur)).mono ?_); rintro e w3 ⟨Ax, cx, rfl, hb3, hox⟩; dsimp only; exact hK.out ⟨0, undef, Ax, cx⟩ _ _ (by simp [up]) hb3 (by simpa [up] using hox) (by simp))
      · intro γ γ' hg
        try dsimp only
        have e1 := hg 1 (by decide)
        have e6 := hg 6 (by decide)
        simp only [e1, e6]
        try exact ⟨trivial, fun _ h => h⟩
      · intro γ W W' hbl hR
        first | exact hR.below hbl | exact own_below hR hbl | exact trivial | exact ⟨hR.1.below hbl, hR.2⟩
      · rfl
      dsimp only [nA, cA]
      apply RGW.call (i := 7) rfl
      · (simp only [gA, gB, gC] <;> rfl)
      · intro γ u W hcur hd
        obtain ⟨⟨h1, r1, -⟩, ⟨h2, -, -⟩, ⟨h6, r6, -⟩, -⟩ := hd
        dsimp only at h1 h2 h6 r1 r6
        (try simp only [h1, h2, h6])
        refine ⟨rfl, fun K hK => ?_⟩
        go_simp
        (go_at_call 14; (with_reducible refine (haf.out _ _ _ _ _ r1 r6).mono ?_); rintro e w3 ⟨rfl, hb3⟩; replace hb3 := bl_tt hb3)
        (try dsimp only)
        exact hK.out _ _ rfl (by (with_reducible (repeat' (first | assumption | apply jA | apply jB | apply jC | apply jD | apply jE | apply jF | apply hb3 | omega | (simp; done) | (simp; omega) | (dsimp only; omega)))))
      · exact fun _ _ _ => rfl
      · rfl
      dsimp only [nA, cA]
      apply RGW.on (i := 8) rfl
      · (simp only [gA, gB, gC] <;> rfl)
      · intro γ u W hcur hd
        obtain ⟨⟨h1, r1, -⟩, ⟨h6, r6, -⟩, ⟨h7, -, -⟩, -⟩ := hd
        dsimp only at h1 h6 h7 r1 r6
        (try simp only [h1, h6, h7])
        refine ⟨rfl, ?_⟩
        go_simp <;> (try go_bits) <;> with_reducible rfl
      · exact fun _ _ _ => rfl
      · rfl
      dsimp only [nA, cA]
      apply RGW.on (i := 9) rfl
      · (simp only [gA, gB, gC] <;> rfl)
      · intro γ u W hcur hd
        obtain ⟨⟨h1, r1, -⟩, ⟨h6, r6, -⟩, ⟨h8, -, -⟩, -⟩ := hd
        dsimp only at h1 h6 h8 r1 r6
        (try simp only [h1, h6, h8])
        refine ⟨rfl, ?_⟩
        go_simp <;> (try go_bits) <;> with_reducible rfl
      · exact fun _ _ _ => rfl
      · rfl
      dsimp only [nA, cA]
      apply RGW.onL (i := 10) rfl
      · (simp only [gA, gB, gC] <;> rfl)
      · intro γ u Wm W hcur hd hX
        obtain ⟨⟨h1, r1, -⟩, ⟨h6, r6, -⟩, ⟨h8, -, -⟩, -⟩ := hd
        dsimp only at h1 h6 h8 r1 r6
        (try simp only [h1, h6, h8])
        refine ⟨rfl, ?_⟩
        go_simp <;> (try go_bits) <;> with_reducible rfl
      · exact fun _ _ _ => rfl
      dsimp only [nA, cA]
      apply RGW.alloc (i := 11) rfl
      · (simp only [gA, gB, gC] <;> rfl)
      · intro γ u W hcur hd
        clear hd
        (try dsimp only)
        refine ⟨rfl, fun K hK => ?_⟩
        go_simp
        exact hK.out _ _ rfl rfl
      · exact fun _ _ _ => rfl
      · rfl
      · rfl
      dsimp only [nA, cA]
      refine RGW.skip (i := 12) rfl rfl ?_
      dsimp only [nA, cA]
      refine RGW.skip (i := 13) rfl rfl ?_
      dsimp only [nA, cA]
      refine RGW.fin (fun γ u y3 hy3 hd hdis => ?_)
      obtain ⟨⟨h0, -, -⟩, ⟨h1, r1, b1⟩, ⟨h2, -, -⟩, ⟨h3, -, -⟩, ⟨h4, -, -⟩, ⟨h5, -, -⟩, ⟨h6, r6, b6⟩, ⟨h7, -, -⟩, ⟨h8, -, -⟩, ⟨h9, -, -⟩, ⟨h10, -, -⟩, ⟨h11, r11, b11⟩, -⟩ := hd
      dsimp only at h0 h1 h2 h3 h4 h5 h6 h7 h8 h9 h10 h11 r1 r6 r11 b1 b6 b11
      clear hdis
      simp only [h0, h1, h2, h3, h4, h5, h6, h7, h8, h9, h10, h11]
      clear h11 h10 h9 h8 h7 h6 h5 h4 h3 h2 h1 h0
      replace b11 := b11 _ (List.mem_singleton.2 rfl)
      generalize hγ11 : (γ 11).n = g11 at *
      clear hγ11
      clear u
      simp only [List.map_cons, List.map_nil]
      apply PlanW.step
      · (simp only [gA, gB, gC] <;> rfl)
      · rfl
      intro K hK
      refine wp_store_keep (X := [g11]) (w0 := y3) rfl rfl rfl (by with_reducible first | exact bx_refl _ _ | assumption) (by with_reducible first | assumption | (apply Blk.below (hb := hy3); assumption)) (by simp) (by kernel_rfl) (by rfl) (by simp [Value.oneCell']) (fun hres1 hcur => ?_)
      refine hK.out _ _ hcur (fun _ => ?_)
      clear hK K
      try simp only [Act.put, List.setIfInBounds_toArray, List.set_cons_zero, List.set_cons_succ]
      apply PlanW.step
      · (simp only [gA, gB, gC] <;> rfl)
      · rfl
      intro K hK
      go_simp
      refine hK.out _ _ (by (with_reducible (repeat' (first | assumption | apply jG | apply jH | apply jI | apply jJ | apply jK | apply hb3x | omega | (simp; done) | (simp; omega) | (dsimp only; omega))))) (fun hcur => ?_)
      clear hK K
      try simp only [Act.put, List.setIfInBounds_toArray, List.set_cons_zero, List.set_cons_succ]
      refine PlanW.done ?_
      have hb3 := bl_tt hy3
      clear r1 r6
      clear c0 c1 c2 c3 c4 c5 c6 c7 c8
      apply absTB3 (w0 := w) (g0 := w.heap.size) (g1 := w.heap.size + 1) (g2 := g11)
      iterate 4 (focus ((with_reducible (repeat' (first | assumption | apply jA | apply jB | apply jC | apply jD | apply jE | apply jF | apply hb3 | apply jG | apply jH | apply jI | apply jJ | apply jK | apply hb3x | (apply jL; first | (simp; done) | rfl) | apply jM | apply jN | apply jO | apply jP | apply jQ | apply jR | apply jS | apply jT (hb := hb3 _ (jA _)) | omega | (simp; done) | (simp; omega) | (dsimp only; omega)))); done))
      intro y4 hb0' k0' k1' k3'
      (try simp only [List.setIfInBounds_toArray, List.set_cons_zero, List.set_cons_succ] at k0' k1' k3')
      try clear hb3
      try clear Lk0
      try clear Fk0
      try clear Qk0
      try clear Lk1
      try clear Fk1
      try clear Qk1
      try clear hb0
      try clear k0
      try clear k1
      try clear k3
      have hb0 := hb0'; clear hb0'
      have k0 := k0'; clear k0'
      have k1 := k1'; clear k1'
      have k3 := k3'; clear k3'
      have Lk0 := k0.later
      have Fk0 := k0.laterF
      have Qk0 := k0.lt
      have Lk1 := k1.later
      have Fk1 := k1.laterF
      have Qk1 := k1.lt
      have Lk3 := k3.later
      have Fk3 := k3.laterF
      have Qk3 := k3.lt
      go_upto_region 14 with fail
      have c0 : ∀ W, Below _ _ W → W.cell? ⟨bb, off, none⟩ = some (.int .i64 x.s.mv.ticks) := later (kcell hb0 (hc.out 0 _ rfl))
      have c1 : ∀ W, Below _ _ W → W.cell? ⟨bb, off + 1, none⟩ = some (.int .i64 x.s.mv.speed.x.lo) := later (kcell hb0 (hc.out 1 _ rfl))
      have c2 : ∀ W, Below _ _ W → W.cell? ⟨bb, off + 2, none⟩ = some (.int .i64 x.s.mv.speed.x.hi) := later (kcell hb0 (hc.out 2 _ rfl))
      have c3 : ∀ W, Below _ _ W → W.cell? ⟨bb, off + 3, none⟩ = some (.int .i64 x.s.mv.speed.y.lo) := later (kcell hb0 (hc.out 3 _ rfl))
      have c4 : ∀ W, Below _ _ W → W.cell? ⟨bb, off + 4, none⟩ = some (.int .i64 x.s.mv.speed.y.hi) := later (kcell hb0 (hc.out 4 _ rfl))
      have c5 : ∀ W, Below _ _ W → W.cell? ⟨bb, off + 5, none⟩ = some (.int .i64 x.s.mv.speed.z.lo) := later (kcell hb0 (hc.out 5 _ rfl))
      have c6 : ∀ W, Below _ _ W → W.cell? ⟨bb, off + 6, none⟩ = some (.int .i64 x.s.mv.speed.z.hi) := later (kcell hb0 (hc.out 6 _ rfl))
      have c7 : ∀ W, Below _ _ W → W.cell? ⟨bb, off + 7, none⟩ = some (.slice x.A x.s.vt.rs.length x.c) := later (kcell hb0 (hc.out 7 _ rfl))
      have c8 : ∀ W, Below _ _ W → W.cell? ⟨bb, off + 8, none⟩ = some (.int .i64 x.s.vt.wrong) := later (kcell hb0 (hc.out 8 _ rfl))
      refine wp_any (w0 := y4) ⟨[], [], [some 73, some 74, some 75, some 76, some 77, some 78, some 10], [[], [], [], [2], [2, 3], [0, 1, 2, 3, 4], [0, 1, 2, 3, 4, 5]], [[], [], [], [2], [3], [0, 1, 4], [5]]⟩ (fun _ => []) (by kernel_rfl) (by kernel_rfl) (by (with_reducible (repeat' (first | assumption | apply jA | apply jB | apply jC | apply jD | apply jE | apply jF | apply hb3 | omega | (simp; done) | (simp; omega) | (dsimp only; omega))))) (fun u => by simp only [putD, Act.put, List.setIfInBounds_toArray, List.set_cons_zero, List.set_cons_succ, Nat.zero_add, Nat.reduceAdd]; rfl) ?_
      apply RGW.on (i := 0) rfl
      · (simp only [gA, gB, gC] <;> rfl)
      · intro γ u W hcur hd
        clear hd
        (try dsimp only)
        refine ⟨rfl, ?_⟩
        go_simp <;> (try go_bits) <;> with_reducible rfl
      · exact fun _ _ _ => rfl
      · rfl
      dsimp only [nA, cA]
      apply RGW.on (i := 1) rfl
      · (simp only [gA, gB, gC] <;> rfl)
      · intro γ u W hcur hd
        clear hd
        (try dsimp only)
        refine ⟨rfl, ?_⟩
        go_simp <;> (try go_bits) <;> with_reducible rfl
      · exact fun _ _ _ => rfl
      · rfl
      dsimp only [nA, cA]
      apply RGW.on (i := 2) rfl
      · (simp only [gA, gB, gC] <;> rfl)
      · intro γ u W hcur hd
        clear hd
        (try dsimp only)
        refine ⟨rfl, ?_⟩
        go_simp <;> (try go_bits) <;> with_reducible rfl
      · exact fun _ _ _ => rfl
      · rfl
      dsimp only [nA, cA]
      apply RGW.on (i := 3) rfl
      · (simp only [gA, gB, gC] <;> rfl)
      · intro γ u W hcur hd
        obtain ⟨⟨h2, -, -⟩, -⟩ := hd
        dsimp only at h2
        (try simp only [h2])
        refine ⟨rfl, ?_⟩
        go_simp <;> (try go_bits) <;> with_reducible rfl
      · exact fun _ _ _ => rfl
      · rfl
      dsimp only [nA, cA]
      apply RGW.on (i := 4) rfl
      · (simp only [gA, gB, gC] <;> rfl)
      · intro γ u W hcur hd
        obtain ⟨⟨h3, -, -⟩, -⟩ := hd
        dsimp only at h3
        (try simp only [h3])
        refine ⟨rfl, ?_⟩
        go_simp <;> (try go_bits) <;> with_reducible rfl
      · exact fun _ _ _ => rfl
      · rfl
      dsimp only [nA, cA]
      apply RGW.call (i := 5) rfl
      · (simp only [gA, gB, gC] <;> rfl)
      · intro γ u W hcur hd
        obtain ⟨⟨h0, -, -⟩, ⟨h1, -, -⟩, ⟨h4, -, -⟩, -⟩ := hd
        dsimp only at h0 h1 h4
        (try simp only [h0, h1, h4])
        refine ⟨rfl, fun K hK => ?_⟩
        go_simp
        (go_at_call 16; (with_reducible refine (hae.out _ (bl_tr hb0 (by (with_reducible (repeat' (first | assumption | apply jA | apply jB | apply jC | apply jD | apply jE | apply jF | apply hb3 | omega | (simp; done) | (simp; omega) | (dsimp only; omega))))))).mono ?_); rintro e w3 ⟨rfl, hb3⟩; replace hb3 := bl_tt hb3)
        (try dsimp only)
        exact hK.out _ _ rfl (by (with_reducible (repeat' (first | assumption | apply jA | apply jB | apply jC | apply jD | apply jE | apply jF | apply hb3 | omega | (simp; done) | (simp; omega) | (dsimp only; omega)))))
      · exact fun _ _ _ => rfl
      · rfl
      dsimp only [nA, cA]
      apply RGW.on (i := 6) rfl
      · (simp only [gA, gB, gC] <;> rfl)
      · intro γ u W hcur hd
        obtain ⟨⟨h5, -, -⟩, -⟩ := hd
        dsimp only at h5
        (try simp only [h5])
        refine ⟨rfl, ?_⟩
        go_simp <;> (try go_bits) <;> with_reducible rfl
      · exact fun _ _ _ => rfl
      · rfl
      dsimp only [nA, cA]
      refine RGW.fin (fun γ u y5 hy5 hd hdis => ?_)
      obtain ⟨⟨h0, -, -⟩, ⟨h1, -, -⟩, ⟨h2, -, -⟩, ⟨h3, -, -⟩, ⟨h4, -, -⟩, ⟨h5, -, -⟩, ⟨h6, -, -⟩, -⟩ := hd
      dsimp only at h0 h1 h2 h3 h4 h5 h6
      clear hdis
      simp only [h0, h1, h2, h3, h4, h5, h6]
      clear h6 h5 h4 h3 h2 h1 h0
      clear u
      simp only [List.map_nil]
      refine PlanW.done ?_
      have hb3 := bl_tt hy5
      clear c0 c1 c2 c3 c4 c5 c6 c7 c8
      apply absTB3 (w0 := w) (g0 := w.heap.size) (g1 := w.heap.size + 1) (g2 := g11)
      iterate 4 (focus ((with_reducible (repeat' (first | assumption | apply jA | apply jB | apply jC | apply jD | apply jE | apply jF | apply hb3 | apply jG | apply jH | apply jI | apply jJ | apply jK | apply hb3x | (apply jL; first | (simp; done) | rfl) | apply jM | apply jN | apply jO | apply jP | apply jQ | apply jR | apply jS | apply jT (hb := hb3 _ (jA _)) | omega | (simp; done) | (simp; omega) | (dsimp only; omega)))); done))
      intro y6 hb0' k0' k1' k3'
      (try simp only [List.setIfInBounds_toArray, List.set_cons_zero, List.set_cons_succ] at k0' k1' k3')
      try clear hb3
      try clear Lk0
      try clear Fk0
      try clear Qk0
      try clear Lk1
      try clear Fk1
      try clear Qk1
      try clear Lk3
      try clear Fk3
      try clear Qk3
      try clear hb0
      try clear k0
      try clear k1
      try clear k3
      have hb0 := hb0'; clear hb0'
      have k0 := k0'; clear k0'
      have k1 := k1'; clear k1'
      have k3 := k3'; clear k3'
      have Lk0 := k0.later
      have Fk0 := k0.laterF
      have Qk0 := k0.lt
      have Lk1 := k1.later
      have Fk1 := k1.laterF
      have Qk1 := k1.lt
      have Lk3 := k3.later
      have Fk3 := k3.laterF
      have Qk3 := k3.lt
      by_cases hE : ae = 0
      · subst hE
        replace har := Lib.hid (har.out (by simp))
        obtain ⟨rfl, rfl⟩ := fA0.out (by simp)
        clear fA0 fA1
        go_upto_region 17 with fail
        have c0 : ∀ W, Below _ _ W → W.cell? ⟨bb, off, none⟩ = some (.int .i64 x.s.mv.ticks) := later (kcell hb0 (hc.out 0 _ rfl))
        have c1 : ∀ W, Below _ _ W → W.cell? ⟨bb, off + 1, none⟩ = some (.int .i64 x.s.mv.speed.x.lo) := later (kcell hb0 (hc.out 1 _ rfl))
        have c2 : ∀ W, Below _ _ W → W.cell? ⟨bb, off + 2, none⟩ = some (.int .i64 x.s.mv.speed.x.hi) := later (kcell hb0 (hc.out 2 _ rfl))
        have c3 : ∀ W, Below _ _ W → W.cell? ⟨bb, off + 3, none⟩ = some (.int .i64 x.s.mv.speed.y.lo) := later (kcell hb0 (hc.out 3 _ rfl))
        have c4 : ∀ W, Below _ _ W → W.cell? ⟨bb, off + 4, none⟩ = some (.int .i64 x.s.mv.speed.y.hi) := later (kcell hb0 (hc.out 4 _ rfl))
        have c5 : ∀ W, Below _ _ W → W.cell? ⟨bb, off + 5, none⟩ = some (.int .i64 x.s.mv.speed.z.lo) := later (kcell hb0 (hc.out 5 _ rfl))
        have c6 : ∀ W, Below _ _ W → W.cell? ⟨bb, off + 6, none⟩ = some (.int .i64 x.s.mv.speed.z.hi) := later (kcell hb0 (hc.out 6 _ rfl))
        have c7 : ∀ W, Below _ _ W → W.cell? ⟨bb, off + 7, none⟩ = some (.slice x.A x.s.vt.rs.length x.c) := later (kcell hb0 (hc.out 7 _ rfl))
        have c8 : ∀ W, Below _ _ W → W.cell? ⟨bb, off + 8, none⟩ = some (.int .i64 x.s.vt.wrong) := later (kcell hb0 (hc.out 8 _ rfl))
        refine wp_any (w0 := y6) ⟨[], [], [some 89, some 90, some 91, some 92, some 93, some 94, some 95, some 96, some 97, some 98, some 99, some 100, some 6], [[], [0], [0, 1], [0, 1, 2], [0, 1, 2], [0, 1, 2], [0, 1, 2], [0, 1, 2, 6], [0, 1, 2, 6, 7], [0, 1, 2, 4, 5, 6, 7, 8], [0, 1, 2, 3, 4, 5, 6, 7, 8, 9], [0, 1, 2, 3, 4, 5, 6, 7, 8, 9, 10], [0, 1, 2, 3, 4, 5, 6, 7, 8, 9, 10, 11]], [[], [0], [1], [2], [2], [2], [2], [2, 6], [2, 7], [2, 4, 5, 8], [2, 3, 9], [2, 10], [11]]⟩ (fun _ => []) (by kernel_rfl) (by kernel_rfl) (by (with_reducible (repeat' (first | assumption | apply jA | apply jB | apply jC | apply jD | apply jE | apply jF | apply hb3 | omega | (simp; done) | (simp; omega) | (dsimp only; omega))))) (fun u => by simp only [putD, Act.put, List.setIfInBounds_toArray, List.set_cons_zero, List.set_cons_succ, Nat.zero_add, Nat.reduceAdd]; rfl) ?_
        apply RGW.on (i := 0) rfl
        · (simp only [gA, gB, gC] <;> rfl)
        · intro γ u W hcur hd
          clear hd
          (try dsimp only)
          refine ⟨rfl, ?_⟩
          go_simp <;> (try go_bits) <;> with_reducible rfl
        · exact fun _ _ _ => rfl
        · rfl
        dsimp only [nA, cA]
        apply RGW.on (i := 1) rfl
        · (simp only [gA, gB, gC] <;> rfl)
        · intro γ u W hcur hd
          obtain ⟨⟨h0, -, -⟩, -⟩ := hd
          dsimp only at h0
          (try simp only [h0])
          refine ⟨rfl, ?_⟩
          go_simp <;> (try go_bits) <;> with_reducible rfl
        · exact fun _ _ _ => rfl
        · rfl
        dsimp only [nA, cA]
        apply RGW.on (i := 2) rfl
        · (simp only [gA, gB, gC] <;> rfl)
        · intro γ u W hcur hd
          obtain ⟨⟨h1, -, -⟩, -⟩ := hd
          dsimp only at h1
          (try simp only [h1])
          refine ⟨rfl, ?_⟩
          go_simp <;> (try go_bits) <;> with_reducible rfl
        · exact fun _ _ _ => rfl
        · rfl
        dsimp only [nA, cA]
        apply RGW.on (i := 3) rfl
        · (simp only [gA, gB, gC] <;> rfl)
        · intro γ u W hcur hd
          obtain ⟨⟨h2, -, -⟩, -⟩ := hd
          dsimp only at h2
          (try simp only [h2])
          refine ⟨?_, ?_⟩
          · (simp [Region.wanted, yielded, undef, *]; done)
          go_simp <;> (try go_bits) <;> with_reducible rfl
        · exact fun _ _ _ => rfl
        · rfl
        dsimp only [nA, cA]
        apply RGW.on (i := 4) rfl
        · (simp only [gA, gB, gC] <;> rfl)
        · intro γ u W hcur hd
          obtain ⟨⟨h2, -, -⟩, -⟩ := hd
          dsimp only at h2
          (try simp only [h2])
          refine ⟨?_, ?_⟩
          · (simp [Region.wanted, yielded, undef, *]; done)
          go_simp <;> (try go_bits) <;> with_reducible rfl
        · exact fun _ _ _ => rfl
        · rfl
        dsimp only [nA, cA]
        apply RGW.on (i := 5) rfl
        · (simp only [gA, gB, gC] <;> rfl)
        · intro γ u W hcur hd
          obtain ⟨⟨h2, -, -⟩, -⟩ := hd
          dsimp only at h2
          (try simp only [h2])
          refine ⟨?_, ?_⟩
          · (simp [Region.wanted, yielded, undef, *]; done)
          go_simp <;> (try go_bits) <;> with_reducible rfl
        · exact fun _ _ _ => rfl
        · rfl
        dsimp only [nA, cA]
        apply RGW.on (i := 6) rfl
        · (simp only [gA, gB, gC] <;> rfl)
        · intro γ u W hcur hd
          obtain ⟨⟨h2, -, -⟩, -⟩ := hd
          dsimp only at h2
          (try simp only [h2])
          refine ⟨?_, ?_⟩
          · (simp [Region.wanted, yielded, undef, *]; done)
          go_simp <;> (try go_bits) <;> with_reducible rfl
        · exact fun _ _ _ => rfl
        · rfl
        dsimp only [nA, cA]
        apply RGW.on (i := 7) rfl
        · (simp only [gA, gB, gC] <;> rfl)
        · intro γ u W hcur hd
          obtain ⟨⟨h2, -, -⟩, ⟨h6, -, -⟩, -⟩ := hd
          dsimp only at h2 h6
          (try simp only [h2, h6])
          refine ⟨?_, ?_⟩
          · (simp [Region.wanted, yielded, undef, *]; done)
          go_simp <;> (try go_bits) <;> with_reducible rfl
        · exact fun _ _ _ => rfl
        · rfl
        dsimp only [nA, cA]
        apply RGW.on (i := 8) rfl
        · (simp only [gA, gB, gC] <;> rfl)
        · intro γ u W hcur hd
          obtain ⟨⟨h2, -, -⟩, ⟨h7, -, -⟩, -⟩ := hd
          dsimp only at h2 h7
          (try simp only [h2, h7])
          refine ⟨?_, ?_⟩
          · (simp [Region.wanted, yielded, undef, *]; done)
          go_simp <;> (try go_bits) <;> with_reducible rfl
        · exact fun _ _ _ => rfl
        · rfl
        dsimp only [nA, cA]
        apply RGW.call (i := 9) rfl
        · (simp only [gA, gB, gC] <;> rfl)
        · intro γ u W hcur hd
          obtain ⟨⟨h2, -, -⟩, ⟨h4, -, -⟩, ⟨h5, -, -⟩, ⟨h8, -, -⟩, -⟩ := hd
          dsimp only at h2 h4 h5 h8
          (try simp only [h2, h4, h5, h8])
          refine ⟨?_, fun K hK => ?_⟩
          · (simp [Region.wanted, yielded, undef, *]; done)
          go_simp
          (go_at_call 17; (with_reducible refine (har.out _ (bl_tr hb0 (by (with_reducible (repeat' (first | assumption | apply jA | apply jB | apply jC | apply jD | apply jE | apply jF | apply hb3 | omega | (simp; done) | (simp; omega) | (dsimp only; omega))))))).mono ?_); rintro e w3 ⟨rfl, hb3⟩; replace hb3 := bl_tt hb3)
          (try dsimp only)
          exact hK.out _ _ rfl (by (with_reducible (repeat' (first | assumption | apply jA | apply jB | apply jC | apply jD | apply jE | apply jF | apply hb3 | omega | (simp; done) | (simp; omega) | (dsimp only; omega)))))
        · exact fun _ _ _ => rfl
        · rfl
        dsimp only [nA, cA]
        apply RGW.on (i := 10) rfl
        · (simp only [gA, gB, gC] <;> rfl)
        · intro γ u W hcur hd
          obtain ⟨⟨h2, -, -⟩, ⟨h3, -, -⟩, ⟨h9, -, -⟩, -⟩ := hd
          dsimp only at h2 h3 h9
          (try simp only [h2, h3, h9])
          refine ⟨?_, ?_⟩
          · (simp [Region.wanted, yielded, undef, *]; done)
          go_simp <;> (try go_bits) <;> with_reducible rfl
        · exact fun _ _ _ => rfl
        · rfl
        dsimp only [nA, cA]
        apply RGW.on (i := 11) rfl
        · (simp only [gA, gB, gC] <;> rfl)
        · intro γ u W hcur hd
          obtain ⟨⟨h2, -, -⟩, ⟨h10, -, -⟩, -⟩ := hd
          dsimp only at h2 h10
          (try simp only [h2, h10])
          refine ⟨rfl, ?_⟩
          go_simp <;> (try go_bits) <;> with_reducible rfl
        · exact fun _ _ _ => rfl
        · rfl
        dsimp only [nA, cA]
        apply RGW.on (i := 12) rfl
        · (simp only [gA, gB, gC] <;> rfl)
        · intro γ u W hcur hd
          obtain ⟨⟨h11, -, -⟩, -⟩ := hd
          dsimp only at h11
          (try simp only [h11])
          refine ⟨rfl, ?_⟩
          go_simp <;> (try go_bits) <;> with_reducible rfl
        · exact fun _ _ _ => rfl
        · rfl
        dsimp only [nA, cA]
        refine RGW.fin (fun γ u y7 hy7 hd hdis => ?_)
        obtain ⟨⟨h0, -, -⟩, ⟨h1, -, -⟩, ⟨h2, -, -⟩, ⟨h3, -, -⟩, ⟨h4, -, -⟩, ⟨h5, -, -⟩, ⟨h6, -, -⟩, ⟨h7, -, -⟩, ⟨h8, -, -⟩, ⟨h9, -, -⟩, ⟨h10, -, -⟩, ⟨h11, -, -⟩, ⟨h12, -, -⟩, -⟩ := hd
        dsimp only at h0 h1 h2 h3 h4 h5 h6 h7 h8 h9 h10 h11 h12
        clear hdis
        simp only [h0, h1, h2, h3, h4, h5, h6, h7, h8, h9, h10, h11, h12]
        clear h12 h11 h10 h9 h8 h7 h6 h5 h4 h3 h2 h1 h0
        clear u
        simp only [List.map_nil]
        refine PlanW.done ?_
        have hb3 := bl_tt hy7
        clear c0 c1 c2 c3 c4 c5 c6 c7 c8
        apply absTB2 (w0 := w) (g0 := w.heap.size) (g1 := w.heap.size + 1)
        iterate 3 (focus ((with_reducible (repeat' (first | assumption | apply jA | apply jB | apply jC | apply jD | apply jE | apply jF | apply hb3 | apply jG | apply jH | apply jI | apply jJ | apply jK | apply hb3x | (apply jL; first | (simp; done) | rfl) | apply jM | apply jN | apply jO | apply jP | apply jQ | apply jR | apply jS | apply jT (hb := hb3 _ (jA _)) | omega | (simp; done) | (simp; omega) | (dsimp only; omega)))); done))
        intro y8 hb0' k0' k1'
        (try simp only [List.setIfInBounds_toArray, List.set_cons_zero, List.set_cons_succ] at k0' k1')
        try clear hb3
        try clear Lk0
        try clear Fk0
        try clear Qk0
        try clear Lk1
        try clear Fk1
        try clear Qk1
        try clear Lk3
        try clear Fk3
        try clear Qk3
        try clear hb0
        try clear k0
        try clear k1
        have hb0 := hb0'; clear hb0'
        have k0 := k0'; clear k0'
        have k1 := k1'; clear k1'
        go_wp2
        go_ret
        exact ⟨by simp, hb0⟩
      · obtain ⟨rfl, rfl⟩ := fA1.out hE
        clear fA0 fA1
        have hE' := bne_neT hE
        replace hE := Lib.hid hE
        go_wp2
        go_ret
        exact ⟨by simp [bx0], hb0⟩
theorem l_FixSteps (n : Nt) (b : Bx) (l : List StA) (A A' : Option Addr) (c c' : Nat) (w : World) (hs : Sl cBc 4 w A n.bs) (hc : n.bs.length ≤ c) (hnm : ∀ b ∈ n.bs, b.name.size ≤ maxLen) (hl : StsIn l A' w) (hlc : l.length ≤ c') (hcm : c' ≤ maxLen) :
    Calls Tryz.prog 3 #[vNt n.world (.slice A n.bs.length c), vBx b, .slice A' l.length c'] w (Ret (.bool true) w) := by
  cases hF : (decide (n.bs.length ≤ 8) && decide (0 ≤ 10))
  · exact l_Steps_few n b l A A' c c' w hF
  · have hF' := hF
    simp only [Bool.and_eq_true, decide_eq_true_eq] at hF'
    exact l_Steps n b l A A' c c' w hF ⟨by omega, hc, hnm, hs⟩ hl hlc hcm
end Go.Proofs.YtephimmamkafoaaGreat
