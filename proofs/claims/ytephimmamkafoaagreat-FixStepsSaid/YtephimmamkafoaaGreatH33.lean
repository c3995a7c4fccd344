/-
  Walks: copies of steps.
-/
import Derived.Test.YtephimmamkafoaaGreatH32
import Derived.Test.YtephimmamkafoaaGreatG14
namespace Go.Proofs.YtephimmamkafoaaGreat
set_option linter.unusedSimpArgs false
set_option linter.unusedVariables false
open Go.RowKit Go.Shelf
attribute [local go_sem] bl_al bl_drew bl_drewN bl_refl bx_al bx_drew bx_drewN bx_refl
set_option maxRecDepth 20000
theorem infoSt : (Tryz.prog.info? 49).map (fun i => (i.zero, i.size, i.bytes)) = some (some (.agg #[.int .i64 0, .int .i64 0, .int .i64 0, .int .i64 0, .int .i64 0, .int .i64 0, .int .i64 0, .slice none 0 0, .int .i64 0]), 9, 88) := by kernel_rfl
set_option maxHeartbeats 4000000 in
theorem r_CopyVote2 (v : Vt) (A : Option Addr) (c : Nat) (w : World) (hl : Sl cRd 4 w A v.rs) (hll : v.rs.length ≤ 1000) :
    Calls Tryz.prog 60 #[vVt A v.rs.length c v.wrong] w (fun x w' => ∃ A2 c2, x = .returned (vVt A2 v.rs.length c2 v.wrong) ∧ Below w.heap.size w w' ∧ w'.ownsRow w.heap.size 87 4 (.slice A2 v.rs.length c2) v.rs.length (v.rs.flatMap cRd)) := by
  have hcr := Lib.hid fun (W : World) (hb : Below w.heap.size w W) => r_CopyReadings v.rs A c W (hl.below hb) hll
  clear hl
  go_enter Tryz.func60, Tryz.ntmps60
  go_wp2
  apply absB2 (w0 := w) (g0 := w.heap.size) (g1 := w.heap.size + 1)
  iterate 3 (focus ((with_reducible (repeat' (first | assumption | apply jA | apply jB | apply jC | apply jD | apply jE | apply jF | apply hb3 | apply jG | apply jH | apply jI | apply jJ | apply jK | apply hb3x | (apply jL; first | (simp; done) | rfl) | apply jM | apply jN | apply jO | apply jP | apply jQ | apply jR | apply jS | apply jT (hb := hb3 _ (jA _)) | omega | (simp; done) | (simp; omega) | (dsimp only; omega)))); done))
  intro wa hb0' k0' k1'
  (try simp only [List.setIfInBounds_toArray, List.set_cons_zero, List.set_cons_succ] at k0' k1')
  try clear hb3
  try clear hb0
  try clear k0
  try clear k1
  have hb0 := hb0'; clear hb0'
  have k0 := k0'; clear k0'
  have k1 := k1'; clear k1'
  have Lk0 := k0.later
  have Fk0 := k0.laterF
  have Qk0 := k0.lt
  have Lk1 := k1.later
  have Fk1 := k1.laterF
  have Qk1 := k1.lt
  refine wp_any (w0 := wa) ⟨[6], [], [some 3, some 4, some 5, some 6, some 7, some 8, none], [[], [0], [0, 1], [], [3], [0, 1, 2, 3, 4], [0, 1, 2, 3, 4, 5]], [[], [0], [1], [], [3], [2, 4], []]⟩ (fun _ => [w.heap.size + 1]) (by kernel_rfl) (by kernel_rfl) (by (with_reducible (repeat' (first | assumption | apply jA | apply jB | apply jC | apply jD | apply jE | apply jF | apply hb3 | omega | (simp; done) | (simp; omega) | (dsimp only; omega))))) (fun u => by simp only [putD, Act.put, List.setIfInBounds_toArray, List.set_cons_zero, List.set_cons_succ, Nat.zero_add, Nat.reduceAdd]; rfl) ?_
  apply RGW.on (i := 0) rfl
  · (simp only [gA, gB, gC] <;> rfl)
  · intro γ u W hcur hd
    clear hd
    (try dsimp only)
    refine ⟨rfl, ?_⟩
    go_simp <;> (try go_bits) <;> with_reducible rfl
  · exact fun _ _ _ => rfl
  · rfl
  dsimp only [nA, cA]
  apply RGW.on (i := 1) rfl
  · (simp only [gA, gB, gC] <;> rfl)
  · intro γ u W hcur hd
    obtain ⟨⟨h0, -, -⟩, -⟩ := hd
    dsimp only at h0
    (try simp only [h0])
    refine ⟨rfl, ?_⟩
    go_simp <;> (try go_bits) <;> with_reducible rfl
  · exact fun _ _ _ => rfl
  · rfl
  dsimp only [nA, cA]
  apply RGW.gh (⟨fun γ => .slice (γ 2).A v.rs.length (γ 2).c, fun γ W => W.ownsRow (w.heap.size + 2) 87 4 (.slice (γ 2).A v.rs.length (γ 2).c) v.rs.length (v.rs.flatMap cRd), fun _ => []⟩) (i := 2) rfl
  · (simp only [gA, gB, gC] <;> rfl)
  · intro γ u W hcur hd
    obtain ⟨⟨h1, -, -⟩, -⟩ := hd
    dsimp only at h1
    (try simp only [h1])
    refine ⟨rfl, fun K hK => ?_⟩
    go_simp
    (go_at_call 98; (with_reducible refine (hcr.out _ (bl_tr hb0 (by (with_reducible (repeat' (first | assumption | apply jA | apply jB | apply jC | apply jD | apply jE | apply jF | apply hb3 | omega | (simp; done) | (simp; omega) | (dsimp only; omega))))))).mono ?_); rintro e w3 ⟨Ax, cx, rfl, hb3, hox⟩; dsimp only; exact hK.out ⟨0, undef, Ax, cx⟩ _ _ (by simp [up]) hb3 (by simpa [up] using own_mono (Nat.le_trans Qk1 hcur.size) hox) (by simp))
  · intro γ γ' hg
    try dsimp only
    have e2 := hg 2 (by decide)
    simp only [e2]
    try exact ⟨trivial, fun _ h => h⟩
  · intro γ W W' hbl hR
    first | exact hR.below hbl | exact own_below hR hbl | exact trivial | exact ⟨hR.1.below hbl, hR.2⟩
  · rfl
  dsimp only [nA, cA]
  apply RGW.on (i := 3) rfl
  · (simp only [gA, gB, gC] <;> rfl)
  · intro γ u W hcur hd
    clear hd
    (try dsimp only)
    refine ⟨rfl, ?_⟩
    go_simp <;> (try go_bits) <;> with_reducible rfl
  · exact fun _ _ _ => rfl
  · rfl
  dsimp only [nA, cA]
  apply RGW.on (i := 4) rfl
  · (simp only [gA, gB, gC] <;> rfl)
  · intro γ u W hcur hd
    obtain ⟨⟨h3, -, -⟩, -⟩ := hd
    dsimp only at h3
    (try simp only [h3])
    refine ⟨rfl, ?_⟩
    go_simp <;> (try go_bits) <;> with_reducible rfl
  · exact fun _ _ _ => rfl
  · rfl
  dsimp only [nA, cA]
  apply RGW.on (i := 5) rfl
  · (simp only [gA, gB, gC] <;> rfl)
  · intro γ u W hcur hd
    obtain ⟨⟨h2, r2, -⟩, ⟨h4, -, -⟩, -⟩ := hd
    dsimp only at h2 h4 r2
    (try simp only [h2, h4])
    refine ⟨rfl, ?_⟩
    go_simp <;> (try go_bits) <;> with_reducible rfl
  · intro γ γ' hg
    try dsimp only
    have e2 := hg 2 (by decide)
    simp only [e2]
  · rfl
  dsimp only [nA, cA]
  refine RGW.skip (i := 6) rfl rfl ?_
  dsimp only [nA, cA]
  refine RGW.fin (fun γ u wb hwb hd hdis => ?_)
  obtain ⟨⟨h0, -, -⟩, ⟨h1, -, -⟩, ⟨h2, r2, b2⟩, ⟨h3, -, -⟩, ⟨h4, -, -⟩, ⟨h5, -, -⟩, -⟩ := hd
  dsimp only at h0 h1 h2 h3 h4 h5 r2 b2
  clear hdis
  simp only [h0, h1, h2, h3, h4, h5]
  clear h5 h4 h3 h2 h1 h0
  clear u
  simp only [List.map_cons, List.map_nil]
  apply PlanW.step
  · (simp only [gA, gB, gC] <;> rfl)
  · rfl
  intro K hK
  refine wp_store_keep (X := [w.heap.size + 1]) (w0 := wb) rfl rfl rfl (by with_reducible first | exact bx_refl _ _ | assumption) (by with_reducible first | assumption | (apply Blk.below (hb := hwb); assumption)) (by simp) (by kernel_rfl) (by rfl) (by simp [Value.oneCell']) (fun hres1 hcur => ?_)
  refine hK.out _ _ hcur (fun _ => ?_)
  clear hK K
  try simp only [Act.put, List.setIfInBounds_toArray, List.set_cons_zero, List.set_cons_succ]
  refine PlanW.done ?_
  have hb3 := bl_tt hwb
  have hox := Lib.hid r2
  clear r2
  generalize (γ 2).A = A2 at *
  generalize (γ 2).c = c2 at *
  have hb1 := hb3 _ hb0
  go_wp2
  have hr := hres1.cell
  have hbe := bx_below hb1 hcur (by simp)
  refine bodyPost_ret (v := vVt A2 v.rs.length c2 v.wrong) (by simp [results, Tryz.results60, go_sem, hr]) rfl ⟨A2, c2, rfl, hbe, ?_⟩
  exact own_mono (by omega) (own_bx hox.out hcur (by simp))
set_option maxHeartbeats 4000000 in
theorem r_CopyStep (s : St) (A : Option Addr) (c : Nat) (w : World) (hl : Sl cRd 4 w A s.vt.rs) (hll : s.vt.rs.length ≤ 1000) :
    Calls Tryz.prog 15 #[vSt s A c] w (fun x w' => ∃ A2 c2, x = .returned (vSt s A2 c2) ∧ Below w.heap.size w w' ∧ w'.ownsRow w.heap.size 87 4 (.slice A2 s.vt.rs.length c2) s.vt.rs.length (s.vt.rs.flatMap cRd)) := by
  have hcr := Lib.hid fun (W : World) (hb : Below w.heap.size w W) => r_CopyVote2 s.vt A c W (hl.below hb) hll
  clear hl
  go_enter Tryz.func15, Tryz.ntmps15
  go_wp2
  apply absB2 (w0 := w) (g0 := w.heap.size) (g1 := w.heap.size + 1)
  iterate 3 (focus ((with_reducible (repeat' (first | assumption | apply jA | apply jB | apply jC | apply jD | apply jE | apply jF | apply hb3 | apply jG | apply jH | apply jI | apply jJ | apply jK | apply hb3x | (apply jL; first | (simp; done) | rfl) | apply jM | apply jN | apply jO | apply jP | apply jQ | apply jR | apply jS | apply jT (hb := hb3 _ (jA _)) | omega | (simp; done) | (simp; omega) | (dsimp only; omega)))); done))
  intro wa hb0' k0' k1'
  (try simp only [List.setIfInBounds_toArray, List.set_cons_zero, List.set_cons_succ] at k0' k1')
  try clear hb3
  try clear hb0
  try clear k0
  try clear k1
  have hb0 := hb0'; clear hb0'
  have k0 := k0'; clear k0'
  have k1 := k1'; clear k1'
  have Lk0 := k0.later
  have Fk0 := k0.laterF
  have Qk0 := k0.lt
  have Lk1 := k1.later
  have Fk1 := k1.laterF
  have Qk1 := k1.lt
  refine wp_any (w0 := wa) ⟨[6], [], [some 3, some 4, some 5, some 6, some 7, some 8, none], [[], [0], [], [2], [2, 3], [0, 1, 2, 3, 4], [0, 1, 2, 3, 4, 5]], [[], [0], [], [2], [3], [1, 4], []]⟩ (fun _ => [w.heap.size + 1]) (by kernel_rfl) (by kernel_rfl) (by (with_reducible (repeat' (first | assumption | apply jA | apply jB | apply jC | apply jD | apply jE | apply jF | apply hb3 | omega | (simp; done) | (simp; omega) | (dsimp only; omega))))) (fun u => by simp only [putD, Act.put, List.setIfInBounds_toArray, List.set_cons_zero, List.set_cons_succ, Nat.zero_add, Nat.reduceAdd]; rfl) ?_
  apply RGW.on (i := 0) rfl
  · (simp only [gA, gB, gC] <;> rfl)
  · intro γ u W hcur hd
    clear hd
    (try dsimp only)
    refine ⟨rfl, ?_⟩
    go_simp <;> (try go_bits) <;> with_reducible rfl
  · exact fun _ _ _ => rfl
  · rfl
  dsimp only [nA, cA]
  apply RGW.on (i := 1) rfl
  · (simp only [gA, gB, gC] <;> rfl)
  · intro γ u W hcur hd
    obtain ⟨⟨h0, -, -⟩, -⟩ := hd
    dsimp only at h0
    (try simp only [h0])
    refine ⟨rfl, ?_⟩
    go_simp <;> (try go_bits) <;> with_reducible rfl
  · exact fun _ _ _ => rfl
  · rfl
  dsimp only [nA, cA]
  apply RGW.on (i := 2) rfl
  · (simp only [gA, gB, gC] <;> rfl)
  · intro γ u W hcur hd
    clear hd
    (try dsimp only)
    refine ⟨rfl, ?_⟩
    go_simp <;> (try go_bits) <;> with_reducible rfl
  · exact fun _ _ _ => rfl
  · rfl
  dsimp only [nA, cA]
  apply RGW.on (i := 3) rfl
  · (simp only [gA, gB, gC] <;> rfl)
  · intro γ u W hcur hd
    obtain ⟨⟨h2, -, -⟩, -⟩ := hd
    dsimp only at h2
    (try simp only [h2])
    refine ⟨rfl, ?_⟩
    go_simp <;> (try go_bits) <;> with_reducible rfl
  · exact fun _ _ _ => rfl
  · rfl
  dsimp only [nA, cA]
  apply RGW.gh (⟨fun γ => vVt (γ 4).A s.vt.rs.length (γ 4).c s.vt.wrong, fun γ W => W.ownsRow (w.heap.size + 2) 87 4 (.slice (γ 4).A s.vt.rs.length (γ 4).c) s.vt.rs.length (s.vt.rs.flatMap cRd), fun _ => []⟩) (i := 4) rfl
  · (simp only [gA, gB, gC] <;> rfl)
  · intro γ u W hcur hd
    obtain ⟨⟨h3, -, -⟩, -⟩ := hd
    dsimp only at h3
    (try simp only [h3])
    refine ⟨rfl, fun K hK => ?_⟩
    go_simp
    (go_at_call 60; (with_reducible refine (hcr.out _ (bl_tr hb0 (by (with_reducible (repeat' (first | assumption | apply jA | apply jB | apply jC | apply jD | apply jE | apply jF | apply hb3 | omega | (simp; done) | (simp; omega) | (dsimp only; omega))))))).mono ?_); rintro e w3 ⟨Ax, cx, rfl, hb3, hox⟩; dsimp only; exact hK.out ⟨0, undef, Ax, cx⟩ _ _ (by simp [up]) hb3 (by simpa [up] using own_mono (Nat.le_trans Qk1 hcur.size) hox) (by simp))
  · intro γ γ' hg
    try dsimp only
    have e4 := hg 4 (by decide)
    simp only [e4]
    try exact ⟨trivial, fun _ h => h⟩
  · intro γ W W' hbl hR
    first | exact hR.below hbl | exact own_below hR hbl | exact trivial | exact ⟨hR.1.below hbl, hR.2⟩
  · rfl
  dsimp only [nA, cA]
  apply RGW.on (i := 5) rfl
  · (simp only [gA, gB, gC] <;> rfl)
  · intro γ u W hcur hd
    obtain ⟨⟨h1, -, -⟩, ⟨h4, r4, -⟩, -⟩ := hd
    dsimp only at h1 h4 r4
    (try simp only [h1, h4])
    refine ⟨rfl, ?_⟩
    go_simp <;> (try go_bits) <;> with_reducible rfl
  · intro γ γ' hg
    try dsimp only
    have e4 := hg 4 (by decide)
    simp only [e4]
  · rfl
  dsimp only [nA, cA]
  refine RGW.skip (i := 6) rfl rfl ?_
  dsimp only [nA, cA]
  refine RGW.fin (fun γ u wb hwb hd hdis => ?_)
  obtain ⟨⟨h0, -, -⟩, ⟨h1, -, -⟩, ⟨h2, -, -⟩, ⟨h3, -, -⟩, ⟨h4, r4, b4⟩, ⟨h5, -, -⟩, -⟩ := hd
  dsimp only at h0 h1 h2 h3 h4 h5 r4 b4
  clear hdis
  simp only [h0, h1, h2, h3, h4, h5]
  clear h5 h4 h3 h2 h1 h0
  clear u
  simp only [List.map_cons, List.map_nil]
  apply PlanW.step
  · (simp only [gA, gB, gC] <;> rfl)
  · rfl
  intro K hK
  refine wp_store_keep (X := [w.heap.size + 1]) (w0 := wb) rfl rfl rfl (by with_reducible first | exact bx_refl _ _ | assumption) (by with_reducible first | assumption | (apply Blk.below (hb := hwb); assumption)) (by simp) (by kernel_rfl) (by rfl) (by simp [Value.oneCell']) (fun hres1 hcur => ?_)
  refine hK.out _ _ hcur (fun _ => ?_)
  clear hK K
  try simp only [Act.put, List.setIfInBounds_toArray, List.set_cons_zero, List.set_cons_succ]
  refine PlanW.done ?_
  have hb3 := bl_tt hwb
  have hox := Lib.hid r4
  clear r4
  generalize (γ 4).A = A2 at *
  generalize (γ 4).c = c2 at *
  have hb1 := hb3 _ hb0
  go_wp2
  have hr := hres1.cell
  have hbe := bx_below hb1 hcur (by simp)
  refine bodyPost_ret (v := vSt s A2 c2) (by simp [results, Tryz.results15, go_sem, hr]) rfl ⟨A2, c2, rfl, hbe, ?_⟩
  exact own_mono (by omega) (own_bx hox.out hcur (by simp))
/-- A step whose readings lie in a row of the call's own. -/
def RdOwn (x : StA) (W : World) : Prop := ∃ b, W.ownsRow b 87 4 (.slice x.A x.s.vt.rs.length x.c) x.s.vt.rs.length (x.s.vt.rs.flatMap cRd)
theorem RdOwn.sl {x : StA} {W : World} (h : RdOwn x W) : Sl cRd 4 W x.A x.s.vt.rs := by
  obtain ⟨b, h⟩ := h
  exact own_slC (cs := cRd) (fun _ => rfl) (by decide) h
theorem RdOwn.below {x : StA} {W W' : World} (h : RdOwn x W) (hb : Below W.heap.size W W') : RdOwn x W' := by
  obtain ⟨b, h⟩ := h
  exact ⟨b, own_below h hb⟩
theorem RdOwn.grown {x : StA} {W W' : World} {b n : Nat} {v : Value} {xs : List Value} (h : RdOwn x W) (ho : W.ownsRow b 49 9 v n xs) (hg : W.grownBy W' v.ownBlock) : RdOwn x W' := by
  obtain ⟨b', h⟩ := h
  refine ⟨b', h.1, ?_⟩
  rcases h.2 with h2 | ⟨g, cap, cur, e1, e2, e3, e4⟩
  · exact .inl h2
  · refine .inr ⟨g, cap, cur, e1, e2, (hg.block g (Array.getElem?_eq_some_iff.1 e3).1 fun e => ?_).trans e3, e4⟩
    rcases ho.2 with ⟨h3, -⟩ | ⟨g', cap', cur', d1, -, d3, -⟩
    · rw [h3] at e
      simp [Value.ownBlock] at e
    · rw [d1] at e
      simp [Value.ownBlock] at e
      subst e
      rw [e3] at d3
      simp at d3
set_option maxHeartbeats 8000000 in
theorem r_CopySteps (l : List StA) (A : Option Addr) (c : Nat) (w : World) (hl : StsIn l A w) (hll : few1 l) :
    Calls Tryz.prog 11 #[.slice A l.length c] w (fun x w' => ∃ (l2 : List StA) (A2 : Option Addr) (c2 : Nat), x = .returned (.slice A2 l.length c2) ∧ l2.map (·.s) = l.map (·.s) ∧ Below w.heap.size w w' ∧ StsIn l2 A2 w') := by
  obtain ⟨i0, hi0, hz0, hz1, hz2⟩ := info_parts infoSt
  have hcp := Lib.hid fun (W : World) (hb : Below w.heap.size w W) (x : StA) (hx : x ∈ l) => r_CopyStep x.s x.A x.c W ((hl.rd x hx).below hb) (hll.2 x hx)
  have Hl := Lib.hid hl
  have hl1 := hll.1
  clear hl hll
  obtain ⟨ll, Hn⟩ : ∃ k, Hid (l.length = k) := ⟨_, rfl⟩
  rw [Hn.out] at hl1 ⊢
  go_enter Tryz.func11, Tryz.ntmps11
  go_wp2
  go_loopw [3, 4] (fun v i wr => ∃ (k : Nat) (l2 : List StA), k ≤ ll ∧ i = .int .i64 k ∧ l2.map (·.s) = (l.take k).map (·.s) ∧ Below w.heap.size w wr ∧ wr.ownsRow w.heap.size 49 9 v k (l2.flatMap cSp) ∧ ∀ x ∈ l2, RdOwn x wr) (fun _ i _ => ll - (intOf i).toNat)
  case atStart => exact ⟨0, [], Nat.zero_le _, rfl, rfl, Below.refl _ _, World.ownsRow_nil _ _ _ _, fun x hx => by cases hx⟩
  case round =>
    obtain ⟨k, l2, hk, rfl, hm2, hb, hown, hrd⟩ := hrel
    replace hm2 := Lib.hid hm2
    replace hown := Lib.hid hown
    replace hrd := Lib.hid hrd
    by_cases hlt : k < ll
    · have hx : l[k]? = some (l[k]'(by rw [Hn.out]; exact hlt)) := List.getElem?_eq_getElem _
      generalize l[k]'(by rw [Hn.out]; exact hlt) = x at hx
      have hm : x ∈ l := List.mem_of_getElem? hx
      obtain ⟨bb, off, hA, hc⟩ := Hl.out.sl k x hx
      have c0 : wr.cell? ⟨bb, off + k * 9, none⟩ = some (.int .i64 x.s.mv.ticks) := kcell hb (hc 0 _ rfl)
      have c1 : wr.cell? ⟨bb, off + k * 9 + 1, none⟩ = some (.int .i64 x.s.mv.speed.x.lo) := kcell hb (hc 1 _ rfl)
      have c2 : wr.cell? ⟨bb, off + k * 9 + 2, none⟩ = some (.int .i64 x.s.mv.speed.x.hi) := kcell hb (hc 2 _ rfl)
      have c3 : wr.cell? ⟨bb, off + k * 9 + 3, none⟩ = some (.int .i64 x.s.mv.speed.y.lo) := kcell hb (hc 3 _ rfl)
      have c4 : wr.cell? ⟨bb, off + k * 9 + 4, none⟩ = some (.int .i64 x.s.mv.speed.y.hi) := kcell hb (hc 4 _ rfl)
      have c5 : wr.cell? ⟨bb, off + k * 9 + 5, none⟩ = some (.int .i64 x.s.mv.speed.z.lo) := kcell hb (hc 5 _ rfl)
      have c6 : wr.cell? ⟨bb, off + k * 9 + 6, none⟩ = some (.int .i64 x.s.mv.speed.z.hi) := kcell hb (hc 6 _ rfl)
      have c7 : wr.cell? ⟨bb, off + k * 9 + 7, none⟩ = some (.slice x.A x.s.vt.rs.length x.c) := kcell hb (hc 7 _ rfl)
      have c8 : wr.cell? ⟨bb, off + k * 9 + 8, none⟩ = some (.int .i64 x.s.vt.wrong) := kcell hb (hc 8 _ rfl)
      clear hc
      subst hA
      have hcp2 := Lib.hid (hcp.out wr hb x hm)
      replace hx := Lib.hid hx
      clear hm
      have hsz := hb.size
      go_wp2_with fail
      with_reducible refine Calls.mono hcp2.out ?_
      rintro e w4 ⟨Ax, cx, rfl, hb4, hox⟩
      have hsz4 := hb4.size
      have hown4 := Lib.hid (own_below hown.out hb4)
      replace hox := Lib.hid hox
      clear c0 c1 c2 c3 c4 c5 c6 c7 c8 hcp2
      go_wp2_with (at_builtin; refine wpList_append_own _ rfl _ _ 29 rfl w.heap.size 49 i0 _ 9 88 Tryz.underlying29 hi0 hz0 hz1 hz2 rfl (by decide) _ _ _ rfl (hown4.out.alloc _) ⟨w4.heap.size, 0, none⟩ 1 1 (cSp ⟨x.s, Ax, cx⟩) rfl rfl ?c1 ?c2 ?c3 ?c4 ?c5 ?_)
      try case c1 =>
        intro j u hj
        have e : (⟨w4.heap.size, 0, none⟩ : Addr).add j = ⟨w4.heap.size, j, none⟩ := by by_cases h : j = 0 <;> simp [Addr.add, h]
        rw [e, (Blk.new w4 _ _).cell j, List.getElem?_toArray]
        exact hj
      try case c2 =>
        intro u hu
        simp [cSp] at hu
        rcases hu with h | h | h | h | h | h | h | h | h <;> subst h <;> rfl
      try case c3 => unfold maxLen; omega
      try case c4 => omega
      try case c5 => simp; omega
      intro v' w1 hown2 hgrow _
      have hb5 : Below w.heap.size w w1 := (bl_al _ (bl_tr hb hb4)).grown hgrow (by simp; omega) (own_ge hown4.out)
      have hrd2 : ∀ y ∈ l2 ++ [⟨x.s, Ax, cx⟩], RdOwn y w1 := fun y hy => by
        have h1 : RdOwn y w4 := by
          rcases List.mem_append.1 hy with h | h
          · exact (hrd.out y h).below hb4
          · rw [List.mem_singleton.1 h]
            exact ⟨_, hox.out⟩
        exact (h1.below (bl_al _ (bl_refl w4))).grown (hown4.out.alloc _) hgrow
      clear hgrow hown hrd hox hown4
      replace hown2 := Lib.hid hown2
      replace hrd2 := Lib.hid hrd2
      go_wp2
      go_roundw
      case rel => exact ⟨k + 1, l2 ++ [⟨x.s, Ax, cx⟩], by omega, by go_num, by rw [List.map_append, hm2.out, List.take_add_one, hx.out]; simp, hb5, by rw [List.flatMap_append]; simpa using hown2.out, hrd2.out⟩
      case measure => simp [intOf]; omega
    · go_wp2
      go_ret
      obtain rfl : k = ll := by omega
      have e2 : l2.map (·.s) = l.map (·.s) := by rw [hm2.out, List.take_of_length_le (by rw [Hn.out]; exact Nat.le_refl _)]
      have e3 : l2.length = k := by
        have := congrArg List.length e2
        rw [List.length_map, List.length_map, Hn.out] at this
        exact this
      have ho := hown.out
      rcases ho.2 with ⟨ev, h0⟩ | ⟨g, cap, cur, ev, h1⟩
      · refine ⟨l2, none, ⟨0, by rw [ev, h0] <;> rfl⟩, e2, hb, ?_, fun y hy => (hrd.out y hy).sl⟩
        have : l2 = [] := List.eq_nil_of_length_eq_zero (by omega)
        rw [this]
        exact Sl.nil
      · refine ⟨l2, some ⟨g, 0, none⟩, ⟨cap, by rw [ev] <;> rfl⟩, e2, hb, ?_, fun y hy => (hrd.out y hy).sl⟩
        rw [ev, ← e3] at ho
        exact own_slC (cs := cSp) (fun _ => rfl) (by decide) ho
end Go.Proofs.YtephimmamkafoaaGreat
