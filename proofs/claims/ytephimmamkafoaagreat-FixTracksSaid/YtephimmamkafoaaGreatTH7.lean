/-
  Walks: the smoothed boxes by the reference.
-/
import Derived.Test.YtephimmamkafoaaGreatTH5
set_option linter.unusedSimpArgs false
set_option linter.unusedVariables false
namespace Go.Proofs.YtephimmamkafoaaGreat
open Go.RowKit Go.Shelf
attribute [local go_sem] bl_al bl_drew bl_drewN bl_refl bx_al bx_drew bx_drewN bx_refl
set_option maxRecDepth 20000
section
variable {P : Program} {α : Type} {cs : α → List Value} {w : World} {t e g size bytes : Nat} {i : TypeInfo} {z : Value} {A : Option Addr} {l : List α} {c : Nat} {b : α}
/-- 'append([]T{b}, l...)': a slice of the call's own. -/
theorem run_app1 (ty : TypeId) (ht : P.underlying t = some (.slice e)) (hi : P.info? e = some i) (hz : i.zero = some z) (hsize : i.size = size) (hby : i.bytes = bytes) (hzs : z.cells.size = size) (hsz : 0 < size)
    (hcs : ∀ x, (cs x).length = size) (hs : Sl cs size w A l) (hl : l.length ≤ 1000) (hb : bytes ≤ 1000) (hg : Blk w g e (cs b).toArray) :
    ∃ A2 c2 w', (Builtin.append_ #[t, t] ty #[.slice (some ⟨g, 0, none⟩) 1 1, .slice A l.length c]).run P w = .ok (.slice A2 (l.length + 1) c2) w' ∧ w'.ownsRow g e size (.slice A2 (l.length + 1) c2) (l.length + 1) ((b :: l).flatMap cs) ∧ Below w.heap.size w w' := by
  by_cases h0 : l = []
  · subst h0
    refine ⟨some ⟨g, 0, none⟩, 1, w, ?_, ⟨by simp [hcs], .inr ⟨g, 1, (cs b).toArray, rfl, Nat.le_refl _, hg, by simp, by unfold maxLen; omega, by simp [hcs], by simp [hcs, List.take_of_length_le]⟩⟩, bl_refl w⟩
    cases A with
    | none => simp [Builtin.append_, run_underlying ht, sizeOf, typeInfo, hi, Builtin.lenOf, Builtin.firstCells, storeCells, loadCells, loadCellsFrom]
    | some ad => simp [Builtin.append_, run_underlying ht, sizeOf, typeInfo, hi, Builtin.lenOf, Builtin.firstCells, storeCells, loadCells, loadCellsFrom]
  · obtain ⟨x, l', rfl⟩ : ∃ x l', l = x :: l' := by
      cases l with
      | nil => exact absurd rfl h0
      | cons x l' => exact ⟨x, l', rfl⟩
    obtain ⟨bb, off, hA, -⟩ := hs 0 x rfl
    subst hA
    have hbd : (1 + (x :: l').length) * bytes ≤ 140737488355328 := by
      have := Nat.mul_le_mul (show 1 + (x :: l').length ≤ 1001 by omega) hb
      omega
    obtain ⟨v', w', r1, r2, r3⟩ := run_append_arg_grows (P := P) w t ty e i z size bytes ht hi hz hsize hby hzs hsz ⟨g, 0, none⟩ 1 1 (cs b) (by rw [hcs, Nat.one_mul]) (fun j u hj => by
        have hadd : (⟨g, 0, none⟩ : Addr).add j = ⟨g, j, none⟩ := by unfold Addr.add; split <;> simp_all
        rw [hadd, hg.cell, List.getElem?_toArray]
        exact hj) ⟨bb, off, none⟩ (x :: l').length c ((x :: l').flatMap cs) (flat_len' hcs _)
      (fun j u hj => by
        obtain ⟨k, y, i', h2, h3, h4⟩ := flat_at hcs hj
        obtain ⟨b', off', e1, hc⟩ := hs k y h2
        injection e1 with e1
        injection e1 with e1 e2 _
        subst e1 e2
        have := hc i' u h3
        rw [h4]
        have hadd : (⟨bb, off, none⟩ : Addr).add (k * size + i') = ⟨bb, off + k * size + i', none⟩ := by unfold Addr.add; split <;> simp_all [Nat.add_assoc]
        rw [hadd]
        exact this) (by simp) (by unfold maxLen; omega) hbd
    have hw := hg.lt
    rw [Nat.add_comm] at r2
    rcases r2.2 with ⟨_, e0⟩ | ⟨g2, cap, cur, e1, e2, e3⟩
    · simp at e0
    · subst e1
      exact ⟨_, _, w', r1, own_mono (by omega) r2, ⟨r3.os, r3.tape, r3.output, r3.size, fun k hk => r3.block k hk (by simp)⟩⟩
theorem wp_app1 {o : Oper} {a : Act} {K : Act → World → Prop} {Q : Exit → Act → World → Prop} (s x : Operand) (ho : o.op = .call { callee := .builtin .append, args := #[s, x], argTypes := #[t, t] })
    (ht : P.underlying t = some (.slice e)) (hi : P.info? e = some i) (hz : i.zero = some z) (hsize : i.size = size) (hby : i.bytes = bytes) (hzs : z.cells.size = size) (hsz : 0 < size)
    (hcs : ∀ x, (cs x).length = size) (hs' : a.eval s = .slice (some ⟨g, 0, none⟩) 1 1) (hx : a.eval x = .slice A l.length c) (hs : Sl cs size w A l) (hl : l.length ≤ 1000) (hb : bytes ≤ 1000) (hg : Blk w g e (cs b).toArray)
    (h : ∀ A2 c2 w', w'.ownsRow g e size (.slice A2 (l.length + 1) c2) (l.length + 1) ((b :: l).flatMap cs) → Below w.heap.size w w' → K (a.put o.dst (.slice A2 (l.length + 1) c2)) w') : o.wp P a w K Q := by
  obtain ⟨A2, c2, w', hr, h2, h3⟩ := run_app1 (P := P) o.type ht hi hz hsize hby hzs hsz hcs hs hl hb hg (c := c)
  unfold Oper.wp execOp
  simp only [ho, resolve, invoke, builtin, Sem.run_bind, Sem.run_pure, Result.andThen_ok, List.map_toArray, List.map_cons, List.map_nil, hs', hx, hr]
  exact h _ _ _ h2 h3
end
set_option maxHeartbeats 8000000 in
theorem r_Smoothed (n : Nt) (b : Bx) (l : List StA) (A A' : Option Addr) (c c' : Nat) (w : World) (hn : NtIn n A c w) (hl : StsIn l A' w) (hll : few1 l) (h0 : trackE n b (l.map (·.s)) = 0) :
    Calls Tryz.prog 23 #[vNt n.world (.slice A n.bs.length c), vBx b, .slice A' l.length c'] w (fun e w' => ∃ A2 c2, e = .returned (.slice A2 (l.length + 1) c2) ∧ Below w.heap.size w w' ∧ Sl cBox 6 w' A2 (smo n b (l.map (·.s)))) := by
  obtain ⟨i0, hi0, hy0, hy1, hy2⟩ := info_parts infoBx
  have htr := Lib.hid fun (W : World) (hb : Below w.heap.size w W) => r_Track n b l A A' c c' W (hn.below hb) (hl.below hb) hll h0
  have Hat := Lib.hid (smo_facts h0)
  have Hlen : Hid ((smo n b (l.map (·.s))).length = l.length + 1) := by rw [smo_len, List.length_map]; exact Lib.hid rfl
  have Htl : Hid ((trk n b (l.map (·.s))).length = l.length) := by rw [trk_len, List.length_map]; exact Lib.hid rfl
  have Hmx : Hid (Mix (b :: trk n b (l.map (·.s))) (smo n b (l.map (·.s))) (b :: trk n b (l.map (·.s))) l.length) := by have := Mix.start (n := n) (b := b) (l := l.map (·.s)); rw [List.length_map] at this; exact Lib.hid this
  have hl1 := hll.1
  have Hl := Lib.hid hl.sl
  clear hn hl hll h0
  generalize trk n b (l.map (·.s)) = TR at *
  generalize smo n b (l.map (·.s)) = SM at *
  generalize n.bs.length = nl at *
  obtain ⟨ll, Hn⟩ : ∃ k, Hid (l.length = k) := ⟨_, rfl⟩
  rw [Hn.out] at hl1 Hlen Htl Hmx htr ⊢
  go_enter Tryz.func23, Tryz.ntmps23
  go_upto_region 1 with fail
  apply absB2 (w0 := w) (g0 := w.heap.size) (g1 := w.heap.size + 1)
  iterate 3 (focus ((with_reducible (repeat' (first | assumption | apply jA | apply jB | apply jC | apply jD | apply jE | apply jF | apply hb3 | apply jG | apply jH | apply jI | apply jJ | apply jK | apply hb3x | (apply jL; first | (simp; done) | rfl) | apply jM | apply jN | apply jO | apply jP | apply jQ | apply jR | apply jS | apply jT (hb := hb3 _ (jA _)) | omega | (simp; done) | (simp; omega) | (dsimp only; omega)))); done))
  intro wa hb0' k0' k1'
  (try simp only [List.setIfInBounds_toArray, List.set_cons_zero, List.set_cons_succ] at k0' k1')
  try clear hb3
  try clear hb0
  try clear k0
  try clear k1
  have hb0 := hb0'; clear hb0'
  have k0 := k0'; clear k0'
  have k1 := k1'; clear k1'
  have Lk0 := k0.later
  have Fk0 := k0.laterF
  have Qk0 := k0.lt
  have Lk1 := k1.later
  have Fk1 := k1.laterF
  have Qk1 := k1.lt
  refine wp_any (w0 := wa) ⟨[], [], [some 9, some 10, some 11, some 12, some 13, some 14, some 15, some 7], [[], [0], [], [], [], [2, 3, 4], [0, 1, 2, 3, 4, 5], [0, 1, 2, 3, 4, 5, 6]], [[], [0], [], [], [], [2, 3, 4], [1, 5], [1, 5, 6]]⟩ (fun _ => []) (by kernel_rfl) (by kernel_rfl) (by (with_reducible (repeat' (first | assumption | apply jA | apply jB | apply jC | apply jD | apply jE | apply jF | apply hb3 | omega | (simp; done) | (simp; omega) | (dsimp only; omega))))) (fun u => by simp only [putD, Act.put, List.setIfInBounds_toArray, List.set_cons_zero, List.set_cons_succ, Nat.zero_add, Nat.reduceAdd]; rfl) ?_
  apply RGW.on (i := 0) rfl
  · (simp only [gA, gB, gC] <;> rfl)
  · intro γ u W hcur hd
    clear hd
    (try dsimp only)
    refine ⟨rfl, ?_⟩
    go_simp <;> (try go_bits) <;> with_reducible rfl
  · exact fun _ _ _ => rfl
  · rfl
  dsimp only [nA, cA]
  apply RGW.bslice (i := 1) rfl
  · (simp only [gA, gB, gC] <;> rfl)
  · intro γ u W hcur hd
    obtain ⟨⟨h0, -, -⟩, -⟩ := hd
    dsimp only at h0
    (try simp only [h0])
    refine ⟨rfl, fun K hK => ?_⟩
    go_simp
    exact hK.out _ _ rfl rfl
  · exact fun _ _ _ => rfl
  · rfl
  · rfl
  dsimp only [nA, cA]
  apply RGW.on (i := 2) rfl
  · (simp only [gA, gB, gC] <;> rfl)
  · intro γ u W hcur hd
    clear hd
    (try dsimp only)
    refine ⟨rfl, ?_⟩
    go_simp <;> (try go_bits) <;> with_reducible rfl
  · exact fun _ _ _ => rfl
  · rfl
  dsimp only [nA, cA]
  apply RGW.on (i := 3) rfl
  · (simp only [gA, gB, gC] <;> rfl)
  · intro γ u W hcur hd
    clear hd
    (try dsimp only)
    refine ⟨rfl, ?_⟩
    go_simp <;> (try go_bits) <;> with_reducible rfl
  · exact fun _ _ _ => rfl
  · rfl
  dsimp only [nA, cA]
  apply RGW.on (i := 4) rfl
  · (simp only [gA, gB, gC] <;> rfl)
  · intro γ u W hcur hd
    clear hd
    (try dsimp only)
    refine ⟨rfl, ?_⟩
    go_simp <;> (try go_bits) <;> with_reducible rfl
  · exact fun _ _ _ => rfl
  · rfl
  dsimp only [nA, cA]
  apply RGW.gh (⟨fun γ => .slice (γ 5).A ll (γ 5).c, fun γ W => Sl cBox 6 W (γ 5).A TR, fun _ => []⟩) (i := 5) rfl
  · (simp only [gA, gB, gC] <;> rfl)
  · intro γ u W hcur hd
    obtain ⟨⟨h2, -, -⟩, ⟨h3, -, -⟩, ⟨h4, -, -⟩, -⟩ := hd
    dsimp only at h2 h3 h4
    (try simp only [h2, h3, h4])
    refine ⟨rfl, fun K hK => ?_⟩
    go_simp
    (go_at_call 22; (with_reducible refine (htr.out _ (bl_tr hb0 (by (with_reducible (repeat' (first | assumption | apply jA | apply jB | apply jC | apply jD | apply jE | apply jF | apply hb3 | omega | (simp; done) | (simp; omega) | (dsimp only; omega))))))).mono ?_); rintro e w3 ⟨Ax, cx, rfl, hb3, hox⟩; dsimp only; exact hK.out ⟨0, undef, Ax, cx⟩ _ _ (by simp [up]) hb3 (by rw [← Htl.out] at hox; simpa [up] using own_slC (cs := cBox) (fun _ => rfl) (by decide) hox) (by simp))
  · intro γ γ' hg
    try dsimp only
    have e5 := hg 5 (by decide)
    simp only [e5]
    try exact ⟨trivial, fun _ h => h⟩
  · intro γ W W' hbl hR
    first | exact hR.below hbl | exact own_below hR hbl | exact trivial | exact ⟨hR.1.below hbl, hR.2⟩
  · rfl
  dsimp only [nA, cA]
  apply RGW.gh (⟨fun γ => .slice (γ 6).A (ll + 1) (γ 6).c, fun γ W => W.ownsRow (w.heap.size + 2) 25 6 (.slice (γ 6).A (ll + 1) (γ 6).c) (ll + 1) ((b :: TR).flatMap cBox), fun _ => []⟩) (i := 6) rfl
  · (simp only [gA, gB, gC] <;> rfl)
  · intro γ u W hcur hd
    obtain ⟨⟨h1, r1, b1⟩, ⟨h5, r5, b5⟩, -⟩ := hd
    dsimp only at h1 h5 r1 r5 b1 b5
    have L1 := r1.cell
    (try simp only [h1, h5])
    refine ⟨rfl, fun K hK => ?_⟩
    (refine wp_app1 (cs := cBox) (b := b) _ _ rfl Tryz.underlying53 hi0 hy0 hy1 hy2 rfl (by decide) (fun _ => rfl) rfl (by rw [Htl.out]; rfl) r5 (by rw [Htl.out]; exact hl1) (by decide) r1 ?_; rw [Htl.out]; intro A2 c2 w4 hox hb4; exact hK.out ⟨0, undef, A2, c2⟩ _ _ (by simp [up]) hb4 (by simpa [up] using own_mono (Nat.le_trans Qk1 (b1 _ (List.mem_singleton.2 rfl)).1) hox) (by simp))
  · intro γ γ' hg
    try dsimp only
    have e1 := hg 1 (by decide)
    have e5 := hg 5 (by decide)
    have e6 := hg 6 (by decide)
    simp only [e1, e5, e6]
    try exact ⟨trivial, fun _ h => h⟩
  · intro γ W W' hbl hR
    first | exact hR.below hbl | exact own_below hR hbl | exact trivial | exact ⟨hR.1.below hbl, hR.2⟩
  · rfl
  dsimp only [nA, cA]
  apply RGW.on (i := 7) rfl
  · (simp only [gA, gB, gC] <;> rfl)
  · intro γ u W hcur hd
    obtain ⟨⟨h1, r1, -⟩, ⟨h5, r5, -⟩, ⟨h6, r6, -⟩, -⟩ := hd
    dsimp only at h1 h5 h6 r1 r5 r6
    have L1 := r1.cell
    (try simp only [h1, h5, h6])
    refine ⟨rfl, ?_⟩
    go_simp <;> (try go_bits) <;> with_reducible rfl
  · intro γ γ' hg
    try dsimp only
    have e1 := hg 1 (by decide)
    have e5 := hg 5 (by decide)
    have e6 := hg 6 (by decide)
    simp only [e1, e5, e6]
  · rfl
  dsimp only [nA, cA]
  refine RGW.fin (fun γ u wb hwb hd hdis => ?_)
  obtain ⟨⟨h0, -, -⟩, ⟨h1, r1, b1⟩, ⟨h2, -, -⟩, ⟨h3, -, -⟩, ⟨h4, -, -⟩, ⟨h5, r5, b5⟩, ⟨h6, r6, b6⟩, ⟨h7, -, -⟩, -⟩ := hd
  dsimp only at h0 h1 h2 h3 h4 h5 h6 h7 r1 r5 r6 b1 b5 b6
  clear hdis
  simp only [h0, h1, h2, h3, h4, h5, h6, h7]
  clear h7 h6 h5 h4 h3 h2 h1 h0
  replace b1 := b1 _ (List.mem_singleton.2 rfl)
  generalize hγ1 : (γ 1).n = g1 at *
  clear hγ1
  clear u
  simp only [List.map_nil]
  refine PlanW.done ?_
  have hb3 := bl_tt hwb
  have hox := Lib.hid r6
  clear r5 r6
  generalize (γ 6).A = A2 at *
  generalize (γ 6).c = c2 at *
  have hBl : (b :: TR).length = ll + 1 := by rw [List.length_cons, Htl.out]
  obtain ⟨g, cap, ev⟩ := ownsRow_succ hox.out
  injection ev with e1 _ e2
  subst e1 e2
  obtain ⟨cur, kg, hgb, hrows⟩ := own_blk (m := b :: TR) (by omega) hBl.symm hox.out
  clear hox htr Htl
  generalize b :: TR = BT at *
  apply absTB2 (w0 := w) (g0 := w.heap.size) (g1 := g)
  iterate 3 (focus ((with_reducible (repeat' (first | assumption | apply jA | apply jB | apply jC | apply jD | apply jE | apply jF | apply hb3 | apply jG | apply jH | apply jI | apply jJ | apply jK | apply hb3x | (apply jL; first | (simp; done) | rfl) | apply jM | apply jN | apply jO | apply jP | apply jQ | apply jR | apply jS | apply jT (hb := hb3 _ (jA _)) | omega | (simp; done) | (simp; omega) | (dsimp only; omega)))); done))
  intro wc hb0' k0' kg'
  (try simp only [List.setIfInBounds_toArray, List.set_cons_zero, List.set_cons_succ] at k0' kg')
  try clear hb3
  try clear hb0
  try clear k0
  try clear kg
  have hb0 := hb0'; clear hb0'
  have k0 := k0'; clear k0'
  have kg := kg'; clear kg'
  have Lk0 := k0.later
  have Fk0 := k0.laterF
  have Qk0 := k0.lt
  have Lkg := kg.later
  have Fkg := kg.laterF
  have Qkg := kg.lt
  go_wp2
  go_loopw [8] (fun i wr => ∃ (k : Nat) (cur : Array Value) (m : List Bx), k ≤ ll ∧ i = .int .i64 ((k : Int) - 1) ∧ Below w.heap.size w wr ∧ Blk wr w.heap.size 28 (aNt n.world (.slice A nl c)) ∧ Blk wr g 25 cur ∧ BRows cur m ∧ Mix BT SM m k) (fun i _ => (intOf i + 1).toNat)
  case atStart => exact ⟨ll, cur, BT, Nat.le_refl _, by go_num, hb0, k0, kg, hrows, Hmx.out⟩
  case round =>
    clear k0 kg hb0 hrows Hmx
    obtain ⟨k, cur, m, hk, rfl, hb0, k0, kg, hrows, hmx⟩ := hrel
    replace hrows := Lib.hid hrows
    replace hmx := Lib.hid hmx
    have Lk0 := k0.later
    have Fk0 := k0.laterF
    have Qk0 := k0.lt
    cases k with
    | zero =>
      have e := hmx.out.fin
      go_wp2
      go_ret
      exact ⟨some ⟨g, 0, none⟩, c2, rfl, hb0, by rw [← e]; exact hrows.out.sl kg⟩
    | succ k =>
      have hx : l[k]? = some (l[k]'(by have := Hn.out; omega)) := List.getElem?_eq_getElem _
      generalize l[k]'(by have := Hn.out; omega) = x at hx
      have hq : m[k]? = some (m[k]'(by rw [hmx.out.len]; omega)) := List.getElem?_eq_getElem _
      generalize m[k]'(by rw [hmx.out.len]; omega) = q at hq
      have hd : m[k + 1]? = some (m[k + 1]'(by rw [hmx.out.len]; omega)) := List.getElem?_eq_getElem _
      generalize m[k + 1]'(by rw [hmx.out.len]; omega) = d at hd
      obtain ⟨f1, f2, f3, f4, f5⟩ := Hat.out k x q d hx (by rw [← hmx.out.lo k (by omega)]; exact hq) (by rw [← hmx.out.hi (k + 1) (by omega)]; exact hd)
      have hca := Lib.hid fun (W : World) => r_CarriedBack n.world d x.s.mv (.slice A nl c) W f1 f2
      have hm2 : Hid (Mix BT SM (m.set k (q.meet (back n.world d x.s.mv))) k) := Lib.hid (hmx.out.step f5 (by rw [hBl]; omega))
      have hr2 : Hid (BRows (put6 cur k (q.meet (back n.world d x.s.mv))) (m.set k (q.meet (back n.world d x.s.mv)))) := Lib.hid (put6_rows hrows.out (by rw [hmx.out.len, hBl]; omega))
      have hcm := Lib.hid fun (W : World) => r_Common q (back n.world d x.s.mv) W
      have hqr := Lib.hid (hrows.out k q hq)
      have hdr := Lib.hid (hrows.out (k + 1) d hd)
      obtain ⟨bb, off, hA, hc⟩ := Hl.out k x hx
      replace hc := Lib.hid hc
      have ek : ((k + 1 : Nat) : Int) - 1 = (k : Int) := by omega
      rw [ek]
      have ek1 : (0 : Int) ≤ (k : Int) + 1 ∧ (k : Int) + 1 < (ll : Int) + 1 := by omega
      have ek0 : (k : Int) < (ll : Int) + 1 := by omega
      have ek2 : k < ll := by omega
      have hgw : g < wr.heap.size := kg.lt
      replace hx := Lib.hid hx
      replace hq := Lib.hid hq
      replace hd := Lib.hid hd
      clear ek f1 f2 f3 f4 f5 hmx hrows
      generalize back n.world d x.s.mv = e at *
      obtain ⟨f, hf⟩ : ∃ f, q.meet e = f := ⟨_, rfl⟩
      rw [hf] at hcm hm2 hr2
      clear hf
      subst hA
      have hbw := hb0
      clear hb0
      have hb0 := bl_refl wr
      have Fkg := kg.laterF
      have c0 : ∀ W, Below _ _ W → W.cell? ⟨bb, off + k * 9, none⟩ = some (.int .i64 x.s.mv.ticks) := later (kcell hbw (hc.out 0 _ rfl))
      have c1 : ∀ W, Below _ _ W → W.cell? ⟨bb, off + k * 9 + 1, none⟩ = some (.int .i64 x.s.mv.speed.x.lo) := later (kcell hbw (hc.out 1 _ rfl))
      have c2 : ∀ W, Below _ _ W → W.cell? ⟨bb, off + k * 9 + 2, none⟩ = some (.int .i64 x.s.mv.speed.x.hi) := later (kcell hbw (hc.out 2 _ rfl))
      have c3 : ∀ W, Below _ _ W → W.cell? ⟨bb, off + k * 9 + 3, none⟩ = some (.int .i64 x.s.mv.speed.y.lo) := later (kcell hbw (hc.out 3 _ rfl))
      have c4 : ∀ W, Below _ _ W → W.cell? ⟨bb, off + k * 9 + 4, none⟩ = some (.int .i64 x.s.mv.speed.y.hi) := later (kcell hbw (hc.out 4 _ rfl))
      have c5 : ∀ W, Below _ _ W → W.cell? ⟨bb, off + k * 9 + 5, none⟩ = some (.int .i64 x.s.mv.speed.z.lo) := later (kcell hbw (hc.out 5 _ rfl))
      have c6 : ∀ W, Below _ _ W → W.cell? ⟨bb, off + k * 9 + 6, none⟩ = some (.int .i64 x.s.mv.speed.z.hi) := later (kcell hbw (hc.out 6 _ rfl))
      have d0 : ∀ W, Below _ _ W → W.cell? ⟨g, (k + 1) * 6, none⟩ = some (.int .i64 d.x.lo) := later ((kg.cell _).trans (hdr.out 0 _ rfl))
      have d1 : ∀ W, Below _ _ W → W.cell? ⟨g, (k + 1) * 6 + 1, none⟩ = some (.int .i64 d.x.hi) := later ((kg.cell _).trans (hdr.out 1 _ rfl))
      have d2 : ∀ W, Below _ _ W → W.cell? ⟨g, (k + 1) * 6 + 2, none⟩ = some (.int .i64 d.y.lo) := later ((kg.cell _).trans (hdr.out 2 _ rfl))
      have d3 : ∀ W, Below _ _ W → W.cell? ⟨g, (k + 1) * 6 + 3, none⟩ = some (.int .i64 d.y.hi) := later ((kg.cell _).trans (hdr.out 3 _ rfl))
      have d4 : ∀ W, Below _ _ W → W.cell? ⟨g, (k + 1) * 6 + 4, none⟩ = some (.int .i64 d.z.lo) := later ((kg.cell _).trans (hdr.out 4 _ rfl))
      have d5 : ∀ W, Below _ _ W → W.cell? ⟨g, (k + 1) * 6 + 5, none⟩ = some (.int .i64 d.z.hi) := later ((kg.cell _).trans (hdr.out 5 _ rfl))
      have q0 : ∀ W, Below _ _ W → W.cell? ⟨g, k * 6, none⟩ = some (.int .i64 q.x.lo) := later ((kg.cell _).trans (hqr.out 0 _ rfl))
      have q1 : ∀ W, Below _ _ W → W.cell? ⟨g, k * 6 + 1, none⟩ = some (.int .i64 q.x.hi) := later ((kg.cell _).trans (hqr.out 1 _ rfl))
      have q2 : ∀ W, Below _ _ W → W.cell? ⟨g, k * 6 + 2, none⟩ = some (.int .i64 q.y.lo) := later ((kg.cell _).trans (hqr.out 2 _ rfl))
      have q3 : ∀ W, Below _ _ W → W.cell? ⟨g, k * 6 + 3, none⟩ = some (.int .i64 q.y.hi) := later ((kg.cell _).trans (hqr.out 3 _ rfl))
      have q4 : ∀ W, Below _ _ W → W.cell? ⟨g, k * 6 + 4, none⟩ = some (.int .i64 q.z.lo) := later ((kg.cell _).trans (hqr.out 4 _ rfl))
      have q5 : ∀ W, Below _ _ W → W.cell? ⟨g, k * 6 + 5, none⟩ = some (.int .i64 q.z.hi) := later ((kg.cell _).trans (hqr.out 5 _ rfl))
      go_upto_region 5 with fail
      refine wp_any (w0 := wr) ⟨[20], [], [some 23, some 24, some 25, some 26, some 27, some 28, some 29, some 30, some 31, some 32, some 33, some 34, some 35, some 36, some 37, some 38, some 39, some 40, some 41, some 42, none], [[], [], [], [], [2, 3], [2, 3, 4], [], [], [], [8], [7, 8, 9], [7, 8, 9, 10], [], [], [12, 13], [12, 13, 14], [12, 13, 14, 15], [6, 7, 8, 9, 10, 11, 12, 13, 14, 15, 16], [2, 3, 4, 5, 6, 7, 8, 9, 10, 11, 12, 13, 14, 15, 16, 17], [0, 1, 2, 3, 4, 5, 6, 7, 8, 9, 10, 11, 12, 13, 14, 15, 16, 17, 18], [0, 1, 2, 3, 4, 5, 6, 7, 8, 9, 10, 11, 12, 13, 14, 15, 16, 17, 18, 19]], [[], [], [], [], [2, 3], [4], [], [], [], [8], [7, 9], [10], [], [], [12, 13], [14], [15], [6, 11, 16], [5, 17], [0, 1], []]⟩ (fun _ => [g]) (by kernel_rfl) (by kernel_rfl) (by (with_reducible (repeat' (first | assumption | apply jA | apply jB | apply jC | apply jD | apply jE | apply jF | apply hb3 | omega | (simp; done) | (simp; omega) | (dsimp only; omega))))) (fun u => by simp only [putD, Act.put, List.setIfInBounds_toArray, List.set_cons_zero, List.set_cons_succ, Nat.zero_add, Nat.reduceAdd]; rfl) ?_
      apply RGW.on (i := 0) rfl
      · (simp only [gA, gB, gC] <;> rfl)
      · intro γ u W hcur hd
        clear hd
        (try dsimp only)
        refine ⟨rfl, ?_⟩
        go_simp <;> (try go_bits) <;> with_reducible rfl
      · exact fun _ _ _ => rfl
      · rfl
      dsimp only [nA, cA]
      apply RGW.on (i := 1) rfl
      · (simp only [gA, gB, gC] <;> rfl)
      · intro γ u W hcur hd
        clear hd
        (try dsimp only)
        refine ⟨rfl, ?_⟩
        go_simp <;> (try go_bits) <;> with_reducible rfl
      · exact fun _ _ _ => rfl
      · rfl
      dsimp only [nA, cA]
      apply RGW.on (i := 2) rfl
      · (simp only [gA, gB, gC] <;> rfl)
      · intro γ u W hcur hd
        clear hd
        (try dsimp only)
        refine ⟨rfl, ?_⟩
        go_simp <;> (try go_bits) <;> with_reducible rfl
      · exact fun _ _ _ => rfl
      · rfl
      dsimp only [nA, cA]
      apply RGW.on (i := 3) rfl
      · (simp only [gA, gB, gC] <;> rfl)
      · intro γ u W hcur hd
        clear hd
        (try dsimp only)
        refine ⟨rfl, ?_⟩
        go_simp <;> (try go_bits) <;> with_reducible rfl
      · exact fun _ _ _ => rfl
      · rfl
      dsimp only [nA, cA]
      apply RGW.on (i := 4) rfl
      · (simp only [gA, gB, gC] <;> rfl)
      · intro γ u W hcur hd
        obtain ⟨⟨h2, -, -⟩, ⟨h3, -, -⟩, -⟩ := hd
        dsimp only at h2 h3
        (try simp only [h2, h3])
        refine ⟨rfl, ?_⟩
        go_simp <;> (try go_bits) <;> with_reducible rfl
      · exact fun _ _ _ => rfl
      · rfl
      dsimp only [nA, cA]
      apply RGW.on (i := 5) rfl
      · (simp only [gA, gB, gC] <;> rfl)
      · intro γ u W hcur hd
        obtain ⟨⟨h4, -, -⟩, -⟩ := hd
        dsimp only at h4
        (try simp only [h4])
        refine ⟨rfl, ?_⟩
        go_simp <;> (try go_bits) <;> with_reducible rfl
      · exact fun _ _ _ => rfl
      · rfl
      dsimp only [nA, cA]
      apply RGW.on (i := 6) rfl
      · (simp only [gA, gB, gC] <;> rfl)
      · intro γ u W hcur hd
        clear hd
        (try dsimp only)
        refine ⟨rfl, ?_⟩
        go_simp <;> (try go_bits) <;> with_reducible rfl
      · exact fun _ _ _ => rfl
      · rfl
      dsimp only [nA, cA]
      apply RGW.on (i := 7) rfl
      · (simp only [gA, gB, gC] <;> rfl)
      · intro γ u W hcur hd
        clear hd
        (try dsimp only)
        refine ⟨rfl, ?_⟩
        go_simp <;> (try go_bits) <;> with_reducible rfl
      · exact fun _ _ _ => rfl
      · rfl
      dsimp only [nA, cA]
      apply RGW.on (i := 8) rfl
      · (simp only [gA, gB, gC] <;> rfl)
      · intro γ u W hcur hd
        clear hd
        (try dsimp only)
        refine ⟨rfl, ?_⟩
        go_simp <;> (try go_bits) <;> with_reducible rfl
      · exact fun _ _ _ => rfl
      · rfl
      dsimp only [nA, cA]
      apply RGW.on (i := 9) rfl
      · (simp only [gA, gB, gC] <;> rfl)
      · intro γ u W hcur hd
        obtain ⟨⟨h8, -, -⟩, -⟩ := hd
        dsimp only at h8
        (try simp only [h8])
        refine ⟨rfl, ?_⟩
        go_simp <;> (try go_bits) <;> with_reducible rfl
      · exact fun _ _ _ => rfl
      · rfl
      dsimp only [nA, cA]
      apply RGW.on (i := 10) rfl
      · (simp only [gA, gB, gC] <;> rfl)
      · intro γ u W hcur hd
        obtain ⟨⟨h7, -, -⟩, ⟨h9, -, -⟩, -⟩ := hd
        dsimp only at h7 h9
        (try simp only [h7, h9])
        refine ⟨rfl, ?_⟩
        go_simp <;> (try go_bits) <;> with_reducible rfl
      · exact fun _ _ _ => rfl
      · rfl
      dsimp only [nA, cA]
      apply RGW.on (i := 11) rfl
      · (simp only [gA, gB, gC] <;> rfl)
      · intro γ u W hcur hd
        obtain ⟨⟨h10, -, -⟩, -⟩ := hd
        dsimp only at h10
        (try simp only [h10])
        refine ⟨rfl, ?_⟩
        go_simp <;> (try go_bits) <;> with_reducible rfl
      · exact fun _ _ _ => rfl
      · rfl
      dsimp only [nA, cA]
      apply RGW.on (i := 12) rfl
      · (simp only [gA, gB, gC] <;> rfl)
      · intro γ u W hcur hd
        clear hd
        (try dsimp only)
        refine ⟨rfl, ?_⟩
        go_simp <;> (try go_bits) <;> with_reducible rfl
      · exact fun _ _ _ => rfl
      · rfl
      dsimp only [nA, cA]
      apply RGW.on (i := 13) rfl
      · (simp only [gA, gB, gC] <;> rfl)
      · intro γ u W hcur hd
        clear hd
        (try dsimp only)
        refine ⟨rfl, ?_⟩
        go_simp <;> (try go_bits) <;> with_reducible rfl
      · exact fun _ _ _ => rfl
      · rfl
      dsimp only [nA, cA]
      apply RGW.on (i := 14) rfl
      · (simp only [gA, gB, gC] <;> rfl)
      · intro γ u W hcur hd
        obtain ⟨⟨h12, -, -⟩, ⟨h13, -, -⟩, -⟩ := hd
        dsimp only at h12 h13
        (try simp only [h12, h13])
        refine ⟨rfl, ?_⟩
        go_simp <;> (try go_bits) <;> with_reducible rfl
      · exact fun _ _ _ => rfl
      · rfl
      dsimp only [nA, cA]
      apply RGW.on (i := 15) rfl
      · (simp only [gA, gB, gC] <;> rfl)
      · intro γ u W hcur hd
        obtain ⟨⟨h14, -, -⟩, -⟩ := hd
        dsimp only at h14
        (try simp only [h14])
        refine ⟨rfl, ?_⟩
        go_simp <;> (try go_bits) <;> with_reducible rfl
      · exact fun _ _ _ => rfl
      · rfl
      dsimp only [nA, cA]
      apply RGW.on (i := 16) rfl
      · (simp only [gA, gB, gC] <;> rfl)
      · intro γ u W hcur hd
        obtain ⟨⟨h15, -, -⟩, -⟩ := hd
        dsimp only at h15
        (try simp only [h15])
        refine ⟨rfl, ?_⟩
        go_simp <;> (try go_bits) <;> with_reducible rfl
      · exact fun _ _ _ => rfl
      · rfl
      dsimp only [nA, cA]
      apply RGW.call (i := 17) rfl
      · (simp only [gA, gB, gC] <;> rfl)
      · intro γ u W hcur hd
        obtain ⟨⟨h6, -, -⟩, ⟨h11, -, -⟩, ⟨h16, -, -⟩, -⟩ := hd
        dsimp only at h6 h11 h16
        (try simp only [h6, h11, h16])
        refine ⟨rfl, fun K hK => ?_⟩
        go_simp
        (go_at_call 68; (with_reducible refine (hca.out _).mono ?_); rintro e w3 ⟨rfl, hb3⟩; replace hb3 := bl_tt hb3)
        (try dsimp only)
        exact hK.out _ _ rfl (by (with_reducible (repeat' (first | assumption | apply jA | apply jB | apply jC | apply jD | apply jE | apply jF | apply hb3 | omega | (simp; done) | (simp; omega) | (dsimp only; omega)))))
      · exact fun _ _ _ => rfl
      · rfl
      dsimp only [nA, cA]
      apply RGW.call (i := 18) rfl
      · (simp only [gA, gB, gC] <;> rfl)
      · intro γ u W hcur hd
        obtain ⟨⟨h5, -, -⟩, ⟨h17, -, -⟩, -⟩ := hd
        dsimp only at h5 h17
        (try simp only [h5, h17])
        refine ⟨rfl, fun K hK => ?_⟩
        go_simp
        (go_at_call 30; (with_reducible refine (hcm.out _).mono ?_); rintro e w3 ⟨rfl, hb3⟩; replace hb3 := bl_tt hb3)
        (try dsimp only)
        exact hK.out _ _ rfl (by (with_reducible (repeat' (first | assumption | apply jA | apply jB | apply jC | apply jD | apply jE | apply jF | apply hb3 | omega | (simp; done) | (simp; omega) | (dsimp only; omega)))))
      · exact fun _ _ _ => rfl
      · rfl
      dsimp only [nA, cA]
      apply RGW.on (i := 19) rfl
      · (simp only [gA, gB, gC] <;> rfl)
      · intro γ u W hcur hd
        obtain ⟨⟨h0, -, -⟩, ⟨h1, -, -⟩, -⟩ := hd
        dsimp only at h0 h1
        (try simp only [h0, h1])
        refine ⟨rfl, ?_⟩
        go_simp <;> (try go_bits) <;> with_reducible rfl
      · exact fun _ _ _ => rfl
      · rfl
      dsimp only [nA, cA]
      refine RGW.skip (i := 20) rfl rfl ?_
      dsimp only [nA, cA]
      refine RGW.fin (fun γ u we hwe hd hdis => ?_)
      obtain ⟨⟨h0, -, -⟩, ⟨h1, -, -⟩, ⟨h2, -, -⟩, ⟨h3, -, -⟩, ⟨h4, -, -⟩, ⟨h5, -, -⟩, ⟨h6, -, -⟩, ⟨h7, -, -⟩, ⟨h8, -, -⟩, ⟨h9, -, -⟩, ⟨h10, -, -⟩, ⟨h11, -, -⟩, ⟨h12, -, -⟩, ⟨h13, -, -⟩, ⟨h14, -, -⟩, ⟨h15, -, -⟩, ⟨h16, -, -⟩, ⟨h17, -, -⟩, ⟨h18, -, -⟩, ⟨h19, -, -⟩, -⟩ := hd
      dsimp only at h0 h1 h2 h3 h4 h5 h6 h7 h8 h9 h10 h11 h12 h13 h14 h15 h16 h17 h18 h19
      clear hdis
      simp only [h0, h1, h2, h3, h4, h5, h6, h7, h8, h9, h10, h11, h12, h13, h14, h15, h16, h17, h18, h19]
      clear h19 h18 h17 h16 h15 h14 h13 h12 h11 h10 h9 h8 h7 h6 h5 h4 h3 h2 h1 h0
      clear u
      simp only [List.map_cons, List.map_nil]
      apply PlanW.step
      · (simp only [gA, gB, gC] <;> rfl)
      · rfl
      intro K hK
      go_simp
      refine hK.out _ _ (by (with_reducible (repeat' (first | assumption | apply jG | apply jH | apply jI | apply jJ | apply jK | apply hb3x | omega | (simp; done) | (simp; omega) | (dsimp only; omega))))) (fun hcur => ?_)
      clear hK K
      try simp only [Act.put, List.setIfInBounds_toArray, List.set_cons_zero, List.set_cons_succ]
      refine PlanW.done ?_
      have hb3 := bl_tt hwe
      clear c0 c1 c2 c3 c4 c5 c6
      clear d0 d1 d2 d3 d4 d5
      clear q0 q1 q2 q3 q4 q5
      have hbe := bx_below (bl_tr hbw hwe) hcur (by simp; omega)
      have k0' := (k0.below hwe).keep (by simp; omega) hcur
      have kg' := Blk.put (k := k) (b := f) (kg.below hwe)
      clear Lk0 Fk0 Fkg
      go_wp2
      go_roundw
      case rel => exact ⟨k, _, _, by omega, by go_num, hbe, k0', kg', hr2.out, hm2.out⟩
      case measure => simp [intOf] <;> omega
end Go.Proofs.YtephimmamkafoaaGreat
