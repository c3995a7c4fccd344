/-
  Walks: copies of nets, readings and votes.
  Walk: whether two lists of numbers are equal.
  Walks: the document's examples.
  How the laws' arguments read: nets, boxes, readings, positions.
  Walks: the reference's small functions: ranges, boxes, what two boxes have in common, division, the depth.
  Walks: the reference's division, the depth and its errors, the error of a move.
-/
import Derived.Test.YtephimmamkafoaaGreatU10
import Derived.Test.YtephimmamkafoaaGreatU4
import Derived.Test.YtephimmamkafoaaGreatU11
import Derived.ArgAppend
import Derived.Laws.OwnMore
import Derived.Test.YtephimmamkafoaaGreatU3
import Derived.Test.YtephimmamkafoaaGreatU12
import Derived.Test.YtephimmamkafoaaGreatRows
import Derived.Test.YtephimmamkafoaaGreatU8
import Derived.ProofKit
import Derived.Deep.Slices
import Derived.OpenShut
import Derived.ChangeOld
import Derived.Test.YtephimmamkafoaaGreatU6
set_option linter.unusedSimpArgs false
set_option linter.unusedVariables false
namespace Go.Proofs.YtephimmamkafoaaGreat
open Go.RowKit Go.Shelf
attribute [local go_sem] bl_al bl_drew bl_drewN bl_refl bx_al bx_drew bx_drewN bx_refl
set_option maxRecDepth 20000
theorem flat_at {α : Type} {cs : α → List Value} {sz : Nat} (hcs : ∀ x, (cs x).length = sz) : ∀ {l : List α} {j : Nat} {u : Value}, (l.flatMap cs)[j]? = some u → ∃ k x i, l[k]? = some x ∧ (cs x)[i]? = some u ∧ j = k * sz + i
  | [], j, u, h => by simp at h
  | y :: l, j, u, h => by
    rw [List.flatMap_cons, List.getElem?_append] at h
    by_cases hj : j < (cs y).length
    · rw [if_pos hj] at h
      exact ⟨0, y, j, rfl, h, by simp⟩
    · rw [if_neg hj] at h
      obtain ⟨k, x, i, h1, h2, h3⟩ := flat_at hcs h
      refine ⟨k + 1, x, i, by simpa using h1, h2, ?_⟩
      rw [hcs] at h3 hj
      rw [Nat.add_mul]
      omega
theorem flat_len' {α : Type} {cs : α → List Value} {sz : Nat} (hcs : ∀ x, (cs x).length = sz) (l : List α) : (l.flatMap cs).length = l.length * sz := flat_len cs sz hcs l
theorem flat_get {α : Type} {cs : α → List Value} {sz : Nat} (hcs : ∀ x, (cs x).length = sz) : ∀ {l : List α} {k i : Nat} {x : α} {u : Value}, l[k]? = some x → (cs x)[i]? = some u → (l.flatMap cs)[k * sz + i]? = some u
  | [], k, i, x, u, h, _ => by simp at h
  | y :: l, 0, i, x, u, h, hu => by
    simp at h
    subst h
    have := (List.getElem?_eq_some_iff.1 hu).1
    rw [List.flatMap_cons, List.getElem?_append, if_pos (by omega)]
    simpa using hu
  | y :: l, k + 1, i, x, u, h, hu => by
    rw [List.flatMap_cons, List.getElem?_append, hcs, if_neg (by rw [Nat.add_mul]; omega)]
    have := flat_get hcs (l := l) (k := k) (by simpa using h) hu
    rw [← this]
    congr 1
    rw [Nat.add_mul]
    omega
theorem own_slC {α : Type} {cs : α → List Value} {sz : Nat} (hcs : ∀ x, (cs x).length = sz) (h0 : 0 < sz) {W : World} {b c : Nat} {e : TypeId} {A : Option Addr} {l : List α} (h : W.ownsRow b e sz (.slice A l.length c) l.length (l.flatMap cs)) : Sl cs sz W A l := by
  intro k x hx
  have hk := (List.getElem?_eq_some_iff.1 hx).1
  rcases h.2 with ⟨_, e0⟩ | ⟨g, cap, cur, e1, _, e3, _, _, _, e4⟩
  · omega
  · injection e1 with e1 _ _
    refine ⟨g, 0, e1, fun j v hv => ?_⟩
    have h5 := flat_get hcs hx hv
    rw [← e4, List.getElem?_take] at h5
    split at h5
    · simp only [World.cell?, e3, Nat.zero_add, Nat.zero_le, if_true]
      simpa using h5
    · simp at h5
section
variable {P : Program} {α : Type} {cs : α → List Value} {w : World} {t e g size bytes : Nat} {i : TypeInfo} {z : Value} {A : Option Addr} {l : List α} {c : Nat}
/-- 'append([]T{}, l...)': a slice of the call's own with l's elements. -/
theorem run_copy (ty : TypeId) (ht : P.underlying t = some (.slice e)) (hi : P.info? e = some i) (hz : i.zero = some z) (hsize : i.size = size) (hby : i.bytes = bytes) (hzs : z.cells.size = size) (hsz : 0 < size)
    (hcs : ∀ x, (cs x).length = size) (h1 : ∀ x, ∀ u ∈ cs x, u.oneCell' = true) (hs : Sl cs size w A l) (hl : l.length ≤ 1000) (hb : bytes ≤ 1000) (hg : Blk w g e #[]) :
    ∃ A2 c2 w', (Builtin.append_ #[t, t] ty #[.slice (some ⟨g, 0, none⟩) 0 0, .slice A l.length c]).run P w = .ok (.slice A2 l.length c2) w' ∧ w'.ownsRow g e size (.slice A2 l.length c2) l.length (l.flatMap cs) ∧ Below w.heap.size w w' := by
  by_cases h0 : l = []
  · subst h0
    refine ⟨some ⟨g, 0, none⟩, 0, w, ?_, ⟨by simp, .inr ⟨g, 0, #[], rfl, Nat.le_refl _, hg, by simp, by unfold maxLen; omega, by simp, by simp⟩⟩, bl_refl w⟩
    cases A with
    | none => simp [Builtin.append_, run_underlying ht, sizeOf, typeInfo, hi, Builtin.lenOf, Builtin.firstCells, storeCells, loadCells, loadCellsFrom]
    | some ad => simp [Builtin.append_, run_underlying ht, sizeOf, typeInfo, hi, Builtin.lenOf, Builtin.firstCells, storeCells, loadCells, loadCellsFrom]
  · obtain ⟨x, l', rfl⟩ : ∃ x l', l = x :: l' := by
      cases l with
      | nil => exact absurd rfl h0
      | cons x l' => exact ⟨x, l', rfl⟩
    obtain ⟨b, off, hA, -⟩ := hs 0 x rfl
    subst hA
    have hbd : (0 + (x :: l').length) * bytes ≤ 140737488355328 := by
      have := Nat.mul_le_mul hl hb
      rw [Nat.zero_add]
      omega
    obtain ⟨v', w', r1, r2, r3⟩ := run_append_arg_grows (P := P) w t ty e i z size bytes ht hi hz hsize hby hzs hsz ⟨g, 0, none⟩ 0 0 [] (by simp) (by simp) ⟨b, off, none⟩ (x :: l').length c ((x :: l').flatMap cs) (flat_len' hcs _)
      (fun j u hj => by
        obtain ⟨k, y, i', h2, h3, h4⟩ := flat_at hcs hj
        obtain ⟨b', off', e1, hc⟩ := hs k y h2
        injection e1 with e1
        injection e1 with e1 e2 _
        subst e1 e2
        have := hc i' u h3
        rw [h4]
        have hadd : (⟨b, off, none⟩ : Addr).add (k * size + i') = ⟨b, off + k * size + i', none⟩ := by unfold Addr.add; split <;> simp_all [Nat.add_assoc]
        rw [hadd]
        exact this) (by simp) (by unfold maxLen; omega) hbd
    have hw := hg.lt
    rw [Nat.zero_add, List.nil_append] at r2
    rcases r2.2 with ⟨_, e0⟩ | ⟨g2, cap, cur, e1, e2, e3⟩
    · simp at e0
    · subst e1
      exact ⟨_, _, w', r1, own_mono (by omega) r2, ⟨r3.os, r3.tape, r3.output, r3.size, fun k hk => r3.block k hk (by simp)⟩⟩
theorem wp_copy {o : Oper} {a : Act} {K : Act → World → Prop} {Q : Exit → Act → World → Prop} (s x : Operand) (ho : o.op = .call { callee := .builtin .append, args := #[s, x], argTypes := #[t, t] })
    (ht : P.underlying t = some (.slice e)) (hi : P.info? e = some i) (hz : i.zero = some z) (hsize : i.size = size) (hby : i.bytes = bytes) (hzs : z.cells.size = size) (hsz : 0 < size)
    (hcs : ∀ x, (cs x).length = size) (h1 : ∀ x, ∀ u ∈ cs x, u.oneCell' = true) (hs' : a.eval s = .slice (some ⟨g, 0, none⟩) 0 0) (hx : a.eval x = .slice A l.length c) (hs : Sl cs size w A l) (hl : l.length ≤ 1000) (hb : bytes ≤ 1000) (hg : Blk w g e #[])
    (h : ∀ A2 c2 w', w'.ownsRow g e size (.slice A2 l.length c2) l.length (l.flatMap cs) → Below w.heap.size w w' → K (a.put o.dst (.slice A2 l.length c2)) w') : o.wp P a w K Q := by
  obtain ⟨A2, c2, w', hr, h2, h3⟩ := run_copy (P := P) o.type ht hi hz hsize hby hzs hsz hcs h1 hs hl hb hg (c := c)
  unfold Oper.wp execOp
  simp only [ho, resolve, invoke, builtin, Sem.run_bind, Sem.run_pure, Result.andThen_ok, List.map_toArray, List.map_cons, List.map_nil, hs', hx, hr]
  exact h _ _ _ h2 h3
end
theorem infoRd : (Tryz.prog.info? 87).map (fun i => (i.zero, i.size, i.bytes)) = some (some (.agg #[.int .i64 0, .int .i64 0, .int .i64 0, .int .i64 0]), 4, 32) := by kernel_rfl
theorem infoBc : (Tryz.prog.info? 142).map (fun i => (i.zero, i.size, i.bytes)) = some (some (.agg #[.string ByteArray.empty, .int .i64 0, .int .i64 0, .int .i64 0]), 4, 40) := by kernel_rfl
/-- A slice of the call's own with these elements. -/
def RetC {α : Type} (cs : α → List Value) (e : TypeId) (sz : Nat) (l : List α) (w : World) (x : Ending) (w' : World) : Prop :=
  ∃ A c, x = .returned (.slice A l.length c) ∧ Below w.heap.size w w' ∧ w'.ownsRow w.heap.size e sz (.slice A l.length c) l.length (l.flatMap cs)
set_option maxHeartbeats 4000000 in
theorem r_CopyReadings (l : List Rd) (A : Option Addr) (c : Nat) (w : World) (hl : Sl cRd 4 w A l) (hll : l.length ≤ 1000) :
    Calls Tryz.prog 98 #[.slice A l.length c] w (RetC cRd 87 4 l w) := by
  obtain ⟨i0, hi0, hz0, hz1, hz2⟩ := info_parts infoRd
  have Hl := Lib.hid hl
  clear hl
  go_enter Tryz.func98, Tryz.ntmps98
  go_wp2_with (at_builtin; refine wpList_plain rfl fun K hK => wp_copy _ _ rfl Tryz.underlying45 hi0 hz0 hz1 hz2 rfl (by decide) (fun _ => rfl) (fun x u hu => by simp [cRd] at hu; rcases hu with h | h | h | h <;> subst h <;> rfl) rfl rfl (Hl.out.below (bl_al _ (bl_refl w))) hll (by decide) (Blk.new w _ _) ?_; intro A2 c2 w4 hox hb4; refine hK _ _ ?_; clear hK)
  go_ret
  exact ⟨A2, c2, rfl, bl_tr (bl_al _ (bl_refl w)) hb4, hox⟩
set_option maxHeartbeats 4000000 in
theorem r_CopyNet (n : Nt) (A : Option Addr) (c : Nat) (w : World) (hn : NtIn n A c w) :
    Calls Tryz.prog 10 #[vNt n.world (.slice A n.bs.length c)] w (fun x w' => ∃ A2 c2, x = .returned (vNt n.world (.slice A2 n.bs.length c2)) ∧ Below w.heap.size w w' ∧ NtIn n A2 c2 w') := by
  obtain ⟨i0, hi0, hz0, hz1, hz2⟩ := info_parts infoBc
  have Hn := Lib.hid hn
  have hll := hn.len
  clear hn
  go_enter Tryz.func10, Tryz.ntmps10
  go_wp2
  apply absB2 (w0 := w) (g0 := w.heap.size) (g1 := w.heap.size + 1)
  iterate 3 (focus exact zL)
  try clear hb3
  try clear hb0
  try clear k0
  try clear k1
  intro wa hb0 k0 k1
  (try simp only [List.setIfInBounds_toArray, List.set_cons_zero, List.set_cons_succ] at k0 k1)
  have Lk0 := k0.later
  have Fk0 := k0.laterF
  have Qk0 := k0.lt
  have Lk1 := k1.later
  have Fk1 := k1.laterF
  have Qk1 := k1.lt
  refine wp_any (w0 := wa) ⟨[7], [], [some 3, some 4, some 5, some 6, some 7, some 8, some 9, none], [[], [0], [], [], [3], [2, 3, 4], [0, 1, 2, 3, 4, 5], [0, 1, 2, 3, 4, 5, 6]], [[], [0], [], [], [3], [2, 4], [1, 2, 5], []]⟩ (fun _ => [w.heap.size + 1]) (by kernel_rfl) (by kernel_rfl) (by (exact zE)) (fun u => by simp only [putD, Act.put, List.setIfInBounds_toArray, List.set_cons_zero, List.set_cons_succ, Nat.zero_add, Nat.reduceAdd]; rfl) ?_
  apply RGW.on (i := 0) rfl
  · exact zG
  · intro γ u W hcur hd
    clear hd
    (try dsimp only)
    exact ⟨rfl, zS⟩
  · exact zC
  · rfl
  dsimp only [nA, cA]
  apply RGW.on (i := 1) rfl
  · exact zG
  · intro γ u W hcur hd
    obtain ⟨⟨h0, -, -⟩, -⟩ := hd
    dsimp only at h0
    (try simp only [h0])
    exact ⟨rfl, zS⟩
  · exact zC
  · rfl
  dsimp only [nA, cA]
  apply RGW.bslice (i := 2) rfl
  · exact zG
  · intro γ u W hcur hd
    clear hd
    (try dsimp only)
    refine ⟨rfl, fun K hK => ?_⟩
    go_simp
    exact hK.out _ _ rfl rfl
  · exact zC
  · rfl
  · rfl
  dsimp only [nA, cA]
  apply RGW.on (i := 3) rfl
  · exact zG
  · intro γ u W hcur hd
    clear hd
    (try dsimp only)
    exact ⟨rfl, zS⟩
  · exact zC
  · rfl
  dsimp only [nA, cA]
  apply RGW.on (i := 4) rfl
  · exact zG
  · intro γ u W hcur hd
    obtain ⟨⟨h3, -, -⟩, -⟩ := hd
    dsimp only at h3
    (try simp only [h3])
    exact ⟨rfl, zS⟩
  · exact zC
  · rfl
  dsimp only [nA, cA]
  apply RGW.gh (⟨fun γ => .slice (γ 5).A n.bs.length (γ 5).c, fun γ W => W.ownsRow (w.heap.size + 2) 142 4 (.slice (γ 5).A n.bs.length (γ 5).c) n.bs.length (n.bs.flatMap cBc), fun _ => []⟩) (i := 5) rfl
  · exact zG
  · intro γ u W hcur hd
    obtain ⟨⟨h2, r2, b2⟩, ⟨h4, -, -⟩, -⟩ := hd
    dsimp only at h2 h4 r2 b2
    have L2 := r2.cell
    (try simp only [h2, h4])
    refine ⟨rfl, fun K hK => ?_⟩
    (refine wp_copy _ _ rfl Tryz.underlying26 hi0 hz0 hz1 hz2 rfl (by decide) (fun _ => rfl) (fun x u hu => by simp [cBc] at hu; rcases hu with h | h | h | h <;> subst h <;> rfl) rfl rfl ((Hn.out.sl.below hb0).below hcur) hll (by decide) r2 ?_; intro A2 c2 w4 hox hb4; exact hK.out ⟨0, undef, A2, c2⟩ _ _ (by simp [up]) hb4 (by simpa [up] using own_mono (Nat.le_trans Qk1 (b2 _ (List.mem_singleton.2 rfl)).1) hox) (by simp))
  · intro γ γ' hg
    try dsimp only
    have e2 := hg 2 (by decide)
    have e5 := hg 5 (by decide)
    simp only [e2, e5]
    try exact ⟨trivial, fun _ h => h⟩
  · intro γ W W' hbl hR
    first | exact hR.below hbl | exact own_below hR hbl | exact trivial | exact ⟨hR.1.below hbl, hR.2⟩
  · rfl
  dsimp only [nA, cA]
  apply RGW.on (i := 6) rfl
  · exact zG
  · intro γ u W hcur hd
    obtain ⟨⟨h1, -, -⟩, ⟨h2, r2, -⟩, ⟨h5, r5, -⟩, -⟩ := hd
    dsimp only at h1 h2 h5 r2 r5
    have L2 := r2.cell
    (try simp only [h1, h2, h5])
    exact ⟨rfl, zS⟩
  · intro γ γ' hg
    try dsimp only
    have e2 := hg 2 (by decide)
    have e5 := hg 5 (by decide)
    simp only [e2, e5]
  · rfl
  dsimp only [nA, cA]
  refine RGW.skip (i := 7) rfl rfl ?_
  dsimp only [nA, cA]
  refine RGW.fin (fun γ u wb hwb hd hdis => ?_)
  obtain ⟨⟨h0, -, -⟩, ⟨h1, -, -⟩, ⟨h2, r2, b2⟩, ⟨h3, -, -⟩, ⟨h4, -, -⟩, ⟨h5, r5, b5⟩, ⟨h6, -, -⟩, -⟩ := hd
  dsimp only at h0 h1 h2 h3 h4 h5 h6 r2 r5 b2 b5
  clear hdis
  simp only [h0, h1, h2, h3, h4, h5, h6]
  clear h6 h5 h4 h3 h2 h1 h0
  replace b2 := b2 _ (List.mem_singleton.2 rfl)
  generalize hγ2 : (γ 2).n = g2 at *
  clear hγ2
  clear u
  simp only [List.map_cons, List.map_nil]
  apply PlanW.step
  · exact zG
  · rfl
  intro K hK
  refine wp_store_keep (X := [w.heap.size + 1]) (w0 := wb) rfl rfl rfl (by with_reducible first | exact bx_refl _ _ | assumption) (by with_reducible first | assumption | (apply Blk.below (hb := hwb); assumption)) (by simp) (by kernel_rfl) (by rfl) (by simp [Value.oneCell']) (fun hres1 hcur => ?_)
  refine hK.out _ _ hcur (fun _ => ?_)
  clear hK K
  try simp only [Act.put, List.setIfInBounds_toArray, List.set_cons_zero, List.set_cons_succ]
  refine PlanW.done ?_
  have hb3 := bl_tt hwb
  have hox := Lib.hid r5
  clear r5
  generalize (γ 5).A = A2 at *
  generalize (γ 5).c = c2 at *
  have hb1 := hb3 _ hb0
  go_wp2
  have hr := hres1.cell
  have hbe := bx_below hb1 hcur (by simp)
  refine bodyPost_ret (v := vNt n.world (.slice A2 n.bs.length c2)) (by simp [results, Tryz.results10, go_sem, hr]) rfl ⟨A2, c2, rfl, hbe, ?_⟩
  have h3 := own_bx hox.out hcur (by simp)
  refine ⟨Hn.out.len, ?_, Hn.out.nm, own_slC (cs := cBc) (fun _ => rfl) (by decide) h3⟩
  rcases h3.2 with ⟨e, h⟩ | ⟨_, _, _, e, _, _, h, _⟩
  · omega
  · injection e with _ _ e
    omega
end Go.Proofs.YtephimmamkafoaaGreat
namespace Go.Proofs.YtephimmamkafoaaGreat
open Go.RowKit
attribute [local go_sem] bl_al bl_drew bl_drewN bl_refl bx_al bx_drew bx_drewN bx_refl
set_option maxRecDepth 20000
/-- Whether two lists of numbers are equal. -/
def intsB (a b : List Int) : Bool := decide (a = b)
theorem take_step {a b : List Int} {k : Nat} {x : Int} (ha : a[k]? = some x) (hb : b[k]? = some x) (h : a.take k = b.take k) : a.take (k + 1) = b.take (k + 1) := by
  rw [List.take_add_one, List.take_add_one, ha, hb, h]
set_option maxHeartbeats 4000000 in
theorem r_Ints (a b : List Int) (A B : Option Addr) (c d : Nat) (w : World) (ha : Sl cI 1 w A a) (hb : Sl cI 1 w B b) (h1 : a.length ≤ 1000) (h2 : b.length ≤ 1000) :
    Calls Tryz.prog 42 #[.slice A a.length c, .slice B b.length d] w (Ret (.bool (intsB a b)) w) := by
  have Ha := Lib.hid ha
  have Hb := Lib.hid hb
  clear ha hb
  by_cases hl : a.length = b.length
  · obtain ⟨n, Hn⟩ : ∃ n, Hid (a.length = n) := ⟨_, rfl⟩
    have Hm : Hid (b.length = n) := Lib.hid (by rw [← hl]; exact Hn.out)
    rw [Hn.out] at h1 ⊢
    rw [Hm.out]
    clear hl h2
    go_enter Tryz.func42, Tryz.ntmps42
    go_wp2
    go_loopw [5] (fun i wr => ∃ k : Nat, k ≤ n ∧ i = .int .i64 k ∧ Below w.heap.size w wr ∧ a.take k = b.take k) (fun i _ => n - (intOf i).toNat)
    case atStart => exact ⟨0, Nat.zero_le _, rfl, Below.refl _ _, rfl⟩
    case round =>
      obtain ⟨k, hk, rfl, hbw, hi⟩ := hrel
      replace hi := Lib.hid hi
      by_cases hlt : k < n
      · have hx : a[k]? = some (a[k]'(by rw [Hn.out]; exact hlt)) := List.getElem?_eq_getElem _
        generalize a[k]'(by rw [Hn.out]; exact hlt) = x at hx
        have hy : b[k]? = some (b[k]'(by rw [Hm.out]; exact hlt)) := List.getElem?_eq_getElem _
        generalize b[k]'(by rw [Hm.out]; exact hlt) = y at hy
        obtain ⟨ba, oa, hA, hca⟩ := Ha.out k x hx
        obtain ⟨bb, ob, hB, hcb⟩ := Hb.out k y hy
        have c0 : ∀ W, Below wr.heap.size wr W → W.cell? ⟨ba, oa + k, none⟩ = some (.int .i64 x) := later (by have := kcell hbw (hca 0 _ rfl); simpa using this)
        have c1 : ∀ W, Below wr.heap.size wr W → W.cell? ⟨bb, ob + k, none⟩ = some (.int .i64 y) := later (by have := kcell hbw (hcb 0 _ rfl); simpa using this)
        clear hca hcb
        have hnx : Hid (x = y → a.take (k + 1) = b.take (k + 1)) := fun h => take_step hx (h ▸ hy) hi.out
        have hno : Hid (x ≠ y → intsB a b = false) := fun h => by
          unfold intsB
          rw [decide_eq_false_iff_not]
          intro e
          rw [e, hy] at hx
          exact h (by injection hx with hx; exact hx.symm)
        clear hx hy
        subst hA hB
        go_wp2
        refine wp_any (w0 := wr) ⟨[], [], [some 17, some 18, some 19, some 20, some 21, some 22, some 23, some 24, some 25], [[], [], [0, 1], [0, 1, 2], [], [], [4, 5], [4, 5, 6], [0, 1, 2, 3, 4, 5, 6, 7]], [[], [], [0, 1], [2], [], [], [4, 5], [6], [3, 7]]⟩ (fun _ => []) (by kernel_rfl) (by kernel_rfl) (by (exact zE)) (fun u => by simp only [putD, Act.put, List.setIfInBounds_toArray, List.set_cons_zero, List.set_cons_succ, Nat.zero_add, Nat.reduceAdd]; rfl) ?_
        apply RGW.on (i := 0) rfl
        · exact zG
        · intro γ u W hcur hd
          clear hd
          (try dsimp only)
          exact ⟨rfl, zS⟩
        · exact zC
        · rfl
        dsimp only [nA, cA]
        apply RGW.on (i := 1) rfl
        · exact zG
        · intro γ u W hcur hd
          clear hd
          (try dsimp only)
          exact ⟨rfl, zS⟩
        · exact zC
        · rfl
        dsimp only [nA, cA]
        apply RGW.on (i := 2) rfl
        · exact zG
        · intro γ u W hcur hd
          obtain ⟨⟨h0, -, -⟩, ⟨h1, -, -⟩, -⟩ := hd
          dsimp only at h0 h1
          (try simp only [h0, h1])
          exact ⟨rfl, zS⟩
        · exact zC
        · rfl
        dsimp only [nA, cA]
        apply RGW.on (i := 3) rfl
        · exact zG
        · intro γ u W hcur hd
          obtain ⟨⟨h2, -, -⟩, -⟩ := hd
          dsimp only at h2
          (try simp only [h2])
          exact ⟨rfl, zS⟩
        · exact zC
        · rfl
        dsimp only [nA, cA]
        apply RGW.on (i := 4) rfl
        · exact zG
        · intro γ u W hcur hd
          clear hd
          (try dsimp only)
          exact ⟨rfl, zS⟩
        · exact zC
        · rfl
        dsimp only [nA, cA]
        apply RGW.on (i := 5) rfl
        · exact zG
        · intro γ u W hcur hd
          clear hd
          (try dsimp only)
          exact ⟨rfl, zS⟩
        · exact zC
        · rfl
        dsimp only [nA, cA]
        apply RGW.on (i := 6) rfl
        · exact zG
        · intro γ u W hcur hd
          obtain ⟨⟨h4, -, -⟩, ⟨h5, -, -⟩, -⟩ := hd
          dsimp only at h4 h5
          (try simp only [h4, h5])
          exact ⟨rfl, zS⟩
        · exact zC
        · rfl
        dsimp only [nA, cA]
        apply RGW.on (i := 7) rfl
        · exact zG
        · intro γ u W hcur hd
          obtain ⟨⟨h6, -, -⟩, -⟩ := hd
          dsimp only at h6
          (try simp only [h6])
          exact ⟨rfl, zS⟩
        · exact zC
        · rfl
        dsimp only [nA, cA]
        apply RGW.on (i := 8) rfl
        · exact zG
        · intro γ u W hcur hd
          obtain ⟨⟨h3, -, -⟩, ⟨h7, -, -⟩, -⟩ := hd
          dsimp only at h3 h7
          (try simp only [h3, h7])
          exact ⟨rfl, zS⟩
        · exact zC
        · rfl
        dsimp only [nA, cA]
        refine RGW.fin (fun γ u wj hwj hd hdis => ?_)
        obtain ⟨⟨h0, -, -⟩, ⟨h1, -, -⟩, ⟨h2, -, -⟩, ⟨h3, -, -⟩, ⟨h4, -, -⟩, ⟨h5, -, -⟩, ⟨h6, -, -⟩, ⟨h7, -, -⟩, ⟨h8, -, -⟩, -⟩ := hd
        dsimp only at h0 h1 h2 h3 h4 h5 h6 h7 h8
        clear hdis
        simp only [h0, h1, h2, h3, h4, h5, h6, h7, h8]
        clear h8 h7 h6 h5 h4 h3 h2 h1 h0
        clear u
        simp only [List.map_nil]
        refine PlanW.done ?_
        have hb3 := bl_tt hwj
        have hbj := bl_tr hbw hwj
        by_cases hxy : x = y
        · have e : (x != y) = false := by simp [hxy]
          have h' := Lib.hid (hnx.out hxy)
          clear hxy hnx hno
          go_wp2
          go_roundw
          case rel => exact ⟨k + 1, by omega, by go_num, hbj, h'.out⟩
          case measure => simp [intOf]; omega
        · have e : (x != y) = true := by simp [hxy]
          have h' := Lib.hid (hno.out hxy)
          clear hxy hnx hno
          go_wp2
          go_ret
          exact ⟨by rw [h'.out] <;> rfl, hbj⟩
      · go_wp2
        go_ret
        have hkn : k = n := by omega
        have e : intsB a b = true := by
          unfold intsB
          rw [decide_eq_true_eq]
          have := hi.out
          rw [hkn, List.take_of_length_le (by rw [Hn.out]; exact Nat.le_refl _), List.take_of_length_le (by rw [Hm.out]; exact Nat.le_refl _)] at this
          exact this
        exact ⟨by rw [e] <;> rfl, hbw⟩
  · have e : Hid (intsB a b = false) := by
      refine Lib.hid ?_
      unfold intsB
      rw [decide_eq_false_iff_not]
      intro h
      exact hl (by rw [h])
    have e' : ((a.length : Int) != (b.length : Int)) = true := by simp; omega
    clear hl
    generalize a.length = n at *
    generalize b.length = m at *
    go_enter Tryz.func42, Tryz.ntmps42
    go_wp2
    go_ret
    exact ⟨by rw [e.out] <;> rfl, bl_refl _⟩
end Go.Proofs.YtephimmamkafoaaGreat
namespace Go.Proofs.YtephimmamkafoaaGreat
open Go.RowKit Go.Shelf
attribute [local go_sem] bl_al bl_drew bl_drewN bl_refl bx_al bx_drew bx_drewN bx_refl
set_option maxRecDepth 20000
theorem Blk.slC {α : Type} {cs : α → List Value} {sz : Nat} (hcs : ∀ x, (cs x).length = sz) {w : World} {g : Nat} {t : TypeId} {l : List α} (h : Blk w g t (l.flatMap cs).toArray) : Sl cs sz w (some ⟨g, 0, none⟩) l := fun k x hx =>
  ⟨g, 0, rfl, fun j v hv => by
    have := flat_get hcs hx hv
    have e := h.cell (k * sz + j)
    rw [Nat.zero_add, e]
    simpa using this⟩
theorem r_Net (w : World) : Calls Tryz.prog 33 #[] w (fun e w' => ∃ A c, e = .returned (vNt net0.world (.slice A 2 c)) ∧ Below w.heap.size w w' ∧ NtIn net0 A c w') := by
  go_enter Tryz.func33, Tryz.ntmps33
  go_wp2
  apply absPB2 (w0 := w) (g0 := w.heap.size) (g1 := w.heap.size + 1)
  iterate 3 (focus exact zL)
  try clear hb3
  try clear hb0
  try clear k0
  try clear k1
  intro wz hb0 k0 k1
  (try simp only [List.setIfInBounds_toArray, List.set_cons_zero, List.set_cons_succ] at k0 k1)
  have hr := k0.cell
  refine bodyPost_ret (v := vNt net0.world (.slice (some ⟨w.heap.size + 1, 0, none⟩) 2 2)) (by simp [results, Tryz.results33, go_sem, hr, net0]) rfl ⟨_, _, rfl, hb0, by decide, by decide, fun b hb => ?_, Blk.slC (cs := cBc) (l := net0.bs) (fun _ => rfl) k1⟩
  have : b.name.size = 1 := by
    simp [net0] at hb
    rcases hb with rfl | rfl <;> rfl
  rw [this]
  unfold maxLen
  omega
theorem r_Start (w : World) : Calls Tryz.prog 34 #[] w (Ret (vBx start0) w) := by
  go_enter Tryz.func34, Tryz.ntmps34
  go_wp2
  exact bodyPost_ret (v := vBx start0) (by simp [results, Tryz.results34, go_sem, start0]) rfl ⟨rfl, by solve_by_elim (maxDepth := 40) only [bl_al, bl_drew, bl_refl, *]⟩
theorem r_Field (w : World) : Calls Tryz.prog 38 #[] w (Ret (vBx field0) w) := by
  go_enter Tryz.func38, Tryz.ntmps38
  go_wp2
  exact bodyPost_ret (v := vBx field0) (by simp [results, Tryz.results38, go_sem, field0]) rfl ⟨rfl, by solve_by_elim (maxDepth := 40) only [bl_al, bl_drew, bl_refl, *]⟩
theorem r_Move (w : World) : Calls Tryz.prog 35 #[] w (Ret (vMv move0) w) := by
  go_enter Tryz.func35, Tryz.ntmps35
  go_wp2
  exact bodyPost_ret (v := vMv move0) (by simp [results, Tryz.results35, go_sem, move0]) rfl ⟨rfl, by solve_by_elim (maxDepth := 40) only [bl_al, bl_drew, bl_refl, *]⟩
theorem r_Readings (w : World) : Calls Tryz.prog 39 #[] w (fun e w' => ∃ A c, e = .returned (.slice A 3 c) ∧ Below w.heap.size w w' ∧ Sl cRd 4 w' A reads0) := by
  go_enter Tryz.func39, Tryz.ntmps39
  go_wp2
  go_ret
  exact ⟨some ⟨w.heap.size, 0, none⟩, 3, rfl, bl_al _ (bl_refl w), Blk.slC (cs := cRd) (l := reads0) (fun _ => rfl) (Blk.new w _ _)⟩
theorem r_few (n : Nt) (A A' : Option Addr) (c c' k : Nat) (w : World) : Calls Tryz.prog 7 #[vNt n.world (.slice A n.bs.length c), .slice A' k c'] w (Ret (.bool (decide (n.bs.length ≤ 8) && decide (k ≤ 10))) w) := by
  obtain ⟨b1, h1⟩ : ∃ b, decide ((n.bs.length : Int) ≤ 8) = b := ⟨_, rfl⟩
  have e : decide (n.bs.length ≤ 8) = b1 := by rw [← h1]; simp; omega
  rw [e]
  cases b1
  · go_enter Tryz.func7, Tryz.ntmps7
    go_wp2
    go_ret
    exact ⟨rfl, by solve_by_elim (maxDepth := 40) only [bl_al, bl_drew, bl_refl, *]⟩
  · go_enter Tryz.func7, Tryz.ntmps7
    go_wp2
    go_ret
    exact ⟨by simp <;> omega, by solve_by_elim (maxDepth := 40) only [bl_al, bl_drew, bl_refl, *]⟩
set_option maxHeartbeats 8000000 in
theorem r_awake (w : World) : Calls Tryz.prog 6 #[] w (Ret (.bool true) w) := by
  have h1 : Hid (∀ (W : World) (A : Option Addr) (c : Nat), NtIn net0 A c W → Calls Tryz.prog 32 #[vNt net0.world (.slice A 2 c), vBx start0, vMv move0] W (Ret (.tuple #[vBx ⟨⟨2, 10⟩, ⟨0, 2⟩, ⟨1, 3⟩⟩, .int .i64 0]) W)) := fun W A c h => by
    have := c_Carried net0 start0 move0 A c W h
    rw [ev_carried] at this
    exact this
  have h2 : Hid (∀ (W : World), Calls Tryz.prog 36 #[vRg ⟨10, 11⟩, vRg ⟨1000, 1100⟩] W (Ret (.tuple #[vRg ⟨9, 11⟩, .int .i64 0]) W)) := fun W => by
    have := c_DepthIn ⟨10, 11⟩ ⟨1000, 1100⟩ W
    rw [ev_depth] at this
    exact this
  have h3 : Hid (∀ (W : World) (A : Option Addr) (c : Nat) (A' : Option Addr) (c' : Nat), NtIn net0 A c W → Sl cRd 4 W A' reads0 → Calls Tryz.prog 37 #[vNt net0.world (.slice A 2 c), vBx field0, .slice A' 3 c'] W (RetW [0] ⟨1, 0, 0⟩ 0 W)) := fun W A c A' c' h hl => by
    have := c_WrongOf net0 field0 reads0 A A' c c' W h hl (by decide) (by decide)
    rw [ev_wrong] at this
    exact this
  have h4 : Hid (∀ (W : World) (A : Option Addr) (c : Nat) (A' : Option Addr) (c' : Nat), NtIn net0 A c W → Sl cRd 4 W A' reads0 → Calls Tryz.prog 40 #[vNt net0.world (.slice A 2 c), vBx field0, vVt A' 3 c' 1] W (Ret (.tuple #[vBx ⟨⟨1, 5⟩, ⟨0, 0⟩, ⟨0, 4⟩⟩, .int .i64 3, .int .i64 0]) W)) := fun W A c A' c' h hl => by
    have := c_VotedIn net0 field0 ⟨reads0, 1⟩ A A' c c' W h hl (by decide) (by decide)
    rw [ev_voted] at this
    exact this
  have h5 : Hid (∀ (W : World) (A : Option Addr) (c g : Nat), NtIn net0 A c W → Blk W g 87 #[.int .i64 0, .int .i64 1, .int .i64 3, .int .i64 7, .int .i64 0, .int .i64 1, .int .i64 1, .int .i64 3, .int .i64 1, .int .i64 0, .int .i64 4, .int .i64 9] →
      Calls Tryz.prog 41 #[vNt net0.world (.slice A 2 c), vBx start0, .slice (some ⟨g, 0, none⟩) 3 3] W (RetE [2, 0, 1] 0 W)) := fun W A c g h hb => by
    have := c_AnswersOf net0 start0 asks0 A (some ⟨g, 0, none⟩) c 3 W h (Blk.slC (cs := cRd) (l := asks0) (fun _ => rfl) hb) (by decide) (by decide)
    rw [ev_ans.1, ev_ans.2] at this
    exact this
  have h6 : Hid (∀ (W : World) (A : Option Addr) (c g : Nat), Sl cI 1 W A [0] → Blk W g 3 #[.int .i64 0] → Calls Tryz.prog 42 #[.slice A 1 c, .slice (some ⟨g, 0, none⟩) 1 1] W (Ret (.bool true) W)) := fun W A c g h hb =>
    r_Ints [0] [0] A (some ⟨g, 0, none⟩) c 1 W h (Blk.ints (l := [0]) hb) (by decide) (by decide)
  have h7 : Hid (∀ (W : World) (A : Option Addr) (c g : Nat), Sl cI 1 W A [2, 0, 1] → Blk W g 3 #[.int .i64 2, .int .i64 0, .int .i64 1] → Calls Tryz.prog 42 #[.slice A 3 c, .slice (some ⟨g, 0, none⟩) 3 3] W (Ret (.bool true) W)) := fun W A c g h hb =>
    r_Ints [2, 0, 1] [2, 0, 1] A (some ⟨g, 0, none⟩) c 3 W h (Blk.ints (l := [2, 0, 1]) hb) (by decide) (by decide)
  go_enter Tryz.func6, Tryz.ntmps6
  go_upto_region 2 with (first | (go_at_call 33; (with_reducible refine (r_Net _).mono ?_); rintro e wn ⟨A1, c1, rfl, hb3, hn1⟩; replace hb3 := bl_tt hb3) | (go_at_call 34; (with_reducible refine (r_Start _).mono ?_); rintro e wn ⟨rfl, hb4⟩; replace hn1 := hn1.below hb4; replace hb3 := fun w h => bl_tt hb4 w (hb3 w h)) | (go_at_call 35; (with_reducible refine (r_Move _).mono ?_); rintro e wn ⟨rfl, hb4⟩; replace hn1 := hn1.below hb4; replace hb3 := fun w h => bl_tt hb4 w (hb3 w h)) | (go_at_call 32; (with_reducible refine (h1.out _ _ _ hn1).mono ?_); rintro e v1 ⟨rfl, hb4⟩; replace hb3 := fun w h => bl_tt hb4 w (hb3 w h)))
  have hbw := hb3 w (bl_refl w)
  apply absB1 (w0 := v1) (g0 := v1.heap.size)
  iterate 2 (focus exact zL)
  try clear hb3
  try clear hb0
  try clear k1
  intro wa hb0 k1
  (try simp only [List.setIfInBounds_toArray, List.set_cons_zero, List.set_cons_succ] at k1)
  replace hbw := bl_tr hbw hb0
  go_upto_region 3 with (go_at_call 36; (with_reducible refine (h2.out _).mono ?_); rintro e w3 ⟨rfl, hb3⟩; replace hb3 := bl_tt hb3)
  have hb2 := hb3 wa (bl_refl wa)
  replace k1 := k1.below hb2
  replace hbw := bl_tr hbw hb2
  apply absB2 (w0 := w3) (g0 := v1.heap.size) (g1 := w3.heap.size)
  iterate 3 (focus exact zL)
  try clear hb3
  try clear hb0
  try clear k1
  try clear k2
  intro wb hb0 k1 k2
  (try simp only [List.setIfInBounds_toArray, List.set_cons_zero, List.set_cons_succ] at k1 k2)
  replace hbw := bl_tr hbw hb0
  clear hn1
  go_upto_region 4 with (first | (go_at_call 33; (with_reducible refine (r_Net _).mono ?_); rintro e wn ⟨A1, c1, rfl, hb3, hn1⟩; replace hb3 := bl_tt hb3) | (go_at_call 38; (with_reducible refine (r_Field _).mono ?_); rintro e wn ⟨rfl, hb4⟩; replace hn1 := hn1.below hb4; replace hb3 := fun w h => bl_tt hb4 w (hb3 w h)) | (go_at_call 39; (with_reducible refine (r_Readings _).mono ?_); rintro e wn ⟨A2, c2, rfl, hb4, hl1⟩; replace hn1 := hn1.below hb4; replace hb3 := fun w h => bl_tt hb4 w (hb3 w h)) | (go_at_call 37; (with_reducible refine (h3.out _ _ _ _ _ hn1 hl1).mono ?_); rintro e v3 ⟨A3, c3, rfl, hb4, ho3⟩; replace hb3 := fun w h => bl_tt hb4 w (hb3 w h)))
  have hb2 := hb3 wb (bl_refl wb)
  replace k1 := k1.below hb2
  replace k2 := k2.below hb2
  replace hbw := bl_tr hbw hb2
  apply absB3 (w0 := v3) (g0 := v1.heap.size) (g1 := w3.heap.size) (g2 := v3.heap.size)
  iterate 4 (focus exact zL)
  try clear hb3
  try clear hb0
  try clear k1
  try clear k2
  try clear k3
  intro wc hb0 k1 k2 k3
  (try simp only [List.setIfInBounds_toArray, List.set_cons_zero, List.set_cons_succ] at k1 k2 k3)
  replace hbw := bl_tr hbw hb0
  have hs3 := (own_sl (L := [0]) ho3).below hb0
  clear hn1 hl1 ho3
  go_upto_region 5 with (first | (go_at_call 33; (with_reducible refine (r_Net _).mono ?_); rintro e wn ⟨A1, c1, rfl, hb3, hn1⟩; replace hb3 := bl_tt hb3) | (go_at_call 38; (with_reducible refine (r_Field _).mono ?_); rintro e wn ⟨rfl, hb4⟩; replace hn1 := hn1.below hb4; replace hb3 := fun w h => bl_tt hb4 w (hb3 w h)) | (go_at_call 39; (with_reducible refine (r_Readings _).mono ?_); rintro e wn ⟨A2, c2, rfl, hb4, hl1⟩; replace hn1 := hn1.below hb4; replace hb3 := fun w h => bl_tt hb4 w (hb3 w h)) | (go_at_call 40; (with_reducible refine (h4.out _ _ _ _ _ hn1 hl1).mono ?_); rintro e v4 ⟨rfl, hb4⟩; replace hb3 := fun w h => bl_tt hb4 w (hb3 w h)))
  have hb2 := hb3 wc (bl_refl wc)
  replace k1 := k1.below hb2
  replace k2 := k2.below hb2
  replace k3 := k3.below hb2
  replace hs3 := hs3.below hb2
  replace hbw := bl_tr hbw hb2
  apply absB4 (w0 := v4) (g0 := v1.heap.size) (g1 := w3.heap.size) (g2 := v3.heap.size) (g3 := v4.heap.size)
  iterate 5 (focus exact zL)
  try clear hb3
  try clear hb0
  try clear k1
  try clear k2
  try clear k3
  try clear k4
  intro wd hb0 k1 k2 k3 k4
  (try simp only [List.setIfInBounds_toArray, List.set_cons_zero, List.set_cons_succ] at k1 k2 k3 k4)
  replace hbw := bl_tr hbw hb0
  replace hs3 := hs3.below hb0
  clear hn1 hl1
  go_upto_region 6 with (first | (go_at_call 33; (with_reducible refine (r_Net _).mono ?_); rintro e wn ⟨A1, c1, rfl, hb3, hn1⟩; replace hb3 := bl_tt hb3) | (go_at_call 34; (with_reducible refine (r_Start _).mono ?_); rintro e wn ⟨rfl, hb4⟩; replace hn1 := hn1.below hb4; replace hb3 := fun w h => bl_tt hb4 w (hb3 w h)) | (go_at_call 41; (with_reducible refine (h5.out _ _ _ _ (hn1.below (bl_al _ (bl_refl _))) (Blk.new _ _ _)).mono ?_); rintro e v5 ⟨A5, c5, rfl, hb4, ho5⟩; replace hb3 := fun w h => bl_tt hb4 w (bl_al _ (hb3 w h))))
  have hb2 := hb3 wd (bl_refl wd)
  replace k1 := k1.below hb2
  replace k2 := k2.below hb2
  replace k3 := k3.below hb2
  replace k4 := k4.below hb2
  replace hs3 := hs3.below hb2
  replace hbw := bl_tr hbw hb2
  have hs5 := own_sl (L := [2, 0, 1]) ho5
  clear hn1 ho5 hb3
  have Lk1 := k1.later
  have Fk1 := k1.laterF
  have Qk1 := k1.lt
  have Lk2 := k2.later
  have Fk2 := k2.laterF
  have Qk2 := k2.lt
  have Lk3 := k3.later
  have Fk3 := k3.laterF
  have Qk3 := k3.lt
  have Lk4 := k4.later
  have Fk4 := k4.laterF
  have Qk4 := k4.lt
  have S3 := Lib.hid fun (W : World) (h : Below v5.heap.size v5 W) => hs3.below h
  have S5 := Lib.hid fun (W : World) (h : Below v5.heap.size v5 W) => hs5.below h
  clear hs3 hs5
  go_wp2_with (go_at_call 42; (with_reducible first | refine (h6.out _ _ _ _ (S3.out _ (by (exact zE))) (Blk.new _ _ _)).mono ?_ | refine (h7.out _ _ _ _ (S5.out _ (by (exact zE))) (Blk.new _ _ _)).mono ?_); rintro e w3 ⟨rfl, hb3⟩; replace hb3 := bl_tt hb3; have hv5 := hb3 v5 (by (exact zE)))
  go_ret
  exact ⟨rfl, bl_tr hbw hv5⟩
end Go.Proofs.YtephimmamkafoaaGreat
namespace Go.Proofs.YtephimmamkafoaaGreat
open Go.ChangeShapes Go.WideShapes Go.ChangeAt Go.RowKit Go.Deep
set_option maxRecDepth 20000
theorem len2 {α : Type} {l : List α} (h : l.length = 2) : ∃ a b, l = [a, b] := by
  match l, h with
  | [a, b], _ => exact ⟨a, b, rfl⟩
theorem len3 {α : Type} {l : List α} (h : l.length = 3) : ∃ a b c, l = [a, b, c] := by
  match l, h with
  | [a, b, c], _ => exact ⟨a, b, c, rfl⟩
theorem len4 {α : Type} {l : List α} (h : l.length = 4) : ∃ a b c d, l = [a, b, c, d] := by
  match l, h with
  | [a, b, c, d], _ => exact ⟨a, b, c, d, rfl⟩
theorem len6 {α : Type} {l : List α} (h : l.length = 6) : ∃ a b c d e f, l = [a, b, c, d, e, f] := by
  match l, h with
  | [a, b, c, d, e, f], _ => exact ⟨a, b, c, d, e, f, rfl⟩
theorem len7 {α : Type} {l : List α} (h : l.length = 7) : ∃ a b c d e f g, l = [a, b, c, d, e, f, g] := by
  match l, h with
  | [a, b, c, d, e, f, g], _ => exact ⟨a, b, c, d, e, f, g, rfl⟩
section
variable {H : Type} {enc : TypeId × Value → H} {w : World} {base : Nat} {spare : Nat → Bool} {held : Bool} {fuel : Nat} {cs : List Value} {y : DataW H × List MemPlace}
theorem ci : Tryz.prog.cellsOf 3 = 1 := by kernel_rfl
theorem cS : Tryz.prog.cellsOf 9 = 1 := by kernel_rfl
theorem cRg2 : Tryz.prog.cellsOf 23 = 2 := by kernel_rfl
theorem cBx6 : Tryz.prog.cellsOf 25 = 6 := by kernel_rfl
theorem cPl3 : Tryz.prog.cellsOf 70 = 3 := by kernel_rfl
theorem cBc4 : Tryz.prog.cellsOf 142 = 4 := by kernel_rfl
theorem cNt7 : Tryz.prog.cellsOf 28 = 7 := by kernel_rfl
theorem cBcs : Tryz.prog.cellsOf 26 = 1 := by kernel_rfl
theorem rd_int (h : DataW.trod enc Tryz.prog w base spare held fuel 3 cs = some y) : ∃ x, cs = [.int .i64 x] := by
  obtain ⟨x, e, -⟩ := DataW.trod_int Tryz.underlying3 h
  exact ⟨x, e⟩
theorem rd_Rg (h : DataW.trod enc Tryz.prog w base spare held fuel 23 cs = some y) : ∃ r : Rg, cs = cRg r := by
  obtain ⟨xs, n, -, -, hl, hlen, hf⟩ := DataW.trod_struct Tryz.underlying23 h
  rw [cRg2] at hl
  obtain ⟨c0, c1, rfl⟩ := len2 hl
  obtain ⟨x0, x1, rfl⟩ := len2 (show xs.length = 2 from hlen)
  have h0 := hf 0 _ rfl
  have h1 := hf 1 _ rfl
  simp [ci] at h0 h1
  obtain ⟨a, e0⟩ := rd_int h0
  obtain ⟨b, e1⟩ := rd_int h1
  simp at e0 e1
  exact ⟨⟨a, b⟩, by rw [e0, e1]; rfl⟩
theorem rd_Pl (h : DataW.trod enc Tryz.prog w base spare held fuel 70 cs = some y) : ∃ p : Pl, cs = [.int .i64 p.x, .int .i64 p.y, .int .i64 p.z] := by
  obtain ⟨xs, n, -, -, hl, hlen, hf⟩ := DataW.trod_struct Tryz.underlying70 h
  rw [cPl3] at hl
  obtain ⟨c0, c1, c2, rfl⟩ := len3 hl
  obtain ⟨x0, x1, x2, rfl⟩ := len3 (show xs.length = 3 from hlen)
  have h0 := hf 0 _ rfl
  have h1 := hf 1 _ rfl
  have h2 := hf 2 _ rfl
  simp [ci] at h0 h1 h2
  obtain ⟨a, e0⟩ := rd_int h0
  obtain ⟨b, e1⟩ := rd_int h1
  obtain ⟨c, e2⟩ := rd_int h2
  simp at e0 e1 e2
  exact ⟨⟨a, b, c⟩, by rw [e0, e1, e2]⟩
theorem rd_Bx (h : DataW.trod enc Tryz.prog w base spare held fuel 25 cs = some y) : ∃ b : Bx, cs = (aBx b).toList := by
  obtain ⟨xs, n, -, -, hl, hlen, hf⟩ := DataW.trod_struct Tryz.underlying25 h
  rw [cBx6] at hl
  obtain ⟨c0, c1, c2, c3, c4, c5, rfl⟩ := len6 hl
  obtain ⟨x0, x1, x2, rfl⟩ := len3 (show xs.length = 3 from hlen)
  have h0 := hf 0 _ rfl
  have h1 := hf 1 _ rfl
  have h2 := hf 2 _ rfl
  simp [cRg2] at h0 h1 h2
  obtain ⟨a, e0⟩ := rd_Rg h0
  obtain ⟨b, e1⟩ := rd_Rg h1
  obtain ⟨c, e2⟩ := rd_Rg h2
  simp [cRg] at e0 e1 e2
  exact ⟨⟨a, b, c⟩, by rw [e0.1, e0.2, e1.1, e1.2, e2.1, e2.2]⟩
theorem rd_Bc (h : DataW.trod enc Tryz.prog w base spare held fuel 142 cs = some y) : ∃ b : Bc, cs = cBc b ∧ b.name.size ≤ maxLen := by
  obtain ⟨xs, n, -, -, hl, hlen, hf⟩ := DataW.trod_struct Tryz.underlying142 h
  rw [cBc4] at hl
  obtain ⟨c0, c1, c2, c3, rfl⟩ := len4 hl
  obtain ⟨x0, x1, rfl⟩ := len2 (show xs.length = 2 from hlen)
  have h0 := hf 0 _ rfl
  have h1 := hf 1 _ rfl
  simp [cS, cPl3] at h0 h1
  obtain ⟨s, e0, -, hs⟩ := DataW.trod_string Tryz.underlying9 h0
  obtain ⟨p, e1⟩ := rd_Pl h1
  simp at e0 e1
  exact ⟨⟨s, p⟩, by rw [e0, e1.1, e1.2.1, e1.2.2]; rfl, hs⟩
theorem choose_list {α : Type} {p : Nat → α → Prop} : ∀ n, (∀ i, i < n → ∃ x, p i x) → ∃ l : List α, l.length = n ∧ ∀ (i : Nat) (x : α), l[i]? = some x → p i x
  | 0, _ => ⟨[], rfl, fun i x h => by simp at h⟩
  | n + 1, h => by
    obtain ⟨l, h1, h2⟩ := choose_list n fun i hi => h i (by omega)
    obtain ⟨x, hx⟩ := h n (by omega)
    refine ⟨l ++ [x], by simp [h1], fun i y hy => ?_⟩
    rw [List.getElem?_append] at hy
    split at hy
    · exact h2 i y hy
    · rename_i hi
      have : i = n := by
        have := (List.getElem?_eq_some_iff.1 hy).1
        simp at this
        omega
      subst this
      simp [h1] at hy
      exact hy ▸ hx
/-- A slice that came in, of elements that are so many cells each. -/
theorem rd_slice {α : Type} {c : α → List Value} {ok : α → Prop} {t e sz : Nat} (hu : Tryz.prog.underlying t = some (.slice e)) (hsz : Tryz.prog.cellsOf e = sz) (h0 : 0 < sz) (hcl : ∀ x, (c x).length = sz)
    (hr : ∀ (n : Nat) (cs' : List Value) (z : DataW H × List MemPlace), DataW.trod enc Tryz.prog w base spare held n e cs' = some z → ∃ x, cs' = c x ∧ ok x)
    (h : DataW.trod enc Tryz.prog w base spare held fuel t cs = some y) : ∃ A cap, ∃ l : List α, cs = [.slice A l.length cap] ∧ l.length ≤ cap ∧ cap ≤ maxLen ∧ Sl c sz w A l ∧ ∀ x ∈ l, ok x := by
  rcases open_slice hu h with ⟨rfl, -⟩ | ⟨a, len, cap, m, n, D, Pl, rfl, -, hlc, hcm, hm, -, hel⟩
  · exact ⟨none, 0, [], rfl, Nat.le_refl _, Nat.zero_le _, Sl.nil, fun x hx => by cases hx⟩
  · have hlm : len ≤ m := by rw [hm]; split <;> omega
    obtain ⟨l, hl, hx⟩ := choose_list (p := fun i x => w.cells? base (a.add (i * sz)) sz = some (c x) ∧ ok x) len fun i hi => by
      obtain ⟨cs', h1, h2⟩ := hel i (by omega)
      obtain ⟨x, rfl, hk⟩ := hr _ _ _ h2
      rw [hsz] at h1
      exact ⟨x, h1, hk⟩
    refine ⟨some a, cap, l, by rw [hl], by omega, hcm, fun k x hk => ?_, fun x hm => ?_⟩
    · obtain ⟨h1, -⟩ := hx k x hk
      obtain ⟨-, -, h2⟩ := World.cells?_some h1
      have hcell : ∀ j v, (c x)[j]? = some v → w.cell? ((a.add (k * sz)).add j) = some v := fun j v hv => by
        have hj := (List.getElem?_eq_some_iff.1 hv).1
        have := h2 j (by rw [hcl] at hj; exact hj)
        rw [this]
        exact hv
      obtain ⟨b, off, spot⟩ := a
      have hs : spot = none := by
        have hlt : 0 < l.length := by have := (List.getElem?_eq_some_iff.1 hk).1; omega
        obtain ⟨x0, hx0⟩ : ∃ x0, l[0]? = some x0 := ⟨l[0], by simp⟩
        obtain ⟨h1', -⟩ := hx 0 x0 hx0
        obtain ⟨-, -, h2'⟩ := World.cells?_some h1'
        have hv : ∃ v, (c x0)[0]? = some v := ⟨(c x0)[0]'(by rw [hcl]; exact h0), by simp⟩
        obtain ⟨v, hv⟩ := hv
        have := h2' 0 h0
        rw [hv] at this
        simp only [Nat.zero_mul, Addr.add, if_true] at this
        exact World.cell?_spot this
      subst hs
      refine ⟨b, off, rfl, fun j v hv => ?_⟩
      have := hcell j v hv
      rw [Go.WideShapes.add_plain, Go.WideShapes.add_plain] at this
      exact this
    · obtain ⟨i, hi, rfl⟩ := List.getElem_of_mem hm
      exact (hx i _ (List.getElem?_eq_getElem hi)).2
theorem rd_Nt (h : DataW.trod enc Tryz.prog w base spare held fuel 28 cs = some y) :
    ∃ (n : Nt) (A : Option Addr) (c : Nat), cs = (aNt n.world (.slice A n.bs.length c)).toList ∧ n.bs.length ≤ c ∧ Sl cBc 4 w A n.bs ∧ ∀ b ∈ n.bs, b.name.size ≤ maxLen := by
  obtain ⟨xs, n, -, -, hl, hlen, hf⟩ := DataW.trod_struct Tryz.underlying28 h
  rw [cNt7] at hl
  obtain ⟨c0, c1, c2, c3, c4, c5, c6, rfl⟩ := len7 hl
  obtain ⟨x0, x1, rfl⟩ := len2 (show xs.length = 2 from hlen)
  have h0 := hf 0 _ rfl
  have h1 := hf 1 _ rfl
  simp [cBx6, cBcs] at h0 h1
  obtain ⟨b, e0⟩ := rd_Bx h0
  obtain ⟨A, c, l, e1, g1, -, g2, g3⟩ := rd_slice (c := cBc) (ok := fun b : Bc => b.name.size ≤ maxLen) Tryz.underlying26 cBc4 (by decide) (fun _ => rfl) (fun _ _ _ hz => rd_Bc hz) h1
  simp at e0 e1
  exact ⟨⟨b, l⟩, A, c, by rw [e0.1, e0.2.1, e0.2.2.1, e0.2.2.2.1, e0.2.2.2.2.1, e0.2.2.2.2.2, e1], g1, g2, g3⟩
end
theorem agg_of {P : Program} {W : World} {base : Nat} {t : TypeId} {v : Value} {fs : Array Field} (hu : P.underlying t = some (.struct fs)) (h : Value.okWide P W .any base t v) : ∃ cs, v = .agg cs := by
  unfold Value.okWide at h
  rw [hu] at h
  exact ⟨_, h.choose_spec.1⟩
theorem agg_cells {cs : Array Value} {l : List Value} (h : (Value.agg cs).cells.toList = l) : Value.agg cs = .agg l.toArray := by
  rw [← h]
  simp [Value.cells]
end Go.Proofs.YtephimmamkafoaaGreat
namespace Go.Proofs.YtephimmamkafoaaGreat
open Go.RowKit Go.Shelf
attribute [local go_sem] bl_al bl_drew bl_drewN bl_refl bx_al bx_drew bx_drewN bx_refl
set_option maxRecDepth 20000
theorem r_Within (n lo hi : Int) (w : World) : Calls Tryz.prog 78 #[.int .i64 n, .int .i64 lo, .int .i64 hi] w (Same (.bool (inR n lo hi)) w) := by
  go_enter Tryz.func78, Tryz.ntmps78
  go_wp2
  all_goals (go_ret; exact ⟨by first | (simp [inR, *]; done) | (simp [inR]; intros; omega), rfl⟩)
theorem r_Sides (b : Bx) (w : World) : Calls Tryz.prog 77 #[vBx b] w (Ret (vBx b) w) := by
  go_enter Tryz.func77, Tryz.ntmps77
  go_wp2
  exact bodyPost_ret (v := vBx b) (by simp [results, Tryz.results77, go_sem]) rfl ⟨rfl, by (exact zE)⟩
theorem r_Coord (p : Pl) (w : World) : Calls Tryz.prog 76 #[vPl p] w (Ret (vPl p) w) := by
  go_enter Tryz.func76, Tryz.ntmps76
  go_wp2
  exact bodyPost_ret (v := vPl p) (by simp [results, Tryz.results76, go_sem]) rfl ⟨rfl, by (exact zE)⟩
theorem r_box (b : Bx) (w : World) : Calls Tryz.prog 80 #[vBx b] w (Ret (vBx b) w) := by
  go_enter Tryz.func80, Tryz.ntmps80
  go_wp2
  exact bodyPost_ret (v := vBx b) (by simp [results, Tryz.results80, go_sem]) rfl ⟨rfl, by (exact zE)⟩
theorem r_common (a b : Rg) (w : World) : Calls Tryz.prog 81 #[vRg a, vRg b] w (Ret (vRg (a.meet b)) w) := by
  go_enter Tryz.func81, Tryz.ntmps81
  go_wp2
  exact bodyPost_ret (v := vRg (a.meet b)) (by simp [results, Tryz.results81, go_sem, Rg.meet]) rfl ⟨rfl, by (exact zE)⟩
set_option maxHeartbeats 1000000 in
theorem r_IsEmpty (b : Bx) (w : World) : Calls Tryz.prog 29 #[vBx b] w (Ret (.bool (!b.ordered)) w) := by
  cases h0 : decide (b.x.hi < b.x.lo)
  all_goals cases h1 : decide (b.y.hi < b.y.lo)
  all_goals cases h2 : decide (b.z.hi < b.z.lo)
  all_goals
    go_enter Tryz.func29, Tryz.ntmps29
    go_upto_region 2 with ((go_at_call 77; (with_reducible refine (r_Sides b _).mono ?_); rintro e w3 ⟨rfl, hb3⟩; replace hb3 := bl_tt hb3))
    apply absB1 (w0 := w) (g0 := w3.heap.size)
    iterate 2 (focus exact zL)
    try clear hb3
    try clear hb0
    try clear k1
    intro wa hb0 k1
    (try simp only [List.setIfInBounds_toArray, List.set_cons_zero, List.set_cons_succ] at k1)
    have Lk1 := k1.later
    have Fk1 := k1.laterF
    have Qk1 := k1.lt
    go_wp2
    go_ret
    exact ⟨by simp [Bx.ordered, Bx.sides, h0, h1, h2], hb0⟩
set_option maxHeartbeats 1000000 in
theorem r_IsIn (b : Bx) (p : Pl) (w : World) : Calls Tryz.prog 31 #[vBx b, vPl p] w (Ret (.bool (b.has p)) w) := by
  have hr : Hid (b.has p = (inR p.x b.x.lo b.x.hi && inR p.y b.y.lo b.y.hi && inR p.z b.z.lo b.z.hi)) := rfl
  obtain ⟨bA, hA⟩ : ∃ b', inR p.x b.x.lo b.x.hi = b' := ⟨_, rfl⟩
  obtain ⟨bB, hB⟩ : ∃ b', inR p.y b.y.lo b.y.hi = b' := ⟨_, rfl⟩
  have hcA := Lib.hid fun W : World => hA ▸ r_Within p.x b.x.lo b.x.hi W
  have hcB := Lib.hid fun W : World => hB ▸ r_Within p.y b.y.lo b.y.hi W
  rw [hA, hB] at hr
  clear hA hB
  go_enter Tryz.func31, Tryz.ntmps31
  go_wp2
  apply absB2 (w0 := w) (g0 := w.heap.size) (g1 := w.heap.size + 1)
  iterate 3 (focus exact zL)
  try clear hb3
  try clear hb0
  try clear k0
  try clear k1
  intro wa hb0 k0 k1
  (try simp only [List.setIfInBounds_toArray, List.set_cons_zero, List.set_cons_succ] at k0 k1)
  have Lk0 := k0.later
  have Fk0 := k0.laterF
  have Qk0 := k0.lt
  have Lk1 := k1.later
  have Fk1 := k1.laterF
  have Qk1 := k1.lt
  refine wp_any (w0 := wa) ⟨[6, 7], [], [some 7, some 8, some 9, some 10, some 5, some 6, none, none], [[], [0], [], [0, 1, 2], [], [], [0, 1, 2, 3, 4, 5], [0, 1, 2, 3, 4, 5, 6]], [[], [0], [], [2], [], [], [], []]⟩ (fun γ => [(γ 4).n, (γ 5).n]) (by kernel_rfl) (by kernel_rfl) (by (exact zE)) (fun u => by simp only [putD, Act.put, List.setIfInBounds_toArray, List.set_cons_zero, List.set_cons_succ, Nat.zero_add, Nat.reduceAdd]; rfl) ?_
  apply RGW.on (i := 0) rfl
  · exact zG
  · intro γ u W hcur hd
    clear hd
    (try dsimp only)
    exact ⟨rfl, zS⟩
  · exact zC
  · rfl
  dsimp only [nA, cA]
  apply RGW.call (i := 1) rfl
  · exact zG
  · intro γ u W hcur hd
    obtain ⟨⟨h0, -, -⟩, -⟩ := hd
    dsimp only at h0
    (try simp only [h0])
    refine ⟨rfl, fun K hK => ?_⟩
    go_simp
    (go_at_call 77; (with_reducible refine (r_Sides b _).mono ?_); rintro e w3 ⟨rfl, hb3⟩; replace hb3 := bl_tt hb3)
    (try dsimp only)
    exact hK.out _ _ rfl (by (exact zE))
  · exact zC
  · rfl
  dsimp only [nA, cA]
  apply RGW.on (i := 2) rfl
  · exact zG
  · intro γ u W hcur hd
    clear hd
    (try dsimp only)
    exact ⟨rfl, zS⟩
  · exact zC
  · rfl
  dsimp only [nA, cA]
  apply RGW.call (i := 3) rfl
  · exact zG
  · intro γ u W hcur hd
    obtain ⟨⟨h2, -, -⟩, -⟩ := hd
    dsimp only at h2
    (try simp only [h2])
    refine ⟨rfl, fun K hK => ?_⟩
    go_simp
    (go_at_call 76; (with_reducible refine (r_Coord p _).mono ?_); rintro e w3 ⟨rfl, hb3⟩; replace hb3 := bl_tt hb3)
    (try dsimp only)
    exact hK.out _ _ rfl (by (exact zE))
  · exact zC
  · rfl
  dsimp only [nA, cA]
  apply RGW.alloc (i := 4) rfl
  · exact zG
  · intro γ u W hcur hd
    clear hd
    (try dsimp only)
    refine ⟨rfl, fun K hK => ?_⟩
    go_simp
    exact hK.out _ _ rfl rfl
  · exact zC
  · rfl
  · rfl
  dsimp only [nA, cA]
  apply RGW.alloc (i := 5) rfl
  · exact zG
  · intro γ u W hcur hd
    clear hd
    (try dsimp only)
    refine ⟨rfl, fun K hK => ?_⟩
    go_simp
    exact hK.out _ _ rfl rfl
  · exact zC
  · rfl
  · rfl
  dsimp only [nA, cA]
  refine RGW.skip (i := 6) rfl rfl ?_
  dsimp only [nA, cA]
  refine RGW.skip (i := 7) rfl rfl ?_
  dsimp only [nA, cA]
  refine RGW.fin (fun γ u wb hwb hd hdis => ?_)
  obtain ⟨⟨h0, -, -⟩, ⟨h1, -, -⟩, ⟨h2, -, -⟩, ⟨h3, -, -⟩, ⟨h4, r4, b4⟩, ⟨h5, r5, b5⟩, -⟩ := hd
  dsimp only at h0 h1 h2 h3 h4 h5 r4 r5 b4 b5
  have n4_5 := hdis 4 5 rfl rfl (Nat.lt_of_lt_of_eq (by decide : 4 < 8) (by kernel_rfl)) (Nat.lt_of_lt_of_eq (by decide : 5 < 8) (by kernel_rfl)) (by decide) _ (List.mem_singleton.2 rfl) _ (List.mem_singleton.2 rfl)
  clear hdis
  simp only [h0, h1, h2, h3, h4, h5]
  clear h5 h4 h3 h2 h1 h0
  replace b4 := b4 _ (List.mem_singleton.2 rfl)
  generalize hγ4 : (γ 4).n = g4 at *
  clear hγ4
  replace b5 := b5 _ (List.mem_singleton.2 rfl)
  generalize hγ5 : (γ 5).n = g5 at *
  clear hγ5
  clear u
  simp only [List.map_cons, List.map_nil]
  apply PlanW.step
  · exact zG
  · rfl
  intro K hK
  refine wp_store_keep (X := [g4, g5]) (w0 := wb) rfl rfl rfl (by with_reducible first | exact bx_refl _ _ | assumption) (by with_reducible first | assumption | (apply Blk.below (hb := hwb); assumption)) (by simp) (by kernel_rfl) (by rfl) (by simp [Value.oneCell']) (fun hres1 hcur => ?_)
  refine hK.out _ _ hcur (fun _ => ?_)
  clear hK K
  try simp only [Act.put, List.setIfInBounds_toArray, List.set_cons_zero, List.set_cons_succ]
  apply PlanW.step
  · exact zG
  · rfl
  intro K hK
  refine wp_store_keep (X := [g4, g5]) (w0 := wb) rfl rfl rfl (by with_reducible first | exact bx_refl _ _ | assumption) (by with_reducible first | assumption | (apply Blk.below (hb := hwb); assumption)) (by simp) (by kernel_rfl) (by rfl) (by simp [Value.oneCell']) (fun hres2 hcur => ?_)
  refine hK.out _ _ hcur (fun _ => ?_)
  clear hK K
  try simp only [Act.put, List.setIfInBounds_toArray, List.set_cons_zero, List.set_cons_succ]
  refine PlanW.done ?_
  have hb3 := bl_tt hwb
  apply absTB4 (w0 := w) (g0 := w.heap.size) (g1 := w.heap.size + 1) (g2 := g4) (g3 := g5)
  iterate 5 (focus exact zL)
  try clear hb3
  try clear Lk0
  try clear Fk0
  try clear Qk0
  try clear Lk1
  try clear Fk1
  try clear Qk1
  try clear hb0
  try clear k0
  try clear k1
  try clear k4
  try clear k5
  intro wc hb0 k0 k1 k4 k5
  (try simp only [List.setIfInBounds_toArray, List.set_cons_zero, List.set_cons_succ] at k0 k1 k4 k5)
  have Lk0 := k0.later
  have Fk0 := k0.laterF
  have Qk0 := k0.lt
  have Lk1 := k1.later
  have Fk1 := k1.laterF
  have Qk1 := k1.lt
  have Lk4 := k4.later
  have Fk4 := k4.laterF
  have Qk4 := k4.lt
  have Lk5 := k5.later
  have Fk5 := k5.laterF
  have Qk5 := k5.lt
  cases bA
  all_goals cases bB
  all_goals
    simp only [Bool.false_and, Bool.true_and] at hr
    go_wp2_with (go_at_call 78; (first | (with_reducible refine (hcA.out _).mono ?_) | (with_reducible refine (hcB.out _).mono ?_) | (with_reducible refine (r_Within p.z b.z.lo b.z.hi _).mono ?_)); rintro e w3 ⟨rfl, rfl⟩)
    go_ret
    exact ⟨by rw [hr.out] <;> rfl, hb0⟩
set_option maxHeartbeats 1000000 in
theorem r_Common (a b : Bx) (w : World) : Calls Tryz.prog 30 #[vBx a, vBx b] w (Ret (vBx (a.meet b)) w) := by
  go_enter Tryz.func30, Tryz.ntmps30
  go_wp2
  apply absB3 (w0 := w) (g0 := w.heap.size) (g1 := w.heap.size + 1) (g2 := w.heap.size + 2)
  iterate 4 (focus exact zL)
  try clear hb3
  try clear hb0
  try clear k0
  try clear k1
  try clear k2
  intro wa hb0 k0 k1 k2
  (try simp only [List.setIfInBounds_toArray, List.set_cons_zero, List.set_cons_succ] at k0 k1 k2)
  have Lk0 := k0.later
  have Fk0 := k0.laterF
  have Qk0 := k0.lt
  have Lk1 := k1.later
  have Fk1 := k1.laterF
  have Qk1 := k1.lt
  have Lk2 := k2.later
  have Fk2 := k2.laterF
  have Qk2 := k2.lt
  refine wp_any (w0 := wa) ⟨[6, 7], [], [some 7, some 8, some 9, some 10, some 5, some 6, none, none], [[], [0], [], [0, 1, 2], [], [], [0, 1, 2, 3, 4, 5], [0, 1, 2, 3, 4, 5, 6]], [[], [0], [], [2], [], [], [], []]⟩ (fun γ => [(γ 4).n, (γ 5).n]) (by kernel_rfl) (by kernel_rfl) (by (exact zE)) (fun u => by simp only [putD, Act.put, List.setIfInBounds_toArray, List.set_cons_zero, List.set_cons_succ, Nat.zero_add, Nat.reduceAdd]; rfl) ?_
  apply RGW.on (i := 0) rfl
  · exact zG
  · intro γ u W hcur hd
    clear hd
    (try dsimp only)
    exact ⟨rfl, zS⟩
  · exact zC
  · rfl
  dsimp only [nA, cA]
  apply RGW.call (i := 1) rfl
  · exact zG
  · intro γ u W hcur hd
    obtain ⟨⟨h0, -, -⟩, -⟩ := hd
    dsimp only at h0
    (try simp only [h0])
    refine ⟨rfl, fun K hK => ?_⟩
    go_simp
    (go_at_call 77; (with_reducible refine (r_Sides a _).mono ?_); rintro e w3 ⟨rfl, hb3⟩; replace hb3 := bl_tt hb3)
    (try dsimp only)
    exact hK.out _ _ rfl (by (exact zE))
  · exact zC
  · rfl
  dsimp only [nA, cA]
  apply RGW.on (i := 2) rfl
  · exact zG
  · intro γ u W hcur hd
    clear hd
    (try dsimp only)
    exact ⟨rfl, zS⟩
  · exact zC
  · rfl
  dsimp only [nA, cA]
  apply RGW.call (i := 3) rfl
  · exact zG
  · intro γ u W hcur hd
    obtain ⟨⟨h2, -, -⟩, -⟩ := hd
    dsimp only at h2
    (try simp only [h2])
    refine ⟨rfl, fun K hK => ?_⟩
    go_simp
    (go_at_call 77; (with_reducible refine (r_Sides b _).mono ?_); rintro e w3 ⟨rfl, hb3⟩; replace hb3 := bl_tt hb3)
    (try dsimp only)
    exact hK.out _ _ rfl (by (exact zE))
  · exact zC
  · rfl
  dsimp only [nA, cA]
  apply RGW.alloc (i := 4) rfl
  · exact zG
  · intro γ u W hcur hd
    clear hd
    (try dsimp only)
    refine ⟨rfl, fun K hK => ?_⟩
    go_simp
    exact hK.out _ _ rfl rfl
  · exact zC
  · rfl
  · rfl
  dsimp only [nA, cA]
  apply RGW.alloc (i := 5) rfl
  · exact zG
  · intro γ u W hcur hd
    clear hd
    (try dsimp only)
    refine ⟨rfl, fun K hK => ?_⟩
    go_simp
    exact hK.out _ _ rfl rfl
  · exact zC
  · rfl
  · rfl
  dsimp only [nA, cA]
  refine RGW.skip (i := 6) rfl rfl ?_
  dsimp only [nA, cA]
  refine RGW.skip (i := 7) rfl rfl ?_
  dsimp only [nA, cA]
  refine RGW.fin (fun γ u wb hwb hd hdis => ?_)
  obtain ⟨⟨h0, -, -⟩, ⟨h1, -, -⟩, ⟨h2, -, -⟩, ⟨h3, -, -⟩, ⟨h4, r4, b4⟩, ⟨h5, r5, b5⟩, -⟩ := hd
  dsimp only at h0 h1 h2 h3 h4 h5 r4 r5 b4 b5
  have n4_5 := hdis 4 5 rfl rfl (Nat.lt_of_lt_of_eq (by decide : 4 < 8) (by kernel_rfl)) (Nat.lt_of_lt_of_eq (by decide : 5 < 8) (by kernel_rfl)) (by decide) _ (List.mem_singleton.2 rfl) _ (List.mem_singleton.2 rfl)
  clear hdis
  simp only [h0, h1, h2, h3, h4, h5]
  clear h5 h4 h3 h2 h1 h0
  replace b4 := b4 _ (List.mem_singleton.2 rfl)
  generalize hγ4 : (γ 4).n = g4 at *
  clear hγ4
  replace b5 := b5 _ (List.mem_singleton.2 rfl)
  generalize hγ5 : (γ 5).n = g5 at *
  clear hγ5
  clear u
  simp only [List.map_cons, List.map_nil]
  apply PlanW.step
  · exact zG
  · rfl
  intro K hK
  refine wp_store_keep (X := [g4, g5]) (w0 := wb) rfl rfl rfl (by with_reducible first | exact bx_refl _ _ | assumption) (by with_reducible first | assumption | (apply Blk.below (hb := hwb); assumption)) (by simp) (by kernel_rfl) (by rfl) (by simp [Value.oneCell']) (fun hres1 hcur => ?_)
  refine hK.out _ _ hcur (fun _ => ?_)
  clear hK K
  try simp only [Act.put, List.setIfInBounds_toArray, List.set_cons_zero, List.set_cons_succ]
  apply PlanW.step
  · exact zG
  · rfl
  intro K hK
  refine wp_store_keep (X := [g4, g5]) (w0 := wb) rfl rfl rfl (by with_reducible first | exact bx_refl _ _ | assumption) (by with_reducible first | assumption | (apply Blk.below (hb := hwb); assumption)) (by simp) (by kernel_rfl) (by rfl) (by simp [Value.oneCell']) (fun hres2 hcur => ?_)
  refine hK.out _ _ hcur (fun _ => ?_)
  clear hK K
  try simp only [Act.put, List.setIfInBounds_toArray, List.set_cons_zero, List.set_cons_succ]
  refine PlanW.done ?_
  have hb3 := bl_tt hwb
  apply absTB5 (w0 := w) (g0 := w.heap.size) (g1 := w.heap.size + 1) (g2 := w.heap.size + 2) (g3 := g4) (g4 := g5)
  iterate 6 (focus exact zL)
  try clear hb3
  try clear Lk0
  try clear Fk0
  try clear Qk0
  try clear Lk1
  try clear Fk1
  try clear Qk1
  try clear Lk2
  try clear Fk2
  try clear Qk2
  try clear hb0
  try clear k0
  try clear k1
  try clear k2
  try clear k4
  try clear k5
  intro wc hb0 k0 k1 k2 k4 k5
  (try simp only [List.setIfInBounds_toArray, List.set_cons_zero, List.set_cons_succ] at k0 k1 k2 k4 k5)
  have Lk0 := k0.later
  have Fk0 := k0.laterF
  have Qk0 := k0.lt
  have Lk1 := k1.later
  have Fk1 := k1.laterF
  have Qk1 := k1.lt
  have Lk2 := k2.later
  have Fk2 := k2.laterF
  have Qk2 := k2.lt
  have Lk4 := k4.later
  have Fk4 := k4.laterF
  have Qk4 := k4.lt
  have Lk5 := k5.later
  have Fk5 := k5.laterF
  have Qk5 := k5.lt
  go_wp2
  refine wp_any (w0 := wc) ⟨[17], [], [some 11, some 12, some 13, some 14, some 15, some 16, some 17, some 18, some 19, some 20, some 21, some 22, some 23, some 24, some 25, some 26, some 27, none], [[], [0], [], [2], [0, 1, 2, 3], [], [5], [], [7], [0, 1, 2, 3, 4, 5, 6, 7, 8], [], [10], [], [12], [0, 1, 2, 3, 4, 5, 6, 7, 8, 9, 10, 11, 12, 13], [0, 1, 2, 3, 4, 5, 6, 7, 8, 9, 10, 11, 12, 13, 14], [0, 1, 2, 3, 4, 5, 6, 7, 8, 9, 10, 11, 12, 13, 14, 15], [0, 1, 2, 3, 4, 5, 6, 7, 8, 9, 10, 11, 12, 13, 14, 15, 16]], [[], [0], [], [2], [1, 3], [], [5], [], [7], [6, 8], [], [10], [], [12], [11, 13], [4, 9, 14], [15], []]⟩ (fun _ => [w.heap.size + 2]) (by kernel_rfl) (by kernel_rfl) (by (exact zE)) (fun u => by simp only [putD, Act.put, List.setIfInBounds_toArray, List.set_cons_zero, List.set_cons_succ, Nat.zero_add, Nat.reduceAdd]; rfl) ?_
  apply RGW.on (i := 0) rfl
  · exact zG
  · intro γ u W hcur hd
    clear hd
    (try dsimp only)
    exact ⟨rfl, zS⟩
  · exact zC
  · rfl
  dsimp only [nA, cA]
  apply RGW.on (i := 1) rfl
  · exact zG
  · intro γ u W hcur hd
    obtain ⟨⟨h0, -, -⟩, -⟩ := hd
    dsimp only at h0
    (try simp only [h0])
    exact ⟨rfl, zS⟩
  · exact zC
  · rfl
  dsimp only [nA, cA]
  apply RGW.on (i := 2) rfl
  · exact zG
  · intro γ u W hcur hd
    clear hd
    (try dsimp only)
    exact ⟨rfl, zS⟩
  · exact zC
  · rfl
  dsimp only [nA, cA]
  apply RGW.on (i := 3) rfl
  · exact zG
  · intro γ u W hcur hd
    obtain ⟨⟨h2, -, -⟩, -⟩ := hd
    dsimp only at h2
    (try simp only [h2])
    exact ⟨rfl, zS⟩
  · exact zC
  · rfl
  dsimp only [nA, cA]
  apply RGW.call (i := 4) rfl
  · exact zG
  · intro γ u W hcur hd
    obtain ⟨⟨h1, -, -⟩, ⟨h3, -, -⟩, -⟩ := hd
    dsimp only at h1 h3
    (try simp only [h1, h3])
    refine ⟨rfl, fun K hK => ?_⟩
    go_simp
    (go_at_call 81; (with_reducible refine (r_common a.x b.x _).mono ?_); rintro e w3 ⟨rfl, hb3⟩; replace hb3 := bl_tt hb3)
    (try dsimp only)
    exact hK.out _ _ rfl (by (exact zE))
  · exact zC
  · rfl
  dsimp only [nA, cA]
  apply RGW.on (i := 5) rfl
  · exact zG
  · intro γ u W hcur hd
    clear hd
    (try dsimp only)
    exact ⟨rfl, zS⟩
  · exact zC
  · rfl
  dsimp only [nA, cA]
  apply RGW.on (i := 6) rfl
  · exact zG
  · intro γ u W hcur hd
    obtain ⟨⟨h5, -, -⟩, -⟩ := hd
    dsimp only at h5
    (try simp only [h5])
    exact ⟨rfl, zS⟩
  · exact zC
  · rfl
  dsimp only [nA, cA]
  apply RGW.on (i := 7) rfl
  · exact zG
  · intro γ u W hcur hd
    clear hd
    (try dsimp only)
    exact ⟨rfl, zS⟩
  · exact zC
  · rfl
  dsimp only [nA, cA]
  apply RGW.on (i := 8) rfl
  · exact zG
  · intro γ u W hcur hd
    obtain ⟨⟨h7, -, -⟩, -⟩ := hd
    dsimp only at h7
    (try simp only [h7])
    exact ⟨rfl, zS⟩
  · exact zC
  · rfl
  dsimp only [nA, cA]
  apply RGW.call (i := 9) rfl
  · exact zG
  · intro γ u W hcur hd
    obtain ⟨⟨h6, -, -⟩, ⟨h8, -, -⟩, -⟩ := hd
    dsimp only at h6 h8
    (try simp only [h6, h8])
    refine ⟨rfl, fun K hK => ?_⟩
    go_simp
    (go_at_call 81; (with_reducible refine (r_common a.y b.y _).mono ?_); rintro e w3 ⟨rfl, hb3⟩; replace hb3 := bl_tt hb3)
    (try dsimp only)
    exact hK.out _ _ rfl (by (exact zE))
  · exact zC
  · rfl
  dsimp only [nA, cA]
  apply RGW.on (i := 10) rfl
  · exact zG
  · intro γ u W hcur hd
    clear hd
    (try dsimp only)
    exact ⟨rfl, zS⟩
  · exact zC
  · rfl
  dsimp only [nA, cA]
  apply RGW.on (i := 11) rfl
  · exact zG
  · intro γ u W hcur hd
    obtain ⟨⟨h10, -, -⟩, -⟩ := hd
    dsimp only at h10
    (try simp only [h10])
    exact ⟨rfl, zS⟩
  · exact zC
  · rfl
  dsimp only [nA, cA]
  apply RGW.on (i := 12) rfl
  · exact zG
  · intro γ u W hcur hd
    clear hd
    (try dsimp only)
    exact ⟨rfl, zS⟩
  · exact zC
  · rfl
  dsimp only [nA, cA]
  apply RGW.on (i := 13) rfl
  · exact zG
  · intro γ u W hcur hd
    obtain ⟨⟨h12, -, -⟩, -⟩ := hd
    dsimp only at h12
    (try simp only [h12])
    exact ⟨rfl, zS⟩
  · exact zC
  · rfl
  dsimp only [nA, cA]
  apply RGW.call (i := 14) rfl
  · exact zG
  · intro γ u W hcur hd
    obtain ⟨⟨h11, -, -⟩, ⟨h13, -, -⟩, -⟩ := hd
    dsimp only at h11 h13
    (try simp only [h11, h13])
    refine ⟨rfl, fun K hK => ?_⟩
    go_simp
    (go_at_call 81; (with_reducible refine (r_common a.z b.z _).mono ?_); rintro e w3 ⟨rfl, hb3⟩; replace hb3 := bl_tt hb3)
    (try dsimp only)
    exact hK.out _ _ rfl (by (exact zE))
  · exact zC
  · rfl
  dsimp only [nA, cA]
  apply RGW.on (i := 15) rfl
  · exact zG
  · intro γ u W hcur hd
    obtain ⟨⟨h4, -, -⟩, ⟨h9, -, -⟩, ⟨h14, -, -⟩, -⟩ := hd
    dsimp only at h4 h9 h14
    (try simp only [h4, h9, h14])
    exact ⟨rfl, zS⟩
  · exact zC
  · rfl
  dsimp only [nA, cA]
  apply RGW.call (i := 16) rfl
  · exact zG
  · intro γ u W hcur hd
    obtain ⟨⟨h15, -, -⟩, -⟩ := hd
    dsimp only at h15
    (try simp only [h15])
    refine ⟨rfl, fun K hK => ?_⟩
    go_simp
    (go_at_call 80; (with_reducible refine (r_box ⟨a.x.meet b.x, a.y.meet b.y, a.z.meet b.z⟩ _).mono ?_); rintro e w3 ⟨rfl, hb3⟩; replace hb3 := bl_tt hb3)
    (try dsimp only)
    exact hK.out _ _ rfl (by (exact zE))
  · exact zC
  · rfl
  dsimp only [nA, cA]
  refine RGW.skip (i := 17) rfl rfl ?_
  dsimp only [nA, cA]
  refine RGW.fin (fun γ u wd hwd hd hdis => ?_)
  obtain ⟨⟨h0, -, -⟩, ⟨h1, -, -⟩, ⟨h2, -, -⟩, ⟨h3, -, -⟩, ⟨h4, -, -⟩, ⟨h5, -, -⟩, ⟨h6, -, -⟩, ⟨h7, -, -⟩, ⟨h8, -, -⟩, ⟨h9, -, -⟩, ⟨h10, -, -⟩, ⟨h11, -, -⟩, ⟨h12, -, -⟩, ⟨h13, -, -⟩, ⟨h14, -, -⟩, ⟨h15, -, -⟩, ⟨h16, -, -⟩, -⟩ := hd
  dsimp only at h0 h1 h2 h3 h4 h5 h6 h7 h8 h9 h10 h11 h12 h13 h14 h15 h16
  clear hdis
  simp only [h0, h1, h2, h3, h4, h5, h6, h7, h8, h9, h10, h11, h12, h13, h14, h15, h16]
  clear h16 h15 h14 h13 h12 h11 h10 h9 h8 h7 h6 h5 h4 h3 h2 h1 h0
  clear u
  simp only [List.map_cons, List.map_nil]
  apply PlanW.step
  · exact zG
  · rfl
  intro K hK
  refine wp_store_keep (X := [w.heap.size + 2]) (w0 := wd) rfl rfl rfl (by with_reducible first | exact bx_refl _ _ | assumption) (by with_reducible first | assumption | (apply Blk.below (hb := hwd); assumption)) (by simp) (by kernel_rfl) (by rfl) (by simp [Value.oneCell']) (fun hres1 hcur => ?_)
  refine hK.out _ _ hcur (fun _ => ?_)
  clear hK K
  try simp only [Act.put, List.setIfInBounds_toArray, List.set_cons_zero, List.set_cons_succ]
  refine PlanW.done ?_
  have hb3 := bl_tt hwd
  go_wp2
  apply absPB3 (w0 := w) (g0 := w.heap.size) (g1 := w.heap.size + 1) (g2 := w.heap.size + 2)
  iterate 4 (focus exact zL)
  try clear hb3
  try clear Lk0
  try clear Fk0
  try clear Qk0
  try clear Lk1
  try clear Fk1
  try clear Qk1
  try clear Lk2
  try clear Fk2
  try clear Qk2
  try clear Lk4
  try clear Fk4
  try clear Qk4
  try clear Lk5
  try clear Fk5
  try clear Qk5
  try clear hb0
  try clear k0
  try clear k1
  try clear k2
  intro wf hb0 k0 k1 k2
  (try simp only [List.setIfInBounds_toArray, List.set_cons_zero, List.set_cons_succ] at k0 k1 k2)
  have hr := k2.cell
  refine bodyPost_ret (v := vBx (a.meet b)) (by simp [results, Tryz.results30, go_sem, hr, Bx.meet]) rfl ⟨rfl, hb0⟩
end Go.Proofs.YtephimmamkafoaaGreat
namespace Go.Proofs.YtephimmamkafoaaGreat
open Go.RowKit Go.Shelf
attribute [local go_sem] bl_al bl_drew bl_drewN bl_refl bx_al bx_drew bx_drewN bx_refl index_b0 index_b1 index_b2
set_option maxRecDepth 20000
end Go.Proofs.YtephimmamkafoaaGreat
