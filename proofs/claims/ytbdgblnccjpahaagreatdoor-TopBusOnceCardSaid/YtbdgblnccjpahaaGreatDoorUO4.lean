/-
  Slices of a call's own: what becomes of them in later worlds, copies of slices. Nothing here speaks of the program's functions.
  Walks: strings.SplitSeq at a separator of one byte: the iterator yields the parts.
  A loop over a closure that is an iterator, whose rounds may end the loop, and that may itself stand within a round. A round turns the caller's blocks X, and cells of some types at D and above; the iterator turns blocks Y of its own and new ones, but no cells of these types.
  Walk: strings.SplitSeq's iterator at a separator of one byte, where the rounds may turn cells of some types.
  Walk: strings.Cut at a separator of one byte.
  Plain: what a net says, without where it lies.
-/
import Derived.Test.YtbdgblnccjpahaaGreatDoorUO3
import Derived.ArgAppend
import Derived.Laws.OwnMore
import Derived.Laws.BitsAllLaws
import Derived.Test.YtbdgblnccjpahaaGreatDoorUO1
import Derived.OwnWalkIn
import Derived.Laws.Strings2
import Derived.RangeFuncNested
set_option linter.unusedSimpArgs false
set_option linter.unusedVariables false
namespace Go.Proofs.YtbdgblnccjpahaaGreatDoor
open Go.RowKit
set_option maxRecDepth 20000
/-- A slice of the call's own that holds these numbers. -/
def RetI (L : List Int) (w : World) (e : Ending) (w' : World) : Prop :=
  ∃ A c, e = .returned (.slice A L.length c) ∧ Below w.heap.size w w' ∧ w'.ownsRow w.heap.size 3 1 (.slice A L.length c) L.length (L.map (.int .i64))
theorem infoI : (Tryz.prog.info? 3).map (fun i => (i.zero, i.size, i.bytes)) = some (some (.int .i64 0), 1, 8) := by kernel_rfl
theorem own_ge {w : World} {base n : Nat} {e : TypeId} {size : Nat} {v : Value} {xs : List Value} (h : w.ownsRow base e size v n xs) : ∀ k, v.ownBlock = some k → base ≤ k := fun k hk => by
  rcases h.2 with ⟨e, _⟩ | ⟨g, cap, cur, e, hg, _⟩
  · rw [e] at hk; simp [Value.ownBlock] at hk
  · rw [e] at hk; simp [Value.ownBlock] at hk; omega
theorem own_below {W W' : World} {b n : Nat} {e : TypeId} {size : Nat} {v : Value} {xs : List Value} (h : W.ownsRow b e size v n xs) (hb : Below W.heap.size W W') : W'.ownsRow b e size v n xs := by
  refine ⟨h.1, ?_⟩
  rcases h.2 with h2 | ⟨g, cap, cur, e1, e2, e3, e4⟩
  · exact .inl h2
  · exact .inr ⟨g, cap, cur, e1, e2, (hb.block g (Array.getElem?_eq_some_iff.1 e3).1).trans e3, e4⟩
theorem own_mono {W : World} {b b' n : Nat} {e : TypeId} {size : Nat} {v : Value} {xs : List Value} (hb : b ≤ b') (h : W.ownsRow b' e size v n xs) : W.ownsRow b e size v n xs := by
  refine ⟨h.1, ?_⟩
  rcases h.2 with h2 | ⟨g, cap, cur, e1, e2, e4⟩
  · exact .inl h2
  · exact .inr ⟨g, cap, cur, e1, Nat.le_trans hb e2, e4⟩
theorem RetI.of {L : List Int} {w w' : World} {v : Value} (hb : Below w.heap.size w w') (h : w'.ownsRow w.heap.size 3 1 v L.length (L.map (.int .i64))) : RetI L w (.returned v) w' := by
  rcases h.2 with ⟨e, hn⟩ | ⟨g, cap, cur, e, h2⟩
  · refine ⟨none, 0, ?_, hb, ?_⟩
    · rw [e, hn]
    · rw [hn]; rw [e, hn] at h; exact h
  · exact ⟨some ⟨g, 0, none⟩, cap, by rw [e], hb, by rw [e] at h; exact h⟩
theorem own_bx {b n : Nat} {X : List Nat} {A B : World} {e : TypeId} {size : Nat} {v : Value} {xs : List Value} (h : A.ownsRow b e size v n xs) (hk : BX X A B) (hX : ∀ x ∈ X, x < b) : B.ownsRow b e size v n xs := by
  refine ⟨h.1, ?_⟩
  rcases h.2 with h2 | ⟨g, cap, cur, e1, e2, e3, e4⟩
  · exact .inl h2
  · exact .inr ⟨g, cap, cur, e1, e2, (hk.block g (Array.getElem?_eq_some_iff.1 e3).1 (fun hx => by have := hX g hx; omega)).trans e3, e4⟩
theorem own_sl {W : World} {b c : Nat} {e : TypeId} {A : Option Addr} {L : List Int} (h : W.ownsRow b e 1 (.slice A L.length c) L.length (L.map (.int .i64))) : Sl cI 1 W A L := by
  intro k x hx
  have hk := (List.getElem?_eq_some_iff.1 hx).1
  rcases h.2 with ⟨_, e0⟩ | ⟨g, cap, cur, e1, _, e3, _, _, _, e4⟩
  · omega
  · injection e1 with e1 _ _
    refine ⟨g, 0, e1, fun j v hv => ?_⟩
    match j, hv with
    | 0, hv =>
      simp only [cI, List.getElem?_cons_zero] at hv
      injection hv with hv
      subst hv
      simp only [World.cell?, e3, Nat.zero_add, Nat.mul_one, Nat.add_zero, Nat.zero_le, if_true]
      have h5 : (cur.toList.take (L.length * 1))[k]? = some (.int .i64 x) := by rw [e4]; simp [hx]
      rw [List.getElem?_take, if_pos (by omega)] at h5
      simpa using h5
    | j + 1, hv => simp [cI] at hv
theorem wide_fn (f : FuncId) : Fence.wide.fn f := trivial
theorem undef_bool {b : Bool} : some undef ≠ some (Value.bool b) := by simp [undef]
theorem flat_len {α β : Type} (f : α → List β) (m : Nat) (h : ∀ x, (f x).length = m) : ∀ l : List α, (l.flatMap f).length = l.length * m
  | [] => by simp
  | x :: l => by
    rw [List.flatMap_cons, List.length_append, h, flat_len f m h l, List.length_cons, Nat.add_mul, Nat.one_mul]
    omega
theorem flat_at {α : Type} {cs : α → List Value} {sz : Nat} (hcs : ∀ x, (cs x).length = sz) : ∀ {l : List α} {j : Nat} {u : Value}, (l.flatMap cs)[j]? = some u → ∃ k x i, l[k]? = some x ∧ (cs x)[i]? = some u ∧ j = k * sz + i
  | [], j, u, h => by simp at h
  | y :: l, j, u, h => by
    rw [List.flatMap_cons, List.getElem?_append] at h
    by_cases hj : j < (cs y).length
    · rw [if_pos hj] at h
      exact ⟨0, y, j, rfl, h, by simp⟩
    · rw [if_neg hj] at h
      obtain ⟨k, x, i, h1, h2, h3⟩ := flat_at hcs h
      refine ⟨k + 1, x, i, by simpa using h1, h2, ?_⟩
      rw [hcs] at h3 hj
      rw [Nat.add_mul]
      omega
theorem flat_len' {α : Type} {cs : α → List Value} {sz : Nat} (hcs : ∀ x, (cs x).length = sz) (l : List α) : (l.flatMap cs).length = l.length * sz := flat_len cs sz hcs l
theorem flat_get {α : Type} {cs : α → List Value} {sz : Nat} (hcs : ∀ x, (cs x).length = sz) : ∀ {l : List α} {k i : Nat} {x : α} {u : Value}, l[k]? = some x → (cs x)[i]? = some u → (l.flatMap cs)[k * sz + i]? = some u
  | [], k, i, x, u, h, _ => by simp at h
  | y :: l, 0, i, x, u, h, hu => by
    simp at h
    subst h
    have := (List.getElem?_eq_some_iff.1 hu).1
    rw [List.flatMap_cons, List.getElem?_append, if_pos (by omega)]
    simpa using hu
  | y :: l, k + 1, i, x, u, h, hu => by
    rw [List.flatMap_cons, List.getElem?_append, hcs, if_neg (by rw [Nat.add_mul]; omega)]
    have := flat_get hcs (l := l) (k := k) (by simpa using h) hu
    rw [← this]
    congr 1
    rw [Nat.add_mul]
    omega
theorem own_slC {α : Type} {cs : α → List Value} {sz : Nat} (hcs : ∀ x, (cs x).length = sz) (h0 : 0 < sz) {W : World} {b c : Nat} {e : TypeId} {A : Option Addr} {l : List α} (h : W.ownsRow b e sz (.slice A l.length c) l.length (l.flatMap cs)) : Sl cs sz W A l := by
  intro k x hx
  have hk := (List.getElem?_eq_some_iff.1 hx).1
  rcases h.2 with ⟨_, e0⟩ | ⟨g, cap, cur, e1, _, e3, _, _, _, e4⟩
  · omega
  · injection e1 with e1 _ _
    refine ⟨g, 0, e1, fun j v hv => ?_⟩
    have h5 := flat_get hcs hx hv
    rw [← e4, List.getElem?_take] at h5
    split at h5
    · simp only [World.cell?, e3, Nat.zero_add, Nat.zero_le, if_true]
      simpa using h5
    · simp at h5
section
variable {P : Program} {α : Type} {cs : α → List Value} {w : World} {t e g size bytes : Nat} {i : TypeInfo} {z : Value} {A : Option Addr} {l : List α} {c : Nat}
/-- 'append([]T{}, l...)': a slice of the call's own with l's elements. -/
theorem run_copy (ty : TypeId) (ht : P.underlying t = some (.slice e)) (hi : P.info? e = some i) (hz : i.zero = some z) (hsize : i.size = size) (hby : i.bytes = bytes) (hzs : z.cells.size = size) (hsz : 0 < size)
    (hcs : ∀ x, (cs x).length = size) (h1 : ∀ x, ∀ u ∈ cs x, u.oneCell' = true) (hs : Sl cs size w A l) (hl : l.length ≤ 1000) (hb : bytes ≤ 1000) (hg : Blk w g e #[]) :
    ∃ A2 c2 w', (Builtin.append_ #[t, t] ty #[.slice (some ⟨g, 0, none⟩) 0 0, .slice A l.length c]).run P w = .ok (.slice A2 l.length c2) w' ∧ w'.ownsRow g e size (.slice A2 l.length c2) l.length (l.flatMap cs) ∧ Below w.heap.size w w' := by
  by_cases h0 : l = []
  · subst h0
    refine ⟨some ⟨g, 0, none⟩, 0, w, ?_, ⟨by simp, .inr ⟨g, 0, #[], rfl, Nat.le_refl _, hg, by simp, by unfold maxLen; omega, by simp, by simp⟩⟩, bl_refl w⟩
    cases A with
    | none => simp [Builtin.append_, run_underlying ht, sizeOf, typeInfo, hi, Builtin.lenOf, Builtin.firstCells, storeCells, loadCells, loadCellsFrom]
    | some ad => simp [Builtin.append_, run_underlying ht, sizeOf, typeInfo, hi, Builtin.lenOf, Builtin.firstCells, storeCells, loadCells, loadCellsFrom]
  · obtain ⟨x, l', rfl⟩ : ∃ x l', l = x :: l' := by
      cases l with
      | nil => exact absurd rfl h0
      | cons x l' => exact ⟨x, l', rfl⟩
    obtain ⟨b, off, hA, -⟩ := hs 0 x rfl
    subst hA
    have hbd : (0 + (x :: l').length) * bytes ≤ 140737488355328 := by
      have := Nat.mul_le_mul hl hb
      rw [Nat.zero_add]
      omega
    obtain ⟨v', w', r1, r2, r3⟩ := run_append_arg_grows (P := P) w t ty e i z size bytes ht hi hz hsize hby hzs hsz ⟨g, 0, none⟩ 0 0 [] (by simp) (by simp) ⟨b, off, none⟩ (x :: l').length c ((x :: l').flatMap cs) (flat_len' hcs _)
      (fun j u hj => by
        obtain ⟨k, y, i', h2, h3, h4⟩ := flat_at hcs hj
        obtain ⟨b', off', e1, hc⟩ := hs k y h2
        injection e1 with e1
        injection e1 with e1 e2 _
        subst e1 e2
        have := hc i' u h3
        rw [h4]
        have hadd : (⟨b, off, none⟩ : Addr).add (k * size + i') = ⟨b, off + k * size + i', none⟩ := by unfold Addr.add; split <;> simp_all [Nat.add_assoc]
        rw [hadd]
        exact this) (by simp) (by unfold maxLen; omega) hbd
    have hw := hg.lt
    rw [Nat.zero_add, List.nil_append] at r2
    rcases r2.2 with ⟨_, e0⟩ | ⟨g2, cap, cur, e1, e2, e3⟩
    · simp at e0
    · subst e1
      exact ⟨_, _, w', r1, own_mono (by omega) r2, ⟨r3.os, r3.tape, r3.output, r3.size, fun k hk => r3.block k hk (by simp)⟩⟩
theorem wp_copy {o : Oper} {a : Act} {K : Act → World → Prop} {Q : Exit → Act → World → Prop} (s x : Operand) (ho : o.op = .call { callee := .builtin .append, args := #[s, x], argTypes := #[t, t] })
    (ht : P.underlying t = some (.slice e)) (hi : P.info? e = some i) (hz : i.zero = some z) (hsize : i.size = size) (hby : i.bytes = bytes) (hzs : z.cells.size = size) (hsz : 0 < size)
    (hcs : ∀ x, (cs x).length = size) (h1 : ∀ x, ∀ u ∈ cs x, u.oneCell' = true) (hs' : a.eval s = .slice (some ⟨g, 0, none⟩) 0 0) (hx : a.eval x = .slice A l.length c) (hs : Sl cs size w A l) (hl : l.length ≤ 1000) (hb : bytes ≤ 1000) (hg : Blk w g e #[])
    (h : ∀ A2 c2 w', w'.ownsRow g e size (.slice A2 l.length c2) l.length (l.flatMap cs) → Below w.heap.size w w' → K (a.put o.dst (.slice A2 l.length c2)) w') : o.wp P a w K Q := by
  obtain ⟨A2, c2, w', hr, h2, h3⟩ := run_copy (P := P) o.type ht hi hz hsize hby hzs hsz hcs h1 hs hl hb hg (c := c)
  unfold Oper.wp execOp
  simp only [ho, resolve, invoke, builtin, Sem.run_bind, Sem.run_pure, Result.andThen_ok, List.map_toArray, List.map_cons, List.map_nil, hs', hx, hr]
  exact h _ _ _ h2 h3
end
theorem Blk.slC {α : Type} {cs : α → List Value} {sz : Nat} (hcs : ∀ x, (cs x).length = sz) {w : World} {g : Nat} {t : TypeId} {l : List α} (h : Blk w g t (l.flatMap cs).toArray) : Sl cs sz w (some ⟨g, 0, none⟩) l := fun k x hx =>
  ⟨g, 0, rfl, fun j v hv => by
    have := flat_get hcs hx hv
    have e := h.cell (k * sz + j)
    rw [Nat.zero_add, e]
    simpa using this⟩
/-- A block of integers is a slice's list. -/
theorem Blk.ints {w : World} {g : Nat} {t : TypeId} {l : List Int} (h : Blk w g t (l.map (Value.int .i64)).toArray) : Sl cI 1 w (some ⟨g, 0, none⟩) l := fun k x hx =>
  ⟨g, 0, rfl, fun j v hv => by
    have hj : j = 0 := by
      have := (List.getElem?_eq_some_iff.1 hv).1
      simp [cI] at this; omega
    subst hj
    have hv' : v = .int .i64 x := by simpa [cI] using hv.symm
    subst hv'
    have := h.cell k
    simp only [Nat.zero_add, Nat.mul_one, Nat.add_zero]
    rw [this]
    simp [hx]⟩
theorem bx_nil {w W : World} (h : BX [] w W) : Below w.heap.size w W := ⟨h.os, h.tape, h.output, h.size, fun k hk => h.block k hk (by simp)⟩
/-- What lay in w still lies where only blocks of later than w turned. -/
theorem sl_new {α : Type} {cs : α → List Value} {sz : Nat} {w W : World} {X : List Nat} {L : List α} {A : Option Addr} (h : Sl cs sz w A L) (hb : BX X w W) (hX : ∀ x ∈ X, w.heap.size ≤ x) : Sl cs sz W A L := fun k x hx => by
  obtain ⟨b, off, e, hc⟩ := h k x hx
  refine ⟨b, off, e, fun j v hv => ?_⟩
  have h1 := hc j v hv
  have hlt := World.block_lt_of_cell? w _ h1
  have hne : b ∉ X := fun hm => by have := hX b hm; have : b < w.heap.size := hlt; omega
  have : W.heap[b]? = w.heap[b]? := hb.block b hlt hne
  simp only [World.cell?] at h1 ⊢
  rw [this]
  exact h1
end Go.Proofs.YtbdgblnccjpahaaGreatDoor
namespace Go.Proofs.YtbdgblnccjpahaaGreatDoor
open Go.RowKit Go.Shelf
attribute [local go_sem] bl_al bl_drew bl_drewN bl_refl bx_al bx_drew bx_drewN bx_refl Oper.semAt_some
set_option maxRecDepth 20000
def EncP (p : List UInt8) (args : Array Value) (_ : World) : Prop := args = #[.string ⟨p.toArray⟩]
set_option maxHeartbeats 4000000 in
theorem c_SplitSeq (s sep : ByteArray) (w : World) : Calls Tryz.prog 59 #[.string s, .string sep] w
    (fun e w' => e = .returned (.func (.func 155) #[] #[.pointer (some ⟨w.heap.size + 1, 0, none⟩), .pointer (some ⟨w.heap.size, 0, none⟩), .pointer (some ⟨w.heap.size + 2, 0, none⟩)]) ∧ Below w.heap.size w w' ∧
      Blk w' w.heap.size 9 #[.string s] ∧ Blk w' (w.heap.size + 1) 9 #[.string sep] ∧ Blk w' (w.heap.size + 2) 3 #[.int .i64 0]) := by
  go_enter Tryz.func59, Tryz.ntmps59
  go_wp2
  go_ret
  refine ⟨rfl, by (exact zE), by (exact zK), by (exact zK), by (exact zK)⟩
/-- How long the string is that a cell holds. -/
def strAt (g : Nat) (W : World) : Nat := match W.cell? ⟨g, 0, none⟩ with
  | some (.string s) => s.size
  | _ => 0
theorem strAt_blk {g : Nat} {W : World} {t : TypeId} {r : List UInt8} (h : Blk W g t #[.string ⟨r.toArray⟩]) : strAt g W = r.length := by
  unfold strAt
  rw [h.cell]
  rfl
set_option maxHeartbeats 8000000 in
theorem split_iter (l : List UInt8) (c : UInt8) (g D : Nat) (X : List Nat) (W0 : World) (hD : W0.heap.size = D) (hl : l.length ≤ 1000000) (k0 : Blk W0 g 9 #[.string ⟨l.toArray⟩]) (k1 : Blk W0 (g + 1) 9 #[.string ⟨#[c]⟩]) (k2 : Blk W0 (g + 2) 3 #[.int .i64 0])
    (hX : ∀ x ∈ X, x < D ∧ x ≠ g ∧ x ≠ g + 1 ∧ x ≠ g + 2) :
    YieldsS Tryz.prog D X [g] 155 #[.pointer (some ⟨g + 1, 0, none⟩), .pointer (some ⟨g, 0, none⟩), .pointer (some ⟨g + 2, 0, none⟩)] EncP (splitC c l) W0 := by
  intro ln J Jx W hb hJ hJx hY h0
  refine callsIn_wide.2 ?_
  replace hY := Lib.hid hY
  replace hJ := Lib.hid hJ
  replace hJx := Lib.hid hJx
  replace h0 := Lib.hid h0
  have hgD : g + 2 < D := hD ▸ k2.lt
  replace k0 := k0.below (hD ▸ hb)
  replace k1 := k1.below (hD ▸ hb)
  replace k2 := k2.below (hD ▸ hb)
  clear hb
  have hgX : g ∉ X ∧ g + 1 ∉ X ∧ g + 2 ∉ X := ⟨fun h => (hX _ h).2.1 rfl, fun h => (hX _ h).2.2.1 rfl, fun h => (hX _ h).2.2.2 rfl⟩
  show Calls Tryz.prog 155 #[.func (.yield ln) #[] #[], .pointer (some ⟨g + 1, 0, none⟩), .pointer (some ⟨g, 0, none⟩), .pointer (some ⟨g + 2, 0, none⟩)] W _
  obtain ⟨xs, hxs⟩ : ∃ xs, Hid (splitC c l = xs) := ⟨_, rfl⟩
  rw [hxs.out] at hY ⊢
  have L0 := k0.cell
  have L1 := k1.cell
  go_enter Tryz.func155, Tryz.ntmps155
  go_wp2
  go_loopw [] (fun wr => ∃ (pre : List (List UInt8)) (r : List UInt8), pre ++ splitC c r = xs ∧ r.length ≤ l.length ∧ J pre wr ∧ Blk wr g 9 #[.string ⟨r.toArray⟩] ∧ Blk wr (g + 1) 9 #[.string ⟨#[c]⟩] ∧ Blk wr (g + 2) 3 #[.int .i64 0]) (fun W => strAt g W)
  case atStart => exact ⟨[], l, by rw [List.nil_append, hxs.out], Nat.le_refl _, h0.out, k0, k1, k2⟩
  case round =>
    clear k0 k1 k2 h0 L0 L1
    obtain ⟨pre, r, hpr, hrl, hj, k0, k1, k2⟩ := hrel
    replace hj := Lib.hid hj
    have hm := Lib.hid (strAt_blk k0)
    have L0 := k0.cell
    have L1 := k1.cell
    have L2 := k2.cell
    have hix := Lib.hid fun W : World => Tryz.strings_Index_one ⟨r.toArray⟩ c W
    obtain ⟨ix, Hix⟩ : ∃ z, Hid (Lib.indexByte r c = z) := ⟨_, rfl⟩
    have hix' : Hid (∀ W : World, Calls Tryz.prog 157 #[.string ⟨r.toArray⟩, .string ⟨#[c]⟩] W (Same (.int .i64 ix) W)) := fun W => (hix.out W).mono fun e w' ⟨h1, h2⟩ => ⟨by rw [h1]; exact congrArg (fun z => Ending.returned (.int .i64 z)) Hix.out, h2.symm⟩
    clear hix
    have hbnd : r.length ≤ 1000000 := by omega
    by_cases hneg : ix < 0
    · have hlast := splitC_none c r (by rw [Hix.out]; exact hneg)
      rw [hlast] at hpr
      obtain ⟨fn, tmps, assign, body, hy, hR⟩ := hY.out pre r #[.string ⟨r.toArray⟩] wr hj.out (by rw [hpr]; exact List.prefix_refl _) rfl
      go_upto_region 10 with (go_at_call 157; (with_reducible refine (hix'.out _).mono ?_); rintro e w3 ⟨rfl, rfl⟩)
      refine (wpIn_wide (n := 5)).1 ?_
      gi_wp2
      refine hR.mono ?_
      rintro e W3 (⟨rfl, hj3, -⟩ | ⟨rfl, hjx⟩)
      · rw [hpr] at hj3
        gi_wp2
        go_wp2
        go_end0
        exact ⟨⟨_, rfl⟩, .inl hj3⟩
      · gi_wp2
        go_wp2
        go_end0
        exact ⟨⟨_, rfl⟩, .inr ⟨_, by rw [hpr]; exact List.prefix_refl _, hjx⟩⟩
    · obtain ⟨i, hi⟩ : ∃ i : Nat, ix = i := ⟨ix.toNat, by omega⟩
      subst hi
      obtain ⟨hil, hstep⟩ := splitC_some c r i Hix.out
      obtain ⟨fn, tmps, assign, body, hy, hR⟩ := hY.out pre (r.take i) #[.string ⟨(r.take i).toArray⟩] wr hj.out (by rw [← hpr, hstep]; exact ⟨_, by rw [List.append_assoc]; rfl⟩) rfl
      go_upto_region 8 with (go_at_call 157; (with_reducible refine (hix'.out _).mono ?_); rintro e w3 ⟨rfl, rfl⟩)
      have hex : (ByteArray.mk r.toArray).extract 0 i = ⟨(r.take i).toArray⟩ := by rw [ByteArray.extract_mk, List.drop_zero, Nat.sub_zero]
      have hex2 : (ByteArray.mk r.toArray).extract (i + 1) r.length = ⟨(r.drop (i + 1)).toArray⟩ := by rw [ByteArray.extract_mk, List.take_of_length_le (by simp)]
      rw [hex]
      refine (wpIn_wide (n := 5)).1 ?_
      gi_wp2
      refine hR.mono ?_
      rintro e W3 (⟨rfl, hj3, hrn⟩ | ⟨rfl, hjx⟩)
      rotate_left
      · gi_wp2
        go_wp2
        refine bodyPost_ret (results_none rfl _ _ _) rfl ?_
        exact ⟨⟨_, rfl⟩, .inr ⟨_, by rw [← hpr, hstep]; exact ⟨_, by rw [List.append_assoc]; rfl⟩, hjx⟩⟩
      replace k0 := hrn.blk k0 (by omega) hgX.1
      replace k1 := hrn.blk k1 (by omega) hgX.2.1
      replace k2 := hrn.blk k2 (by omega) hgX.2.2
      clear L0 L1 L2 hj hR hy
      replace hj3 := Lib.hid hj3
      have L0 := k0.cell
      have L1 := k1.cell
      have F0 := k0.frozen
      have hix0 : (i : Int) < 1000000 := by omega
      have hex3 : (i : Int) + 1 ≤ r.length := by omega
      gi_wp2
      go_wp2
      go_roundw
      case rel => exact ⟨pre ++ [r.take i], r.drop (i + 1), by rw [List.append_assoc, ← hpr, hstep]; rfl, by simp; omega, hJ.out _ _ _ hj3.out (bx_set (.inl (by simp)) _ (bx_refl _ _)), k0.set 0 _, by (exact zK), by (exact zK)⟩
      case measure =>
        rw [strAt_blk (k0.set 0 _), hm.out]
        simp
        omega
end Go.Proofs.YtbdgblnccjpahaaGreatDoor
namespace Go.Proofs.YtbdgblnccjpahaaGreatDoor
open Go.RowKit
/-- Cells of one of these types. -/
def tyIn (Ts : TypeId → Prop) (o : Obj) : Prop := ∃ cs t x, o = .cells cs t x ∧ Ts t
theorem tyIn_not {Ts : TypeId → Prop} {o : Obj} (h : o.isCells = false) : ¬ tyIn Ts o := by
  rintro ⟨cs, t, x, rfl, _⟩
  cases h
theorem tyIn_no {Ts : TypeId → Prop} {cs : Array Value} {t : TypeId} {x : Nat × Nat} (h : ¬ Ts t) : ¬ tyIn Ts (.cells cs t x) := by
  rintro ⟨cs', t', x', e, h'⟩
  injection e with _ e _
  exact h (e ▸ h')
/-- What a round turns. -/
structure RT (D : Nat) (X : List Nat) (Ts : TypeId → Prop) (A B : World) : Prop where
  os : B.os = A.os
  tape : B.tape = A.tape
  output : B.output = A.output
  size : A.heap.size ≤ B.heap.size
  keep : ∀ k o, A.heap[k]? = some o → k ∉ X → (k < D ∨ ¬ tyIn Ts o) → B.heap[k]? = some o
/-- What an iterator turns between the rounds. -/
structure IT (D : Nat) (Y : List Nat) (Ts : TypeId → Prop) (A B : World) : Prop where
  os : B.os = A.os
  tape : B.tape = A.tape
  output : B.output = A.output
  size : A.heap.size ≤ B.heap.size
  keep : ∀ k o, A.heap[k]? = some o → ((k < D ∧ k ∉ Y) ∨ tyIn Ts o) → B.heap[k]? = some o
theorem RT.refl (D : Nat) (X : List Nat) (Ts : TypeId → Prop) (A : World) : RT D X Ts A A := ⟨rfl, rfl, rfl, Nat.le_refl _, fun _ _ h _ _ => h⟩
theorem RT.trans {D : Nat} {X : List Nat} {Ts : TypeId → Prop} {A B C : World} (h : RT D X Ts A B) (k : RT D X Ts B C) : RT D X Ts A C :=
  ⟨k.os.trans h.os, k.tape.trans h.tape, k.output.trans h.output, Nat.le_trans h.size k.size, fun i o hi hX hu => k.keep i o (h.keep i o hi hX hu) hX hu⟩
theorem RT.of_below {D : Nat} {X : List Nat} {Ts : TypeId → Prop} {A B : World} (h : Below A.heap.size A B) : RT D X Ts A B :=
  ⟨h.os, h.tape, h.output, h.size, fun k _ hk _ _ => (h.block k (Array.getElem?_eq_some_iff.1 hk).1).trans hk⟩
theorem RT.of_bx {D : Nat} {X Z : List Nat} {Ts : TypeId → Prop} {A B : World} (h : BX Z A B) (hZ : ∀ z ∈ Z, z ∈ X ∨ (D ≤ z ∧ ∃ t cs, Ts t ∧ Blk A z t cs)) : RT D X Ts A B :=
  ⟨h.os, h.tape, h.output, h.size, fun k o hk hX hu => by
    by_cases hz : k ∈ Z
    · rcases hZ k hz with h1 | ⟨h1, t, cs, h3, h2⟩
      · exact absurd h1 hX
      · have h4 : A.heap[k]? = some (.cells cs t (0, 0)) := h2
        rw [hk] at h4
        injection h4 with h4
        subst h4
        rcases hu with hu | hu
        · omega
        · exact absurd ⟨cs, t, _, rfl, h3⟩ hu
    · exact (h.block k (Array.getElem?_eq_some_iff.1 hk).1 hz).trans hk⟩
theorem RT.of_grown {D n size : Nat} {e : TypeId} {X : List Nat} {Ts : TypeId → Prop} {v : Value} {xs : List Value} {A B : World} (h : A.ownsRow D e size v n xs) (he : Ts e) (hg : A.grownBy B v.ownBlock) : RT D X Ts A B :=
  ⟨hg.os, hg.tape, hg.output, hg.size, fun k o hk _ hu => by
    refine (hg.block k (Array.getElem?_eq_some_iff.1 hk).1 fun e' => ?_).trans hk
    rcases h.2 with ⟨rfl, _⟩ | ⟨g, cap, cur, rfl, e2, e3, _⟩
    · simp [Value.ownBlock] at e'
    · have : k = g := by simpa [Value.ownBlock] using e'
      subst this
      rw [hk] at e3
      injection e3 with e3
      subst e3
      rcases hu with hu | hu
      · omega
      · exact absurd ⟨cur, e, _, rfl, he⟩ hu⟩
theorem RT.blk {D : Nat} {X : List Nat} {Ts : TypeId → Prop} {A B : World} {g : Nat} {t : TypeId} {cs : Array Value} (h : RT D X Ts A B) (hk : Blk A g t cs) (hX : g ∉ X) (hD : g < D ∨ ¬ Ts t) : Blk B g t cs := h.keep g _ hk hX (hD.imp id fun h => tyIn_no h)
theorem RT.wider {D : Nat} {X : List Nat} {Ts : TypeId → Prop} {A B : World} (r : Nat) (h : RT D X Ts A B) : RT D (r :: X) Ts A B :=
  ⟨h.os, h.tape, h.output, h.size, fun k o hk hX hu => h.keep k o hk (fun m => hX (List.mem_cons_of_mem _ m)) hu⟩
theorem RT.drop {D : Nat} {X : List Nat} {Ts : TypeId → Prop} {A B : World} {r : Nat} (h : RT D (r :: X) Ts A B) (he : B.heap[r]? = A.heap[r]?) : RT D X Ts A B :=
  ⟨h.os, h.tape, h.output, h.size, fun k o hk hX hu => by
    by_cases e' : k = r
    · rw [e', he, ← e', hk]
    · exact h.keep k o hk (by simp [e', hX]) hu⟩
theorem RT.more {D : Nat} {X X' : List Nat} {Ts : TypeId → Prop} {A B : World} (hX : ∀ x ∈ X, x ∈ X') (h : RT D X Ts A B) : RT D X' Ts A B :=
  ⟨h.os, h.tape, h.output, h.size, fun k o hk hm hu => h.keep k o hk (fun m => hm (hX k m)) hu⟩
theorem rt_loop {D : Nat} {X : List Nat} {Ts : TypeId → Prop} {A : World} {r : Nat} (o' : Obj) : RT D (r :: X) Ts A (A.putObj r o') :=
  ⟨rfl, rfl, rfl, by simp, fun k o hk hX _ => (World.putObj_heap_other (fun e => hX (by simp [e]))).trans hk⟩
theorem IT.refl (D : Nat) (Y : List Nat) (Ts : TypeId → Prop) (A : World) : IT D Y Ts A A := ⟨rfl, rfl, rfl, Nat.le_refl _, fun _ _ h _ => h⟩
theorem IT.trans {D : Nat} {Y : List Nat} {Ts : TypeId → Prop} {A B C : World} (h : IT D Y Ts A B) (k : IT D Y Ts B C) : IT D Y Ts A C :=
  ⟨k.os.trans h.os, k.tape.trans h.tape, k.output.trans h.output, Nat.le_trans h.size k.size, fun i o hi hu => k.keep i o (h.keep i o hi hu) hu⟩
theorem IT.of_below {D : Nat} {Y : List Nat} {Ts : TypeId → Prop} {A B : World} (h : Below A.heap.size A B) : IT D Y Ts A B :=
  ⟨h.os, h.tape, h.output, h.size, fun k _ hk _ => (h.block k (Array.getElem?_eq_some_iff.1 hk).1).trans hk⟩
theorem IT.of_bx {D : Nat} {Y Z : List Nat} {Ts : TypeId → Prop} {A B : World} (h : BX Z A B) (hZ : ∀ z ∈ Z, (z ∈ Y ∨ D ≤ z) ∧ ∃ t cs, ¬ Ts t ∧ Blk A z t cs) : IT D Y Ts A B :=
  ⟨h.os, h.tape, h.output, h.size, fun k o hk hu => by
    by_cases hz : k ∈ Z
    · obtain ⟨h1, t, cs, h3, h2⟩ := hZ k hz
      have h4 : A.heap[k]? = some (.cells cs t (0, 0)) := h2
      rw [hk] at h4
      injection h4 with h4
      subst h4
      rcases hu with ⟨hu, hy⟩ | hu
      · rcases h1 with h1 | h1
        · exact absurd h1 hy
        · omega
      · exact absurd hu (tyIn_no h3)
    · exact (h.block k (Array.getElem?_eq_some_iff.1 hk).1 hz).trans hk⟩
theorem CK.more {D D' : Nat} {A B : World} (h : CK D' A B) (hD : D ≤ D') : CK D A B :=
  ⟨h.os, h.tape, h.output, h.size, fun k o hk hu => h.keep k o hk (hu.imp (fun h => by omega) id)⟩
theorem IT.of_ck {D : Nat} {Y : List Nat} {Ts : TypeId → Prop} {A B : World} (h : CK D A B) : IT D Y Ts A B :=
  ⟨h.os, h.tape, h.output, h.size, fun k o hk hu => h.keep k o hk (by
    rcases hu with ⟨hu, _⟩ | ⟨cs, t, x, rfl, _⟩
    · exact .inl hu
    · exact .inr rfl)⟩
theorem IT.mono {D D' : Nat} {Y Y' : List Nat} {Ts : TypeId → Prop} {A B : World} (hD : D ≤ D') (hY : ∀ y ∈ Y', y ∈ Y ∨ D ≤ y) (h : IT D' Y' Ts A B) : IT D Y Ts A B :=
  ⟨h.os, h.tape, h.output, h.size, fun k o hk hu => h.keep k o hk (by
    rcases hu with ⟨hu, hy⟩ | hu
    · left
      refine ⟨by omega, fun m => ?_⟩
      rcases hY k m with m | m
      · exact hy m
      · omega
    · exact .inr hu)⟩
theorem IT.blk {D : Nat} {Y : List Nat} {Ts : TypeId → Prop} {A B : World} {g : Nat} {t : TypeId} {cs : Array Value} (h : IT D Y Ts A B) (hk : Blk A g t cs) (hD : g < D) (hY : g ∉ Y) : Blk B g t cs := h.keep g _ hk (.inl ⟨hD, hY⟩)
theorem IT.own {D b n size : Nat} {Y : List Nat} {Ts : TypeId → Prop} {e : TypeId} {v : Value} {xs : List Value} {A B : World} (h : IT D Y Ts A B) (ho : A.ownsRow b e size v n xs) (he : Ts e) : B.ownsRow b e size v n xs := by
  refine ⟨ho.1, ?_⟩
  rcases ho.2 with h2 | ⟨g, cap, cur, e1, e2, e3, e4⟩
  · exact .inl h2
  · exact .inr ⟨g, cap, cur, e1, e2, h.keep g _ e3 (.inr ⟨cur, e, _, rfl, he⟩), e4⟩
theorem IT.belowOf {D : Nat} {Y : List Nat} {Ts : TypeId → Prop} {w A B : World} (h : IT D Y Ts A B) (hD : w.heap.size ≤ D) (hY : ∀ y ∈ Y, w.heap.size ≤ y) (hb : Below w.heap.size w A) : Below w.heap.size w B :=
  ⟨h.os.trans hb.os, h.tape.trans hb.tape, h.output.trans hb.output, Nat.le_trans hb.size h.size, fun k hk => by
    have h1 := hb.block k hk
    have h2 : w.heap[k]? = some w.heap[k] := Array.getElem?_eq_getElem hk
    rw [h2] at h1 ⊢
    exact h.keep k _ h1 (.inl ⟨by omega, fun m => by have := hY k m; omega⟩)⟩
theorem IT.put {D r : Nat} {Y : List Nat} {Ts : TypeId → Prop} {A : World} {o : Obj} (o' : Obj) (h : A.heap[r]? = some o) (hc : o.isCells = false) (hr : D ≤ r) : IT D Y Ts A (A.putObj r o') := .of_ck (.put o' h hc hr)
/-- How a round ends: it goes on, or it leaves the loop. -/
def GoesT {α : Type} (S D : Nat) (X : List Nat) (Ts : TypeId → Prop) (I : List α → World → Prop) (Ix : Code → List α → World → Prop) (xs : List α) (W : World) : Exit → Act → World → Prop
  | .normal, _, W' => RT D X Ts W W' ∧ I xs W'
  | .ret, _, W' => (∃ X', (∀ x ∈ X', x < S) ∧ RT D X' Ts W W') ∧ Ix .ret xs W'
  | .exit id, _, W' => (∃ X', (∀ x ∈ X', x < S) ∧ RT D X' Ts W W') ∧ Ix (.exit id) xs W'
  | .goto t, _, W' => (∃ X', (∀ x ∈ X', x < S) ∧ RT D X' Ts W W') ∧ Ix (.goto t) xs W'
  | _, _, _ => False
/-- What an iterator promises that lies ready in closure gf. -/
def YieldsT (P : Program) {α : Type} (D : Nat) (X Y : List Nat) (Ts Tk : TypeId → Prop) (gf : Nat) (lb : Array Value) (Enc : α → Array Value → World → Prop) (xs : List α) (W0 : World) : Prop :=
  ∀ (l : Nat) (J Jx : List α → World → Prop) (W : World), Below W0.heap.size W0 W → l < W.heap.size → (∀ s A B, J s A → IT W.heap.size Y Tk A B → J s B) → (∀ s A B, Jx s A → IT W.heap.size Y Tk A B → Jx s B) →
    (∀ pre x args W1, J pre W1 → pre ++ [x] <+: xs → Enc x args W1 → YieldAt Fence.wide 4 P l args W1 fun ε W' =>
      (ε = .returned (.bool true) ∧ J (pre ++ [x]) W' ∧ RT D X Ts W1 W') ∨ (ε = .returned (.bool false) ∧ Jx (pre ++ [x]) W' ∧ ∃ X', (∀ x ∈ X', x ≤ l) ∧ RT D X' Ts W1 W')) →
    J [] W → CallsIn Fence.wide 5 P gf (#[.func (.yield l) #[] #[]] ++ lb) W fun ε W' => (∃ v, ε = .returned v) ∧ (J xs W' ∨ ∃ pre, pre <+: xs ∧ Jx pre W')
theorem le_cons2 {X X' : List Nat} {b l : Nat} (hX : ∀ x ∈ X, x < b) (hX' : ∀ x ∈ X', x < b) (hl : b ≤ l) : ∀ x ∈ l :: (X ++ X'), x ≤ l := fun x hx => by
  rcases List.mem_cons.1 hx with rfl | hx
  · exact Nat.le_refl _
  · rcases List.mem_append.1 hx with hx | hx
    · have := hX x hx; omega
    · have := hX' x hx; omega
theorem wp_range5 {P : Program} {α : Type} {g : Operand} {ps : Array Tmp} {assign body : Code} {Q : Exit → Act → World → Prop} {a : Act} {w : World} {gf : Nat} {lb : Array Value}
    (hg : a.eval g = .func (.func gf) #[] lb) (eg : ∀ args w, (callFunc gf args).run P w = .ok (.enter gf args) w) {Enc : α → Array Value → World → Prop} {xs : List α} (D : Nat) (X Y : List Nat) (Ts Tk : TypeId → Prop)
    (hseq : YieldsT P D X Y Ts Tk gf lb Enc xs w)
    (hps : ∀ x args W, Enc x args W → args.size = ps.size) (hX : ∀ x ∈ X, x < w.heap.size) (hY : ∀ y ∈ Y, y < w.heap.size)
    (I : List α → World → Prop) (Ix : Code → List α → World → Prop) (hI : ∀ s A B, I s A → IT w.heap.size Y Tk A B → I s B)
    (hIx : ∀ c s A B, Ix c s A → IT w.heap.size Y Tk A B → Ix c s B)
    (h0 : I [] w)
    (hround : ∀ l pre x args W, I pre W → pre ++ [x] <+: xs → Enc x args W → assign.wpIn (Fence.wide.inRound l) 4 P
      (Exit.then (fun a1 W1 => RT D X Ts W W1 ∧ ∀ W2, CK w.heap.size W1 W2 → w.heap.size ≤ l → (∃ r, W2.heap[l]? = some (.loop r)) → body.wpIn (Fence.wide.inRound l) 4 P (GoesT w.heap.size D X Ts I Ix (pre ++ [x]) W2) a1 W2) (fun _ _ _ => False))
      { tmps := (ps.zip args).foldl (fun t (p, v) => t.setIfInBounds p v) a.tmps, defers := [] } W)
    (hdone : ∀ W, I xs W → W.heap[w.heap.size]? = some (.deferred (some [])) → Q .normal { a with defers := { target := .collected w.heap.size, args := #[] } :: a.defers } W)
    (hstop : ∀ c pre W, pre <+: xs → Ix c pre W → W.heap[w.heap.size]? = some (.deferred (some [])) → c.wp P Q { a with defers := { target := .collected w.heap.size, args := #[] } :: a.defers } W) :
    (Code.rangeFunc g ps assign body).wp P Q a w := by
  refine (wpIn_wide (n := 6)).1 (wpIn_rangeFunc ?_)
  intro fn _
  rw [Fence.wide_round]
  obtain ⟨rec, hrec⟩ : ∃ rec : LoopState → Option Code → Loop, rec = fun st pe => { state := st, pending := pe, fn, tmps := a.tmps, params := ps, assign, body, defers := w.heap.size } := ⟨_, rfl⟩
  have hst : ∀ s p, (rec s p).state = s := fun s p => by rw [hrec]
  have hpd : ∀ s p, (rec s p).pending = p := fun s p => by rw [hrec]
  have hsp : ∀ s p, (rec s p).params = ps := fun s p => by rw [hrec]
  have hup : ∀ s s' p, { rec s p with state := s' } = rec s' p := fun s s' p => by rw [hrec]
  have hen : ∀ s p s' p', ({ rec s p with state := s', pending := p' } : Loop) = rec s' p' := fun s p s' p' => by rw [hrec]
  have hrun := run_enterLoop_outer (P := P) (w := w) fn a.tmps ps assign body
  obtain ⟨W1, hW1⟩ : ∃ W1, (w.alloc (.deferred (some []))).alloc (.loop (rec .ready none)) = W1 := ⟨_, rfl⟩
  have hb1 : Below w.heap.size w W1 := by
    rw [← hW1]; exact ((Below.refl _ w).alloc (Nat.le_refl _) _).alloc (by simp) _
  have hs1 : W1.heap.size = w.heap.size + 2 := by rw [← hW1]; simp
  have hL1 : W1.heap[w.heap.size + 1]? = some (.loop (rec .ready none)) := by
    rw [← hW1]; have := World.alloc_heap_new (w.alloc (.deferred (some []))) (.loop (rec .ready none)); rwa [World.size_alloc] at this
  have hK1 : W1.heap[w.heap.size]? = some (.deferred (some [])) := by
    rw [← hW1]; exact (Below.heap_alloc _ _ _ (by simp)).trans (World.alloc_heap_new w _)
  have hI1 : I [] W1 := hI _ _ _ h0 (.of_below hb1)
  have hDX : ∀ i, w.heap.size ≤ i → i ∉ X := fun i hi hx => by have := hX i hx; omega
  have hDY : ∀ i, w.heap.size ≤ i → i ∉ Y := fun i hi hx => by have := hY i hx; omega
  have hY1 : ∀ {A B : World} {i : Nat} {o : Obj}, w.heap.size ≤ i → i < W1.heap.size → A.heap[i]? = some o → IT W1.heap.size Y Tk A B → B.heap[i]? = some o := fun hi hi2 h hb => hb.keep _ _ h (.inl ⟨hi2, hDY _ hi⟩)
  refine ⟨w.heap.size + 1, [{ target := .collected w.heap.size, args := #[] }], W1, { target := .fn (.func gf) lb, args := #[.func (.yield (w.heap.size + 1)) #[] #[]] }, W1, gf,
    #[.func (.yield (w.heap.size + 1)) #[] #[]] ++ lb, W1, ?_, ?_, fun _ _ => trivial, ?_, fun h => (by simp [Fence.wide] at h), ?_⟩
  · rw [hrun, ← hW1, hrec]
  · simp only [resolve, hg]
    simp [go_sem]
  · simp [invoke, go_sem, eg]
  refine (hseq (w.heap.size + 1) (fun pre W => I pre W ∧ W.heap[w.heap.size + 1]? = some (.loop (rec .ready none)) ∧ W.heap[w.heap.size]? = some (.deferred (some [])))
    (fun pre W => ∃ c, Ix c pre W ∧ W.heap[w.heap.size + 1]? = some (.loop (rec .done (some c))) ∧ W.heap[w.heap.size]? = some (.deferred (some [])))
    W1 hb1 (by omega) ?_ ?_ ?_ ⟨hI1, hL1, hK1⟩).mono ?_
  · rintro s A B ⟨hi, hl, hk⟩ hm
    exact ⟨hI _ _ _ hi (hm.mono (by omega) fun y hy => .inl hy), hY1 (by omega) (by omega) hl hm, hY1 (Nat.le_refl _) (by omega) hk hm⟩
  · rintro s A B ⟨c, hi, hl, hk⟩ hm
    exact ⟨c, hIx _ _ _ _ hi (hm.mono (by omega) fun y hy => .inl hy), hY1 (by omega) (by omega) hl hm, hY1 (Nat.le_refl _) (by omega) hk hm⟩
  · rintro pre x args W ⟨hi, hl, hk⟩ hpre henc
    have hy := run_yield (P := P) (args := args) hl (by rw [hsp]; exact hps x args W henc)
    rw [hrec] at hy
    refine ⟨fn, _, assign, body, hy, roundIn_of_wpIn trivial (wpIn_mono (hround _ pre x args W hi hpre henc) ?_)⟩
    intro ε a1 W2 hp
    cases ε with
    | normal =>
      obtain ⟨hbx, hbody⟩ := hp
      have hl2 := hbx.keep _ _ hl (hDX _ (by omega)) (.inr (tyIn_not rfl))
      have hk2 := hbx.keep _ _ hk (hDX _ (by omega)) (.inr (tyIn_not rfl))
      have hr := run_beginRound (P := P) hl2 (hst _ _)
      rw [hup] at hr
      have hlt2 := (Array.getElem?_eq_some_iff.1 hl2).1
      have hl3 := World.putObj_heap_same (w := W2) (o := .loop (rec .busy none)) hlt2
      have hk3 := (World.putObj_heap_other (w := W2) (o := .loop (rec .busy none)) (show w.heap.size ≠ w.heap.size + 1 by omega)).trans hk2
      refine ⟨_, hr, wpIn_mono (hbody _ (.put _ hl2 rfl (by omega)) (by omega) ⟨_, hl3⟩) ?_⟩
      have fin : ∀ (jump : Option Code) (W3 : World) (X' : List Nat), (∀ x ∈ X', x < w.heap.size) → RT D X' Ts (W2.putObj (w.heap.size + 1) (.loop (rec .busy none))) W3 →
          (Instr.endRound (w.heap.size + 1) jump).run P W3 = .ok (.bool jump.isNone) (W3.putObj (w.heap.size + 1) (.loop (rec (if jump.isNone then .ready else .done) jump))) ∧
          W3.heap[w.heap.size + 1]? = some (.loop (rec .busy none)) ∧
          (W3.putObj (w.heap.size + 1) (.loop (rec (if jump.isNone then .ready else .done) jump))).heap[w.heap.size + 1]? = some (.loop (rec (if jump.isNone then .ready else .done) jump)) ∧
          (W3.putObj (w.heap.size + 1) (.loop (rec (if jump.isNone then .ready else .done) jump))).heap[w.heap.size]? = some (.deferred (some [])) := fun jump W3 X' hX' hb3 => by
        have hl4 := hb3.keep _ _ hl3 (fun m => by have := hX' _ m; omega) (.inr (tyIn_not rfl))
        have hk4 := hb3.keep _ _ hk3 (fun m => by have := hX' _ m; omega) (.inr (tyIn_not rfl))
        have he := run_endRound (P := P) jump hl4
        rw [hen] at he
        exact ⟨he, hl4, World.putObj_heap_same (Array.getElem?_eq_some_iff.1 hl4).1, (World.putObj_heap_other (by omega)).trans hk4⟩
      intro ε a3 W3 hp
      cases ε with
      | normal =>
        obtain ⟨hb3, hi3⟩ := hp
        obtain ⟨he, hl4, hl5, hk5⟩ := fin none W3 X hX hb3
        refine ⟨_, _, he, .inl ⟨rfl, ⟨hI _ _ _ hi3 (.put _ hl4 rfl (by omega)), hl5, hk5⟩, ?_⟩⟩
        refine RT.drop (r := w.heap.size + 1) ?_ (hl5.trans hl.symm)
        exact (((hbx.wider _).trans (rt_loop _)).trans (hb3.wider _)).trans (rt_loop _)
      | ret =>
        obtain ⟨⟨X', hX', hb3⟩, hi3⟩ := hp
        obtain ⟨he, hl4, hl5, hk5⟩ := fin (some .ret) W3 X' hX' hb3
        exact ⟨_, _, he, .inr ⟨rfl, ⟨.ret, hIx _ _ _ _ hi3 (.put _ hl4 rfl (by omega)), hl5, hk5⟩, (w.heap.size + 1) :: (X ++ X'), (le_cons2 hX hX' (by omega)), ((((hbx.more (fun x hx => List.mem_cons_of_mem _ (List.mem_append_left _ hx))).trans (rt_loop _)).trans (hb3.more (fun x hx => List.mem_cons_of_mem _ (List.mem_append_right _ hx)))).trans (rt_loop _))⟩⟩
      | exit id =>
        obtain ⟨⟨X', hX', hb3⟩, hi3⟩ := hp
        obtain ⟨he, hl4, hl5, hk5⟩ := fin (some (.exit id)) W3 X' hX' hb3
        exact ⟨_, _, he, .inr ⟨rfl, ⟨.exit id, hIx _ _ _ _ hi3 (.put _ hl4 rfl (by omega)), hl5, hk5⟩, (w.heap.size + 1) :: (X ++ X'), (le_cons2 hX hX' (by omega)), ((((hbx.more (fun x hx => List.mem_cons_of_mem _ (List.mem_append_left _ hx))).trans (rt_loop _)).trans (hb3.more (fun x hx => List.mem_cons_of_mem _ (List.mem_append_right _ hx)))).trans (rt_loop _))⟩⟩
      | goto t =>
        obtain ⟨⟨X', hX', hb3⟩, hi3⟩ := hp
        obtain ⟨he, hl4, hl5, hk5⟩ := fin (some (.goto t)) W3 X' hX' hb3
        exact ⟨_, _, he, .inr ⟨rfl, ⟨.goto t, hIx _ _ _ _ hi3 (.put _ hl4 rfl (by omega)), hl5, hk5⟩, (w.heap.size + 1) :: (X ++ X'), (le_cons2 hX hX' (by omega)), ((((hbx.more (fun x hx => List.mem_cons_of_mem _ (List.mem_append_left _ hx))).trans (rt_loop _)).trans (hb3.more (fun x hx => List.mem_cons_of_mem _ (List.mem_append_right _ hx)))).trans (rt_loop _))⟩⟩
      | _ => exact (hp : False).elim
    | _ => exact (hp : False).elim
  · rintro ε W2 ⟨⟨v, rfl⟩, (⟨hi, hl, hk⟩ | ⟨pre, hpre, c, hi, hl, hk⟩)⟩
    · have he := run_endLoop (P := P) hl (by rw [hst]; simp)
      rw [hpd] at he
      exact ⟨none, _, he, hdone _ (hI _ _ _ hi (.put _ hl rfl (by omega))) ((World.putObj_heap_other (by omega)).trans hk)⟩
    · have he := run_endLoop (P := P) hl (by rw [hst]; simp)
      rw [hpd] at he
      exact ⟨some c, _, he, (wpIn_wide (n := 6)).2 (hstop c pre _ hpre (hIx _ _ _ _ hi (.put _ hl rfl (by omega))) ((World.putObj_heap_other (by omega)).trans hk))⟩
theorem wpIn_anyN {n m : Nat} {P : Program} {l : Nat} {c : Code} {Q : Exit → Act → World → Prop} {a : Act} {w : World} (h : c.wpIn (Fence.wide.inRound l) n P Q a w) : c.wpIn (Fence.wide.inRound l) m P Q a w :=
  fun b k cs h1 h2 _ => h b k cs h1 h2 (fun d hd => by simp [Fence.wide] at hd)
/-- The same within a round of loop l0. -/
theorem wp_range5N {P : Program} {α : Type} {g : Operand} {ps : Array Tmp} {assign body : Code} {Q : Exit → Act → World → Prop} {a : Act} {w : World} {gf : Nat} {lb : Array Value} {l0 n : Nat}
    (hl0 : ∃ r, w.heap[l0]? = some (.loop r))
    (hg : a.eval g = .func (.func gf) #[] lb) (eg : ∀ args w, (callFunc gf args).run P w = .ok (.enter gf args) w) {Enc : α → Array Value → World → Prop} {xs : List α} (D : Nat) (X Y : List Nat) (Ts Tk : TypeId → Prop)
    (hseq : YieldsT P D X Y Ts Tk gf lb Enc xs w)
    (hps : ∀ x args W, Enc x args W → args.size = ps.size) (hX : ∀ x ∈ X, x < w.heap.size) (hY : ∀ y ∈ Y, y < w.heap.size)
    (I : List α → World → Prop) (Ix : Code → List α → World → Prop) (hI : ∀ s A B, I s A → IT w.heap.size Y Tk A B → I s B)
    (hIx : ∀ c s A B, Ix c s A → IT w.heap.size Y Tk A B → Ix c s B)
    (h0 : I [] w)
    (hround : ∀ l pre x args W, I pre W → pre ++ [x] <+: xs → Enc x args W → assign.wpIn (Fence.wide.inRound l) 4 P
      (Exit.then (fun a1 W1 => RT D X Ts W W1 ∧ ∀ W2, CK w.heap.size W1 W2 → w.heap.size ≤ l → (∃ r, W2.heap[l]? = some (.loop r)) → body.wpIn (Fence.wide.inRound l) 4 P (GoesT w.heap.size D X Ts I Ix (pre ++ [x]) W2) a1 W2) (fun _ _ _ => False))
      { tmps := (ps.zip args).foldl (fun t (p, v) => t.setIfInBounds p v) a.tmps, defers := [] } W)
    (hdone : ∀ W, I xs W → Q .normal a W)
    (hstop : ∀ c pre W, pre <+: xs → Ix c pre W → c.wpIn (Fence.wide.inRound l0) n P Q a W) :
    (Code.rangeFunc g ps assign body).wpIn (Fence.wide.inRound l0) n P Q a w := by
  refine wpIn_anyN (n := 6) (wpIn_rangeFunc ?_)
  intro fn _
  obtain ⟨r0, hl0⟩ := hl0
  rw [Fence.inRound_round]
  obtain ⟨rec, hrec⟩ : ∃ rec : LoopState → Option Code → Loop, rec = fun st pe => { state := st, pending := pe, fn, tmps := a.tmps, params := ps, assign, body, defers := r0.defers } := ⟨_, rfl⟩
  have hst : ∀ s p, (rec s p).state = s := fun s p => by rw [hrec]
  have hpd : ∀ s p, (rec s p).pending = p := fun s p => by rw [hrec]
  have hsp : ∀ s p, (rec s p).params = ps := fun s p => by rw [hrec]
  have hup : ∀ s s' p, { rec s p with state := s' } = rec s' p := fun s s' p => by rw [hrec]
  have hen : ∀ s p s' p', ({ rec s p with state := s', pending := p' } : Loop) = rec s' p' := fun s p s' p' => by rw [hrec]
  have hrun := run_enterLoop_inner (P := P) (w := w) hl0 fn a.tmps ps assign body
  obtain ⟨W1, hW1⟩ : ∃ W1, w.alloc (.loop (rec .ready none)) = W1 := ⟨_, rfl⟩
  have hb1 : Below w.heap.size w W1 := by
    rw [← hW1]; exact (Below.refl _ w).alloc (Nat.le_refl _) _
  have hs1 : W1.heap.size = w.heap.size + 1 := by rw [← hW1]; simp
  have hL1 : W1.heap[w.heap.size]? = some (.loop (rec .ready none)) := by
    rw [← hW1]; exact World.alloc_heap_new w _
  have hI1 : I [] W1 := hI _ _ _ h0 (.of_below hb1)
  have hDX : ∀ i, w.heap.size ≤ i → i ∉ X := fun i hi hx => by have := hX i hx; omega
  have hDY : ∀ i, w.heap.size ≤ i → i ∉ Y := fun i hi hx => by have := hY i hx; omega
  have hY1 : ∀ {A B : World} {i : Nat} {o : Obj}, w.heap.size ≤ i → i < W1.heap.size → A.heap[i]? = some o → IT W1.heap.size Y Tk A B → B.heap[i]? = some o := fun hi hi2 h hb => hb.keep _ _ h (.inl ⟨hi2, hDY _ hi⟩)
  refine ⟨w.heap.size, [], W1, { target := .fn (.func gf) lb, args := #[.func (.yield w.heap.size) #[] #[]] }, W1, gf,
    #[.func (.yield w.heap.size) #[] #[]] ++ lb, W1, ?_, ?_, fun _ _ => trivial, ?_, fun h => (by simp [Fence.wide] at h), ?_⟩
  · rw [hrun, ← hW1, hrec]
  · simp only [resolve, hg]
    simp [go_sem]
  · simp [invoke, go_sem, eg]
  refine CallsIn.inRound l0 ((hseq w.heap.size (fun pre W => I pre W ∧ W.heap[w.heap.size]? = some (.loop (rec .ready none)))
    (fun pre W => ∃ c, Ix c pre W ∧ W.heap[w.heap.size]? = some (.loop (rec .done (some c))))
    W1 hb1 (by omega) ?_ ?_ ?_ ⟨hI1, hL1⟩).mono ?_)
  · rintro s A B ⟨hi, hl⟩ hm
    exact ⟨hI _ _ _ hi (hm.mono (by omega) fun y hy => .inl hy), hY1 (Nat.le_refl _) (by omega) hl hm⟩
  · rintro s A B ⟨c, hi, hl⟩ hm
    exact ⟨c, hIx _ _ _ _ hi (hm.mono (by omega) fun y hy => .inl hy), hY1 (Nat.le_refl _) (by omega) hl hm⟩
  · rintro pre x args W ⟨hi, hl⟩ hpre henc
    have hy := run_yield (P := P) (args := args) hl (by rw [hsp]; exact hps x args W henc)
    rw [hrec] at hy
    refine ⟨fn, _, assign, body, hy, roundIn_of_wpIn trivial (wpIn_mono (hround _ pre x args W hi hpre henc) ?_)⟩
    intro ε a1 W2 hp
    cases ε with
    | normal =>
      obtain ⟨hbx, hbody⟩ := hp
      have hl2 := hbx.keep _ _ hl (hDX _ (by omega)) (.inr (tyIn_not rfl))
      have hr := run_beginRound (P := P) hl2 (hst _ _)
      rw [hup] at hr
      have hlt2 := (Array.getElem?_eq_some_iff.1 hl2).1
      have hl3 := World.putObj_heap_same (w := W2) (o := .loop (rec .busy none)) hlt2
      refine ⟨_, hr, wpIn_mono (hbody _ (.put _ hl2 rfl (Nat.le_refl _)) (Nat.le_refl _) ⟨_, hl3⟩) ?_⟩
      have fin : ∀ (jump : Option Code) (W3 : World) (X' : List Nat), (∀ x ∈ X', x < w.heap.size) → RT D X' Ts (W2.putObj w.heap.size (.loop (rec .busy none))) W3 →
          (Instr.endRound w.heap.size jump).run P W3 = .ok (.bool jump.isNone) (W3.putObj w.heap.size (.loop (rec (if jump.isNone then .ready else .done) jump))) ∧
          W3.heap[w.heap.size]? = some (.loop (rec .busy none)) ∧
          (W3.putObj w.heap.size (.loop (rec (if jump.isNone then .ready else .done) jump))).heap[w.heap.size]? = some (.loop (rec (if jump.isNone then .ready else .done) jump)) := fun jump W3 X' hX' hb3 => by
        have hl4 := hb3.keep _ _ hl3 (fun m => by have := hX' _ m; omega) (.inr (tyIn_not rfl))
        have he := run_endRound (P := P) jump hl4
        rw [hen] at he
        exact ⟨he, hl4, World.putObj_heap_same (Array.getElem?_eq_some_iff.1 hl4).1⟩
      intro ε a3 W3 hp
      cases ε with
      | normal =>
        obtain ⟨hb3, hi3⟩ := hp
        obtain ⟨he, hl4, hl5⟩ := fin none W3 X hX hb3
        refine ⟨_, _, he, .inl ⟨rfl, ⟨hI _ _ _ hi3 (.put _ hl4 rfl (Nat.le_refl _)), hl5⟩, ?_⟩⟩
        refine RT.drop (r := w.heap.size) ?_ (hl5.trans hl.symm)
        exact (((hbx.wider _).trans (rt_loop _)).trans (hb3.wider _)).trans (rt_loop _)
      | ret =>
        obtain ⟨⟨X', hX', hb3⟩, hi3⟩ := hp
        obtain ⟨he, hl4, hl5⟩ := fin (some .ret) W3 X' hX' hb3
        exact ⟨_, _, he, .inr ⟨rfl, ⟨.ret, hIx _ _ _ _ hi3 (.put _ hl4 rfl (Nat.le_refl _)), hl5⟩, w.heap.size :: (X ++ X'), (le_cons2 hX hX' (by omega)), ((((hbx.more (fun x hx => List.mem_cons_of_mem _ (List.mem_append_left _ hx))).trans (rt_loop _)).trans (hb3.more (fun x hx => List.mem_cons_of_mem _ (List.mem_append_right _ hx)))).trans (rt_loop _))⟩⟩
      | exit id =>
        obtain ⟨⟨X', hX', hb3⟩, hi3⟩ := hp
        obtain ⟨he, hl4, hl5⟩ := fin (some (.exit id)) W3 X' hX' hb3
        exact ⟨_, _, he, .inr ⟨rfl, ⟨.exit id, hIx _ _ _ _ hi3 (.put _ hl4 rfl (Nat.le_refl _)), hl5⟩, w.heap.size :: (X ++ X'), (le_cons2 hX hX' (by omega)), ((((hbx.more (fun x hx => List.mem_cons_of_mem _ (List.mem_append_left _ hx))).trans (rt_loop _)).trans (hb3.more (fun x hx => List.mem_cons_of_mem _ (List.mem_append_right _ hx)))).trans (rt_loop _))⟩⟩
      | goto t =>
        obtain ⟨⟨X', hX', hb3⟩, hi3⟩ := hp
        obtain ⟨he, hl4, hl5⟩ := fin (some (.goto t)) W3 X' hX' hb3
        exact ⟨_, _, he, .inr ⟨rfl, ⟨.goto t, hIx _ _ _ _ hi3 (.put _ hl4 rfl (Nat.le_refl _)), hl5⟩, w.heap.size :: (X ++ X'), (le_cons2 hX hX' (by omega)), ((((hbx.more (fun x hx => List.mem_cons_of_mem _ (List.mem_append_left _ hx))).trans (rt_loop _)).trans (hb3.more (fun x hx => List.mem_cons_of_mem _ (List.mem_append_right _ hx)))).trans (rt_loop _))⟩⟩
      | _ => exact (hp : False).elim
    | _ => exact (hp : False).elim
  · rintro ε W2 ⟨⟨v, rfl⟩, (⟨hi, hl⟩ | ⟨pre, hpre, c, hi, hl⟩)⟩
    · have he := run_endLoop (P := P) hl (by rw [hst]; simp)
      rw [hpd] at he
      exact ⟨none, _, he, hdone _ (hI _ _ _ hi (.put _ hl rfl (Nat.le_refl _)))⟩
    · have he := run_endLoop (P := P) hl (by rw [hst]; simp)
      rw [hpd] at he
      exact ⟨some c, _, he, wpIn_anyN (hstop c pre _ hpre (hIx _ _ _ _ hi (.put _ hl rfl (Nat.le_refl _))))⟩
theorem roundIn_anyN {n m : Nat} {P : Program} {l l' : Nat} {f : FuncId} {tmps : Array Value} {assign body : Code} {w : World} {R : Ending → World → Prop} (h : RoundIn Fence.wide n P l f tmps assign body w R) : RoundIn (Fence.wide.inRound l') m P l f tmps assign body w R :=
  ⟨h.1, fun c cs _ => h.2 c cs (fun d hd => by simp [Fence.wide] at hd)⟩
end Go.Proofs.YtbdgblnccjpahaaGreatDoor
namespace Go.Proofs.YtbdgblnccjpahaaGreatDoor
open Go.RowKit Go.Shelf
attribute [local go_sem] bl_al bl_drew bl_drewN bl_refl bx_al bx_drew bx_drewN bx_refl Oper.semAt_some
set_option maxRecDepth 20000
set_option maxHeartbeats 8000000 in
theorem split_iterT (l : List UInt8) (c : UInt8) (g D : Nat) (X : List Nat) (Ts Tk : TypeId → Prop) (W0 : World) (hl : l.length ≤ 1000000) (k0 : Blk W0 g 9 #[.string ⟨l.toArray⟩]) (k1 : Blk W0 (g + 1) 9 #[.string ⟨#[c]⟩]) (k2 : Blk W0 (g + 2) 3 #[.int .i64 0])
    (hX : ∀ x ∈ X, x ≠ g ∧ x ≠ g + 1 ∧ x ≠ g + 2) (hTs : ¬ Ts 9) (hTk : ¬ Tk 9) (hTi : g + 2 < D ∨ ¬ Ts 3) :
    YieldsT Tryz.prog D X [g] Ts Tk 155 #[.pointer (some ⟨g + 1, 0, none⟩), .pointer (some ⟨g, 0, none⟩), .pointer (some ⟨g + 2, 0, none⟩)] EncP (splitC c l) W0 := by
  intro ln J Jx W hb _ hJ hJx hY h0
  refine callsIn_wide.2 ?_
  replace hY := Lib.hid hY
  replace hJ := Lib.hid hJ
  replace hJx := Lib.hid hJx
  replace h0 := Lib.hid h0
  replace k0 := k0.below hb
  replace k1 := k1.below hb
  replace k2 := k2.below hb
  clear hb
  have hgX : g ∉ X ∧ g + 1 ∉ X ∧ g + 2 ∉ X := ⟨fun h => (hX _ h).1 rfl, fun h => (hX _ h).2.1 rfl, fun h => (hX _ h).2.2 rfl⟩
  show Calls Tryz.prog 155 #[.func (.yield ln) #[] #[], .pointer (some ⟨g + 1, 0, none⟩), .pointer (some ⟨g, 0, none⟩), .pointer (some ⟨g + 2, 0, none⟩)] W _
  obtain ⟨xs, hxs⟩ : ∃ xs, Hid (splitC c l = xs) := ⟨_, rfl⟩
  rw [hxs.out] at hY ⊢
  have L0 := k0.cell
  have L1 := k1.cell
  go_enter Tryz.func155, Tryz.ntmps155
  go_wp2
  go_loopw [] (fun wr => ∃ (pre : List (List UInt8)) (r : List UInt8), pre ++ splitC c r = xs ∧ r.length ≤ l.length ∧ J pre wr ∧ Blk wr g 9 #[.string ⟨r.toArray⟩] ∧ Blk wr (g + 1) 9 #[.string ⟨#[c]⟩] ∧ Blk wr (g + 2) 3 #[.int .i64 0]) (fun W => strAt g W)
  case atStart => exact ⟨[], l, by rw [List.nil_append, hxs.out], Nat.le_refl _, h0.out, k0, k1, k2⟩
  case round =>
    clear k0 k1 k2 h0 L0 L1
    obtain ⟨pre, r, hpr, hrl, hj, k0, k1, k2⟩ := hrel
    replace hj := Lib.hid hj
    have hm := Lib.hid (strAt_blk k0)
    have L0 := k0.cell
    have L1 := k1.cell
    have L2 := k2.cell
    have hix := Lib.hid fun W : World => Tryz.strings_Index_one ⟨r.toArray⟩ c W
    obtain ⟨ix, Hix⟩ : ∃ z, Hid (Lib.indexByte r c = z) := ⟨_, rfl⟩
    have hix' : Hid (∀ W : World, Calls Tryz.prog 157 #[.string ⟨r.toArray⟩, .string ⟨#[c]⟩] W (Same (.int .i64 ix) W)) := fun W => (hix.out W).mono fun e w' ⟨h1, h2⟩ => ⟨by rw [h1]; exact congrArg (fun z => Ending.returned (.int .i64 z)) Hix.out, h2.symm⟩
    clear hix
    have hbnd : r.length ≤ 1000000 := by omega
    by_cases hneg : ix < 0
    · have hlast := splitC_none c r (by rw [Hix.out]; exact hneg)
      rw [hlast] at hpr
      obtain ⟨fn, tmps, assign, body, hy, hR⟩ := hY.out pre r #[.string ⟨r.toArray⟩] wr hj.out (by rw [hpr]; exact List.prefix_refl _) rfl
      go_upto_region 10 with (go_at_call 157; (with_reducible refine (hix'.out _).mono ?_); rintro e w3 ⟨rfl, rfl⟩)
      refine (wpIn_wide (n := 5)).1 ?_
      gi_wp2
      refine hR.mono ?_
      rintro e W3 (⟨rfl, hj3, -⟩ | ⟨rfl, hjx, -⟩)
      · rw [hpr] at hj3
        gi_wp2
        go_wp2
        go_end0
        exact ⟨⟨_, rfl⟩, .inl hj3⟩
      · gi_wp2
        go_wp2
        go_end0
        exact ⟨⟨_, rfl⟩, .inr ⟨_, by rw [hpr]; exact List.prefix_refl _, hjx⟩⟩
    · obtain ⟨i, hi⟩ : ∃ i : Nat, ix = i := ⟨ix.toNat, by omega⟩
      subst hi
      obtain ⟨hil, hstep⟩ := splitC_some c r i Hix.out
      obtain ⟨fn, tmps, assign, body, hy, hR⟩ := hY.out pre (r.take i) #[.string ⟨(r.take i).toArray⟩] wr hj.out (by rw [← hpr, hstep]; exact ⟨_, by rw [List.append_assoc]; rfl⟩) rfl
      go_upto_region 8 with (go_at_call 157; (with_reducible refine (hix'.out _).mono ?_); rintro e w3 ⟨rfl, rfl⟩)
      have hex : (ByteArray.mk r.toArray).extract 0 i = ⟨(r.take i).toArray⟩ := by rw [ByteArray.extract_mk, List.drop_zero, Nat.sub_zero]
      have hex2 : (ByteArray.mk r.toArray).extract (i + 1) r.length = ⟨(r.drop (i + 1)).toArray⟩ := by rw [ByteArray.extract_mk, List.take_of_length_le (by simp)]
      rw [hex]
      refine (wpIn_wide (n := 5)).1 ?_
      gi_wp2
      refine hR.mono ?_
      rintro e W3 (⟨rfl, hj3, hrn⟩ | ⟨rfl, hjx, -⟩)
      rotate_left
      · gi_wp2
        go_wp2
        refine bodyPost_ret (results_none rfl _ _ _) rfl ?_
        exact ⟨⟨_, rfl⟩, .inr ⟨_, by rw [← hpr, hstep]; exact ⟨_, by rw [List.append_assoc]; rfl⟩, hjx⟩⟩
      replace k0 := hrn.blk k0 hgX.1 (.inr hTs)
      replace k1 := hrn.blk k1 hgX.2.1 (.inr hTs)
      replace k2 := hrn.blk k2 hgX.2.2 hTi
      clear L0 L1 L2 hj hR hy
      replace hj3 := Lib.hid hj3
      have L0 := k0.cell
      have L1 := k1.cell
      have F0 := k0.frozen
      have hix0 : (i : Int) < 1000000 := by omega
      have hex3 : (i : Int) + 1 ≤ r.length := by omega
      gi_wp2
      go_wp2
      go_roundw
      case rel => exact ⟨pre ++ [r.take i], r.drop (i + 1), by rw [List.append_assoc, ← hpr, hstep]; rfl, by simp; omega, hJ.out _ _ _ hj3.out (IT.of_bx (Z := [g]) (bx_set (.inl (by simp)) _ (bx_refl _ _)) (fun z hz => by have hz := List.mem_singleton.1 hz; subst hz; exact ⟨.inl (by simp), _, _, hTk, k0⟩)), k0.set 0 _, by (exact zK), by (exact zK)⟩
      case measure =>
        rw [strAt_blk (k0.set 0 _), hm.out]
        simp
        omega
end Go.Proofs.YtbdgblnccjpahaaGreatDoor
namespace Go.Proofs.YtbdgblnccjpahaaGreatDoor
open Go.RowKit Go.Shelf
attribute [local go_sem] bl_al bl_drew bl_drewN bl_refl bx_al bx_drew bx_drewN bx_refl
set_option maxRecDepth 20000
set_option maxHeartbeats 2000000 in
theorem c_Cut0 (l : List UInt8) (c : UInt8) (w : World) (hl : l.length ≤ 1000000) :
    Calls Tryz.prog 119 #[.string ⟨l.toArray⟩, .string ⟨#[c]⟩] w (Ret (.tuple #[.string ⟨(cutC c l).1.toArray⟩, .string ⟨(cutC c l).2.1.toArray⟩, .bool (cutC c l).2.2]) w) := by
  obtain ⟨ix, Hix⟩ : ∃ z, Hid (Lib.indexByte l c = z) := ⟨_, rfl⟩
  have hix : Hid (∀ W : World, Calls Tryz.prog 158 #[.string ⟨l.toArray⟩, .string ⟨#[c]⟩] W (Same (.int .i64 ix) W)) := fun W => (Tryz.stringslite_Index_one ⟨l.toArray⟩ c W).mono fun e w' ⟨h1, h2⟩ => ⟨by rw [h1]; exact congrArg (fun z => Ending.returned (.int .i64 z)) Hix.out, h2.symm⟩
  by_cases hneg : ix < 0
  · rw [cutC_none c l (by rw [Hix.out]; exact hneg)]
    have hn : ¬ 0 ≤ ix := by omega
    clear Hix
    go_enter Tryz.func119, Tryz.ntmps119
    go_wp2_with (go_at_call 158; (with_reducible refine (hix.out _).mono ?_); rintro e w3 ⟨rfl, rfl⟩)
    refine bodyPost_ret (v := .tuple #[.string ⟨l.toArray⟩, .string ⟨#[]⟩, .bool false]) (by simp [results, Tryz.results119, go_sem]) rfl ⟨rfl, bl_refl _⟩
  · obtain ⟨i, hi⟩ : ∃ i : Nat, ix = i := ⟨ix.toNat, by omega⟩
    subst hi
    obtain ⟨hil, hc⟩ := cutC_some c l i Hix.out
    rw [hc]
    clear hc Hix
    have hex : (ByteArray.mk l.toArray).extract 0 i = ⟨(l.take i).toArray⟩ := by rw [ByteArray.extract_mk, List.drop_zero, Nat.sub_zero]
    have hex2 : (ByteArray.mk l.toArray).extract (i + 1) l.length = ⟨(l.drop (i + 1)).toArray⟩ := by rw [ByteArray.extract_mk, List.take_of_length_le (by simp)]
    have h1 : (i : Int) < 1000000 := by omega
    have h2 : (i : Int) ≤ l.length := by omega
    have h3 : (i : Int) + 1 ≤ l.length := by omega
    have h4 : 0 ≤ (i : Int) + 1 := by omega
    go_enter Tryz.func119, Tryz.ntmps119
    go_upto_region 3 with (go_at_call 158; (with_reducible refine (hix.out _).mono ?_); rintro e w3 ⟨rfl, rfl⟩)
    clear hix
    refine wp_any (w0 := w) ⟨[], [], [some 13, some 14, some 15, some 16, some 17, some 18, some 19, some 20, some 21, some 4, some 5, some 6], [[], [], [0, 1], [], [], [], [5], [4, 5, 6], [3, 4, 5, 6, 7], [0, 1, 2], [0, 1, 2, 3, 4, 5, 6, 7, 8, 9], [0, 1, 2, 3, 4, 5, 6, 7, 8, 9, 10]], [[], [], [0, 1], [], [], [], [5], [4, 6], [3, 7], [2], [8], []]⟩ (fun _ => []) (by kernel_rfl) (by kernel_rfl) (by (exact zE)) (fun u => by simp only [putD, Act.put, List.setIfInBounds_toArray, List.set_cons_zero, List.set_cons_succ, Nat.zero_add, Nat.reduceAdd]; rfl) ?_
    apply RGW.on (i := 0) rfl
    · exact zG
    · intro γ u W hcur hd
      clear hd
      (try dsimp only)
      exact ⟨rfl, zS⟩
    · exact zC
    · rfl
    dsimp only [nA, cA]
    apply RGW.on (i := 1) rfl
    · exact zG
    · intro γ u W hcur hd
      clear hd
      (try dsimp only)
      exact ⟨rfl, zS⟩
    · exact zC
    · rfl
    dsimp only [nA, cA]
    apply RGW.on (i := 2) rfl
    · exact zG
    · intro γ u W hcur hd
      obtain ⟨⟨h0, -, -⟩, ⟨h1, -, -⟩, -⟩ := hd
      dsimp only at h0 h1
      (try simp only [h0, h1])
      exact ⟨rfl, zS⟩
    · exact zC
    · rfl
    dsimp only [nA, cA]
    apply RGW.on (i := 3) rfl
    · exact zG
    · intro γ u W hcur hd
      clear hd
      (try dsimp only)
      exact ⟨rfl, zS⟩
    · exact zC
    · rfl
    dsimp only [nA, cA]
    apply RGW.on (i := 4) rfl
    · exact zG
    · intro γ u W hcur hd
      clear hd
      (try dsimp only)
      exact ⟨rfl, zS⟩
    · exact zC
    · rfl
    dsimp only [nA, cA]
    apply RGW.on (i := 5) rfl
    · exact zG
    · intro γ u W hcur hd
      clear hd
      (try dsimp only)
      exact ⟨rfl, zS⟩
    · exact zC
    · rfl
    dsimp only [nA, cA]
    apply RGW.on (i := 6) rfl
    · exact zG
    · intro γ u W hcur hd
      obtain ⟨⟨h5, -, -⟩, -⟩ := hd
      dsimp only at h5
      (try simp only [h5])
      exact ⟨rfl, zS⟩
    · exact zC
    · rfl
    dsimp only [nA, cA]
    apply RGW.on (i := 7) rfl
    · exact zG
    · intro γ u W hcur hd
      obtain ⟨⟨h4, -, -⟩, ⟨h6, -, -⟩, -⟩ := hd
      dsimp only at h4 h6
      (try simp only [h4, h6])
      exact ⟨rfl, zS⟩
    · exact zC
    · rfl
    dsimp only [nA, cA]
    apply RGW.on (i := 8) rfl
    · exact zG
    · intro γ u W hcur hd
      obtain ⟨⟨h3, -, -⟩, ⟨h7, -, -⟩, -⟩ := hd
      dsimp only at h3 h7
      (try simp only [h3, h7])
      exact ⟨rfl, zS⟩
    · exact zC
    · rfl
    dsimp only [nA, cA]
    apply RGW.on (i := 9) rfl
    · exact zG
    · intro γ u W hcur hd
      obtain ⟨⟨h2, -, -⟩, -⟩ := hd
      dsimp only at h2
      (try simp only [h2])
      exact ⟨rfl, zS⟩
    · exact zC
    · rfl
    dsimp only [nA, cA]
    apply RGW.on (i := 10) rfl
    · exact zG
    · intro γ u W hcur hd
      obtain ⟨⟨h8, -, -⟩, -⟩ := hd
      dsimp only at h8
      (try simp only [h8])
      exact ⟨rfl, zS⟩
    · exact zC
    · rfl
    dsimp only [nA, cA]
    apply RGW.on (i := 11) rfl
    · exact zG
    · intro γ u W hcur hd
      clear hd
      (try dsimp only)
      exact ⟨rfl, zS⟩
    · exact zC
    · rfl
    dsimp only [nA, cA]
    refine RGW.fin (fun γ u wa hwa hd hdis => ?_)
    obtain ⟨⟨h0, -, -⟩, ⟨h1, -, -⟩, ⟨h2, -, -⟩, ⟨h3, -, -⟩, ⟨h4, -, -⟩, ⟨h5, -, -⟩, ⟨h6, -, -⟩, ⟨h7, -, -⟩, ⟨h8, -, -⟩, ⟨h9, -, -⟩, ⟨h10, -, -⟩, ⟨h11, -, -⟩, -⟩ := hd
    dsimp only at h0 h1 h2 h3 h4 h5 h6 h7 h8 h9 h10 h11
    clear hdis
    simp only [h0, h1, h2, h3, h4, h5, h6, h7, h8, h9, h10, h11]
    clear h11 h10 h9 h8 h7 h6 h5 h4 h3 h2 h1 h0
    clear u
    simp only [List.map_nil]
    refine PlanW.done ?_
    have hb3 := bl_tt hwa
    go_wp2
    refine bodyPost_ret (v := .tuple #[.string ⟨(l.take i).toArray⟩, .string ⟨(l.drop (i + 1)).toArray⟩, .bool true]) (by simp [results, Tryz.results119, go_sem]) rfl ⟨rfl, hwa⟩
theorem c_CutB (l : List UInt8) (c : UInt8) (w : World) (hl : l.length ≤ 1000000) :
    Calls Tryz.prog 60 #[.string ⟨l.toArray⟩, .string ⟨#[c]⟩] w (Ret (.tuple #[.string ⟨(cutC c l).1.toArray⟩, .string ⟨(cutC c l).2.1.toArray⟩, .bool (cutC c l).2.2]) w) := by
  have hc := Lib.hid fun W => c_Cut0 l c W hl
  generalize cutC c l = R at *
  obtain ⟨a, b, d⟩ := R
  dsimp only at *
  go_enter Tryz.func60, Tryz.ntmps60
  go_wp2_with fail
  refine (hc.out _).mono ?_
  rintro e w1 ⟨rfl, hb⟩
  go_wp2
  refine bodyPost_ret (v := .tuple #[.string ⟨a.toArray⟩, .string ⟨b.toArray⟩, .bool d]) (by simp [results, Tryz.results60, go_sem]) rfl ⟨rfl, hb⟩
end Go.Proofs.YtbdgblnccjpahaaGreatDoor
namespace Go.Proofs.YtbdgblnccjpahaaGreatDoor
def Fu.con (f : Fu) : ByteArray × List (List Int) := (f.name, f.ws.map fun r : Rw => r.l)
def Md.con (m : Md) : ByteArray × List Int := (m.name, m.r.l)
/-- Two nets say the same. -/
structure NtEq (n m : Nt) : Prop where
  ps : m.ps = n.ps
  fs : m.fs.map Fu.con = n.fs.map Fu.con
  ms : m.ms.map Md.con = n.ms.map Md.con
theorem NtEq.refl (n : Nt) : NtEq n n := ⟨rfl, rfl, rfl⟩
theorem NtEq.flen {n m : Nt} (h : NtEq n m) : m.fs.length = n.fs.length := by have := congrArg List.length h.fs; simpa using this
theorem NtEq.mlen {n m : Nt} (h : NtEq n m) : m.ms.length = n.ms.length := by have := congrArg List.length h.ms; simpa using this
theorem eachS_map {α β : Type} (g : α → β) (err : Nat → β → Int) : ∀ (l : List α) (k : Nat), eachS (fun k x => err k (g x)) l k = eachS err (l.map g) k
  | [], _ => rfl
  | x :: l, k => by
    simp only [eachS, List.map_cons]
    rw [eachS_map g err l (k + 1)]
def wayC (parts : Int) (e : Int) (ws : List (List Int)) : Int := ws.foldl (fun e w => fstE [e, unl (decide (0 < w.length)) 10, idxErr w parts]) e
def fuErrC (parts : Int) (names : List ByteArray) (i : Nat) (f : ByteArray × List (List Int)) : Int :=
  wayC parts (fstE [nmErr names i f.1, unl (decide (0 < f.2.length)) 10, unl (decide ((f.2.length : Int) ≤ 6)) 8]) f.2
def mdErrC (funs : Int) (names : List ByteArray) (i : Nat) (m : ByteArray × List Int) : Int := fstE [nmErr names i m.1, idxErr m.2 funs]
theorem waysE_con (parts e : Int) (ws : List Rw) : waysE parts e ws = wayC parts e (ws.map fun r : Rw => r.l) := by
  unfold waysE wayC
  rw [List.foldl_map]
theorem fuErr_con (parts : Int) (names : List ByteArray) : fuErr parts names = fun i f => fuErrC parts names i f.con := by
  funext i f
  unfold fuErr fuErrC Fu.con
  rw [waysE_con]
  simp
theorem mdErr_con (funs : Int) (names : List ByteArray) : mdErr funs names = fun i f => mdErrC funs names i f.con := rfl
theorem NtEq.fnames {n m : Nt} (h : NtEq n m) : (m.fs.map fun f : Fu => f.name) = n.fs.map fun f : Fu => f.name := by
  have := congrArg (List.map Prod.fst) h.fs
  rw [List.map_map, List.map_map] at this
  exact this
theorem NtEq.mnames {n m : Nt} (h : NtEq n m) : (m.ms.map fun f : Md => f.name) = n.ms.map fun f : Md => f.name := by
  have := congrArg (List.map Prod.fst) h.ms
  rw [List.map_map, List.map_map] at this
  exact this
theorem NtEq.chk {n m : Nt} (h : NtEq n m) : netChk m = netChk n := by
  have e0 : m.e0 = n.e0 := by
    unfold Nt.e0
    rw [h.ps, h.flen, h.mlen]
  have e1 : eachS (fuErr m.ps.length (m.fs.map fun f : Fu => f.name)) m.fs 0 = eachS (fuErr n.ps.length (n.fs.map fun f : Fu => f.name)) n.fs 0 := by
    rw [fuErr_con, fuErr_con, eachS_map Fu.con, eachS_map Fu.con, h.fs, h.ps, h.fnames]
  have e2 : eachS (mdErr m.fs.length (m.ms.map fun f : Md => f.name)) m.ms 0 = eachS (mdErr n.fs.length (n.ms.map fun f : Md => f.name)) n.ms 0 := by
    rw [mdErr_con, mdErr_con, eachS_map Md.con, eachS_map Md.con, h.ms, h.flen, h.mnames]
  unfold netChk
  rw [e0, e1, e2, h.ps]
theorem NtEq.err {n m : Nt} (h : NtEq n m) : netErr m = netErr n := by unfold netErr; rw [h.chk]
theorem worksB_con {f g : Fu} (h : f.con = g.con) (s : Nat) : worksB f s = worksB g s := by
  have h2 : (f.ws.map fun r : Rw => r.l) = g.ws.map fun r : Rw => r.l := congrArg Prod.snd h
  have e : ∀ u : Fu, worksB u s = (u.ws.map fun r : Rw => r.l).any fun l => setN l &&& s == 0 := fun u => by
    unfold worksB
    rw [List.any_map]
    rfl
  rw [e, e, h2]
theorem NtEq.fget {n m : Nt} (h : NtEq n m) {k : Nat} {f : Fu} (hf : n.fs[k]? = some f) : ∃ g, m.fs[k]? = some g ∧ g.con = f.con := by
  have h1 := congrArg (fun l => l[k]?) h.fs
  simp only [List.getElem?_map, hf, Option.map_some] at h1
  cases hg : m.fs[k]? with
  | none => rw [hg] at h1; cases h1
  | some g => rw [hg] at h1; exact ⟨g, rfl, by injection h1⟩
theorem NtEq.symm {n m : Nt} (h : NtEq n m) : NtEq m n := ⟨h.ps.symm, h.fs.symm, h.ms.symm⟩
theorem cutTo_con {f g : Fu} (h : f.con = g.con) (b : Nat) : ∀ k, cutTo f b k = cutTo g b k
  | 0 => rfl
  | k + 1 => by rw [cutTo, cutTo, cutTo_con h b k, worksB_con h]
theorem cutS_con {f g : Fu} (h : f.con = g.con) (p : Nat) : cutS f p = cutS g p := cutTo_con h _ _
theorem workN_con {a b : List Fu} (h : a.map Fu.con = b.map Fu.con) (s : Nat) : ∀ k, workN a s k = workN b s k
  | 0 => rfl
  | k + 1 => by
    rw [workN, workN, workN_con h s k]
    have h1 := congrArg (fun l => l[k]?) h
    simp only [List.getElem?_map] at h1
    cases ha : a[k]? with
    | none =>
      rw [ha] at h1
      cases hb : b[k]? with
      | none => rfl
      | some y => rw [hb] at h1; cases h1
    | some x =>
      rw [ha] at h1
      cases hb : b[k]? with
      | none => rw [hb] at h1; cases h1
      | some y =>
        rw [hb] at h1
        have : x.con = y.con := by injection h1
        simp only [worksB_con this]
end Go.Proofs.YtbdgblnccjpahaaGreatDoor
