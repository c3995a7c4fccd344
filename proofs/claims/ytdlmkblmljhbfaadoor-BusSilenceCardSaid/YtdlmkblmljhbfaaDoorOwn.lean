/-
  Slices of a call's own: what becomes of them in later worlds, copies of slices. Nothing here speaks of the program's functions.
-/
import Derived.Test.YtdlmkblmljhbfaaDoorMid
import Derived.Test.YtdlmkblmljhbfaaDoorPlain
import Derived.ArgAppend
import Derived.Laws.OwnMore
import Derived.Laws.BitsAllLaws
namespace Go.Proofs.YtdlmkblmljhbfaaDoor
set_option linter.unusedSimpArgs false
set_option linter.unusedVariables false
open Go.RowKit
set_option maxRecDepth 20000
/-- A slice of the call's own that holds these numbers. -/
def RetI (L : List Int) (w : World) (e : Ending) (w' : World) : Prop :=
  ∃ A c, e = .returned (.slice A L.length c) ∧ Below w.heap.size w w' ∧ w'.ownsRow w.heap.size 3 1 (.slice A L.length c) L.length (L.map (.int .i64))
theorem infoI : (Tryd.prog.info? 3).map (fun i => (i.zero, i.size, i.bytes)) = some (some (.int .i64 0), 1, 8) := by kernel_rfl
theorem own_ge {w : World} {base n : Nat} {e : TypeId} {size : Nat} {v : Value} {xs : List Value} (h : w.ownsRow base e size v n xs) : ∀ k, v.ownBlock = some k → base ≤ k := fun k hk => by
  rcases h.2 with ⟨e, _⟩ | ⟨g, cap, cur, e, hg, _⟩
  · rw [e] at hk; simp [Value.ownBlock] at hk
  · rw [e] at hk; simp [Value.ownBlock] at hk; omega
theorem own_below {W W' : World} {b n : Nat} {e : TypeId} {size : Nat} {v : Value} {xs : List Value} (h : W.ownsRow b e size v n xs) (hb : Below W.heap.size W W') : W'.ownsRow b e size v n xs := by
  refine ⟨h.1, ?_⟩
  rcases h.2 with h2 | ⟨g, cap, cur, e1, e2, e3, e4⟩
  · exact .inl h2
  · exact .inr ⟨g, cap, cur, e1, e2, (hb.block g (Array.getElem?_eq_some_iff.1 e3).1).trans e3, e4⟩
theorem own_mono {W : World} {b b' n : Nat} {e : TypeId} {size : Nat} {v : Value} {xs : List Value} (hb : b ≤ b') (h : W.ownsRow b' e size v n xs) : W.ownsRow b e size v n xs := by
  refine ⟨h.1, ?_⟩
  rcases h.2 with h2 | ⟨g, cap, cur, e1, e2, e4⟩
  · exact .inl h2
  · exact .inr ⟨g, cap, cur, e1, Nat.le_trans hb e2, e4⟩
theorem RetI.of {L : List Int} {w w' : World} {v : Value} (hb : Below w.heap.size w w') (h : w'.ownsRow w.heap.size 3 1 v L.length (L.map (.int .i64))) : RetI L w (.returned v) w' := by
  rcases h.2 with ⟨e, hn⟩ | ⟨g, cap, cur, e, h2⟩
  · refine ⟨none, 0, ?_, hb, ?_⟩
    · rw [e, hn]
    · rw [hn]; rw [e, hn] at h; exact h
  · exact ⟨some ⟨g, 0, none⟩, cap, by rw [e], hb, by rw [e] at h; exact h⟩
theorem own_ck {D b n : Nat} {A B : World} {e : TypeId} {size : Nat} {v : Value} {xs : List Value} (h : A.ownsRow b e size v n xs) (hk : CK D A B) : B.ownsRow b e size v n xs := by
  refine ⟨h.1, ?_⟩
  rcases h.2 with h2 | ⟨g, cap, cur, e1, e2, e3, e4⟩
  · exact .inl h2
  · exact .inr ⟨g, cap, cur, e1, e2, hk.keep g _ e3 (.inr rfl), e4⟩
theorem own_bx {b n : Nat} {X : List Nat} {A B : World} {e : TypeId} {size : Nat} {v : Value} {xs : List Value} (h : A.ownsRow b e size v n xs) (hk : BX X A B) (hX : ∀ x ∈ X, x < b) : B.ownsRow b e size v n xs := by
  refine ⟨h.1, ?_⟩
  rcases h.2 with h2 | ⟨g, cap, cur, e1, e2, e3, e4⟩
  · exact .inl h2
  · exact .inr ⟨g, cap, cur, e1, e2, (hk.block g (Array.getElem?_eq_some_iff.1 e3).1 (fun hx => by have := hX g hx; omega)).trans e3, e4⟩
theorem own_sl {W : World} {b c : Nat} {e : TypeId} {A : Option Addr} {L : List Int} (h : W.ownsRow b e 1 (.slice A L.length c) L.length (L.map (.int .i64))) : Sl cI 1 W A L := by
  intro k x hx
  have hk := (List.getElem?_eq_some_iff.1 hx).1
  rcases h.2 with ⟨_, e0⟩ | ⟨g, cap, cur, e1, _, e3, _, _, _, e4⟩
  · omega
  · injection e1 with e1 _ _
    refine ⟨g, 0, e1, fun j v hv => ?_⟩
    match j, hv with
    | 0, hv =>
      simp only [cI, List.getElem?_cons_zero] at hv
      injection hv with hv
      subst hv
      simp only [World.cell?, e3, Nat.zero_add, Nat.mul_one, Nat.add_zero, Nat.zero_le, if_true]
      have h5 : (cur.toList.take (L.length * 1))[k]? = some (.int .i64 x) := by rw [e4]; simp [hx]
      rw [List.getElem?_take, if_pos (by omega)] at h5
      simpa using h5
    | j + 1, hv => simp [cI] at hv
theorem wide_fn (f : FuncId) : Fence.wide.fn f := trivial
theorem undef_bool {b : Bool} : some undef ≠ some (Value.bool b) := by simp [undef]
theorem flat_len {α β : Type} (f : α → List β) (m : Nat) (h : ∀ x, (f x).length = m) : ∀ l : List α, (l.flatMap f).length = l.length * m
  | [] => by simp
  | x :: l => by
    rw [List.flatMap_cons, List.length_append, h, flat_len f m h l, List.length_cons, Nat.add_mul, Nat.one_mul]
    omega
theorem flat_at {α : Type} {cs : α → List Value} {sz : Nat} (hcs : ∀ x, (cs x).length = sz) : ∀ {l : List α} {j : Nat} {u : Value}, (l.flatMap cs)[j]? = some u → ∃ k x i, l[k]? = some x ∧ (cs x)[i]? = some u ∧ j = k * sz + i
  | [], j, u, h => by simp at h
  | y :: l, j, u, h => by
    rw [List.flatMap_cons, List.getElem?_append] at h
    by_cases hj : j < (cs y).length
    · rw [if_pos hj] at h
      exact ⟨0, y, j, rfl, h, by simp⟩
    · rw [if_neg hj] at h
      obtain ⟨k, x, i, h1, h2, h3⟩ := flat_at hcs h
      refine ⟨k + 1, x, i, by simpa using h1, h2, ?_⟩
      rw [hcs] at h3 hj
      rw [Nat.add_mul]
      omega
theorem flat_len' {α : Type} {cs : α → List Value} {sz : Nat} (hcs : ∀ x, (cs x).length = sz) (l : List α) : (l.flatMap cs).length = l.length * sz := flat_len cs sz hcs l
theorem flat_get {α : Type} {cs : α → List Value} {sz : Nat} (hcs : ∀ x, (cs x).length = sz) : ∀ {l : List α} {k i : Nat} {x : α} {u : Value}, l[k]? = some x → (cs x)[i]? = some u → (l.flatMap cs)[k * sz + i]? = some u
  | [], k, i, x, u, h, _ => by simp at h
  | y :: l, 0, i, x, u, h, hu => by
    simp at h
    subst h
    have := (List.getElem?_eq_some_iff.1 hu).1
    rw [List.flatMap_cons, List.getElem?_append, if_pos (by omega)]
    simpa using hu
  | y :: l, k + 1, i, x, u, h, hu => by
    rw [List.flatMap_cons, List.getElem?_append, hcs, if_neg (by rw [Nat.add_mul]; omega)]
    have := flat_get hcs (l := l) (k := k) (by simpa using h) hu
    rw [← this]
    congr 1
    rw [Nat.add_mul]
    omega
theorem own_slC {α : Type} {cs : α → List Value} {sz : Nat} (hcs : ∀ x, (cs x).length = sz) (h0 : 0 < sz) {W : World} {b c : Nat} {e : TypeId} {A : Option Addr} {l : List α} (h : W.ownsRow b e sz (.slice A l.length c) l.length (l.flatMap cs)) : Sl cs sz W A l := by
  intro k x hx
  have hk := (List.getElem?_eq_some_iff.1 hx).1
  rcases h.2 with ⟨_, e0⟩ | ⟨g, cap, cur, e1, _, e3, _, _, _, e4⟩
  · omega
  · injection e1 with e1 _ _
    refine ⟨g, 0, e1, fun j v hv => ?_⟩
    have h5 := flat_get hcs hx hv
    rw [← e4, List.getElem?_take] at h5
    split at h5
    · simp only [World.cell?, e3, Nat.zero_add, Nat.zero_le, if_true]
      simpa using h5
    · simp at h5
section
variable {P : Program} {α : Type} {cs : α → List Value} {w : World} {t e g size bytes : Nat} {i : TypeInfo} {z : Value} {A : Option Addr} {l : List α} {c : Nat}
/-- 'append([]T{}, l...)': a slice of the call's own with l's elements. -/
theorem run_copy (ty : TypeId) (ht : P.underlying t = some (.slice e)) (hi : P.info? e = some i) (hz : i.zero = some z) (hsize : i.size = size) (hby : i.bytes = bytes) (hzs : z.cells.size = size) (hsz : 0 < size)
    (hcs : ∀ x, (cs x).length = size) (h1 : ∀ x, ∀ u ∈ cs x, u.oneCell' = true) (hs : Sl cs size w A l) (hl : l.length ≤ 1000) (hb : bytes ≤ 1000) (hg : Blk w g e #[]) :
    ∃ A2 c2 w', (Builtin.append_ #[t, t] ty #[.slice (some ⟨g, 0, none⟩) 0 0, .slice A l.length c]).run P w = .ok (.slice A2 l.length c2) w' ∧ w'.ownsRow g e size (.slice A2 l.length c2) l.length (l.flatMap cs) ∧ Below w.heap.size w w' := by
  by_cases h0 : l = []
  · subst h0
    refine ⟨some ⟨g, 0, none⟩, 0, w, ?_, ⟨by simp, .inr ⟨g, 0, #[], rfl, Nat.le_refl _, hg, by simp, by unfold maxLen; omega, by simp, by simp⟩⟩, bl_refl w⟩
    cases A with
    | none => simp [Builtin.append_, run_underlying ht, sizeOf, typeInfo, hi, Builtin.lenOf, Builtin.firstCells, storeCells, loadCells, loadCellsFrom]
    | some ad => simp [Builtin.append_, run_underlying ht, sizeOf, typeInfo, hi, Builtin.lenOf, Builtin.firstCells, storeCells, loadCells, loadCellsFrom]
  · obtain ⟨x, l', rfl⟩ : ∃ x l', l = x :: l' := by
      cases l with
      | nil => exact absurd rfl h0
      | cons x l' => exact ⟨x, l', rfl⟩
    obtain ⟨b, off, hA, -⟩ := hs 0 x rfl
    subst hA
    have hbd : (0 + (x :: l').length) * bytes ≤ 140737488355328 := by
      have := Nat.mul_le_mul hl hb
      rw [Nat.zero_add]
      omega
    obtain ⟨v', w', r1, r2, r3⟩ := run_append_arg_grows (P := P) w t ty e i z size bytes ht hi hz hsize hby hzs hsz ⟨g, 0, none⟩ 0 0 [] (by simp) (by simp) ⟨b, off, none⟩ (x :: l').length c ((x :: l').flatMap cs) (flat_len' hcs _)
      (fun j u hj => by
        obtain ⟨k, y, i', h2, h3, h4⟩ := flat_at hcs hj
        obtain ⟨b', off', e1, hc⟩ := hs k y h2
        injection e1 with e1
        injection e1 with e1 e2 _
        subst e1 e2
        have := hc i' u h3
        rw [h4]
        have hadd : (⟨b, off, none⟩ : Addr).add (k * size + i') = ⟨b, off + k * size + i', none⟩ := by unfold Addr.add; split <;> simp_all [Nat.add_assoc]
        rw [hadd]
        exact this) (by simp) (by unfold maxLen; omega) hbd
    have hw := hg.lt
    rw [Nat.zero_add, List.nil_append] at r2
    rcases r2.2 with ⟨_, e0⟩ | ⟨g2, cap, cur, e1, e2, e3⟩
    · simp at e0
    · subst e1
      exact ⟨_, _, w', r1, own_mono (by omega) r2, ⟨r3.os, r3.tape, r3.output, r3.size, fun k hk => r3.block k hk (by simp)⟩⟩
theorem wp_copy {o : Oper} {a : Act} {K : Act → World → Prop} {Q : Exit → Act → World → Prop} (s x : Operand) (ho : o.op = .call { callee := .builtin .append, args := #[s, x], argTypes := #[t, t] })
    (ht : P.underlying t = some (.slice e)) (hi : P.info? e = some i) (hz : i.zero = some z) (hsize : i.size = size) (hby : i.bytes = bytes) (hzs : z.cells.size = size) (hsz : 0 < size)
    (hcs : ∀ x, (cs x).length = size) (h1 : ∀ x, ∀ u ∈ cs x, u.oneCell' = true) (hs' : a.eval s = .slice (some ⟨g, 0, none⟩) 0 0) (hx : a.eval x = .slice A l.length c) (hs : Sl cs size w A l) (hl : l.length ≤ 1000) (hb : bytes ≤ 1000) (hg : Blk w g e #[])
    (h : ∀ A2 c2 w', w'.ownsRow g e size (.slice A2 l.length c2) l.length (l.flatMap cs) → Below w.heap.size w w' → K (a.put o.dst (.slice A2 l.length c2)) w') : o.wp P a w K Q := by
  obtain ⟨A2, c2, w', hr, h2, h3⟩ := run_copy (P := P) o.type ht hi hz hsize hby hzs hsz hcs h1 hs hl hb hg (c := c)
  unfold Oper.wp execOp
  simp only [ho, resolve, invoke, builtin, Sem.run_bind, Sem.run_pure, Result.andThen_ok, List.map_toArray, List.map_cons, List.map_nil, hs', hx, hr]
  exact h _ _ _ h2 h3
end
/-- A slice of the call's own with these elements. -/
def RetC {α : Type} (cs : α → List Value) (e : TypeId) (sz : Nat) (l : List α) (w : World) (x : Ending) (w' : World) : Prop :=
  ∃ A c, x = .returned (.slice A l.length c) ∧ Below w.heap.size w w' ∧ w'.ownsRow w.heap.size e sz (.slice A l.length c) l.length (l.flatMap cs)
theorem Blk.slC {α : Type} {cs : α → List Value} {sz : Nat} (hcs : ∀ x, (cs x).length = sz) {w : World} {g : Nat} {t : TypeId} {l : List α} (h : Blk w g t (l.flatMap cs).toArray) : Sl cs sz w (some ⟨g, 0, none⟩) l := fun k x hx =>
  ⟨g, 0, rfl, fun j v hv => by
    have := flat_get hcs hx hv
    have e := h.cell (k * sz + j)
    rw [Nat.zero_add, e]
    simpa using this⟩
/-- A block of integers is a slice's list. -/
theorem Blk.ints {w : World} {g : Nat} {t : TypeId} {l : List Int} (h : Blk w g t (l.map (Value.int .i64)).toArray) : Sl cI 1 w (some ⟨g, 0, none⟩) l := fun k x hx =>
  ⟨g, 0, rfl, fun j v hv => by
    have hj : j = 0 := by
      have := (List.getElem?_eq_some_iff.1 hv).1
      simp [cI] at this; omega
    subst hj
    have hv' : v = .int .i64 x := by simpa [cI] using hv.symm
    subst hv'
    have := h.cell k
    simp only [Nat.zero_add, Nat.mul_one, Nat.add_zero]
    rw [this]
    simp [hx]⟩
theorem bx_nil {w W : World} (h : BX [] w W) : Below w.heap.size w W := ⟨h.os, h.tape, h.output, h.size, fun k hk => h.block k hk (by simp)⟩
theorem sl_bx {α : Type} {cs : α → List Value} {sz : Nat} {W W' : World} {X : List Nat} {L : List α} {A : Option Addr} (h : Sl cs sz W A L) (hb : BX X W W') (hX : ∀ x ∈ X, ∀ b o, A = some ⟨b, o, none⟩ → b ≠ x) : Sl cs sz W' A L := fun k x hx => by
  obtain ⟨b, off, e, hc⟩ := h k x hx
  refine ⟨b, off, e, fun j v hv => ?_⟩
  have h1 := hc j v hv
  have hlt := World.block_lt_of_cell? W _ h1
  have hne : b ∉ X := fun hm => hX b hm b off e rfl
  have : W'.heap[b]? = W.heap[b]? := hb.block b hlt hne
  simp only [World.cell?] at h1 ⊢
  rw [this]
  exact h1
/-- What lay in w still lies where only blocks of later than w turned. -/
theorem sl_new {α : Type} {cs : α → List Value} {sz : Nat} {w W : World} {X : List Nat} {L : List α} {A : Option Addr} (h : Sl cs sz w A L) (hb : BX X w W) (hX : ∀ x ∈ X, w.heap.size ≤ x) : Sl cs sz W A L := fun k x hx => by
  obtain ⟨b, off, e, hc⟩ := h k x hx
  refine ⟨b, off, e, fun j v hv => ?_⟩
  have h1 := hc j v hv
  have hlt := World.block_lt_of_cell? w _ h1
  have hne : b ∉ X := fun hm => by have := hX b hm; have : b < w.heap.size := hlt; omega
  have : W.heap[b]? = w.heap[b]? := hb.block b hlt hne
  simp only [World.cell?] at h1 ⊢
  rw [this]
  exact h1
end Go.Proofs.YtdlmkblmljhbfaaDoor
