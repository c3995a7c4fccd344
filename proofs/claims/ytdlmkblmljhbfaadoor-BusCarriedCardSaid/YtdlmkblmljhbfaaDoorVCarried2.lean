/-
  'append' onto a slice of the call's own: its block is the one it had, or a new one.
  The reference's messages in a slice of the call's own, beside a slice of numbers.
-/
import Derived.Test.YtdlmkblmljhbfaaDoorU2
import Derived.Test.YtdlmkblmljhbfaaDoorVCarried1
namespace Go.Proofs.YtdlmkblmljhbfaaDoor
set_option linter.unusedSimpArgs false
set_option linter.unusedVariables false
open Go.RowKit
set_option maxRecDepth 20000
/-- The blocks of two slices of the call's own are not one. -/
def Dis (u v : Value) : Prop := ∀ k, u.ownBlock = some k → v.ownBlock ≠ some k
theorem Dis.symm {u v : Value} (h : Dis u v) : Dis v u := fun k hk hu => h k hu hk
theorem dis_nil (v : Value) : Dis (.slice none 0 0) v := fun k hk => by simp [Value.ownBlock] at hk
section
variable {P : Program} {w : World}
theorem run_append_own2 (base : Nat) (t ty e : TypeId) (i : TypeInfo) (z : Value) (size bytes : Nat) (ht : P.underlying t = some (.slice e)) (hi : P.info? e = some i) (hz : i.zero = some z)
    (hsize : i.size = size) (hby : i.bytes = bytes) (hzs : z.cells.size = size) (hsz : 0 < size)
    (v : Value) (n : Nat) (xs : List Value) (hown : w.ownsRow base e size v n xs)
    (a : Addr) (m c : Nat) (news : List Value) (hl : news.length = m * size) (hnews : ∀ j u, news[j]? = some u → w.cell? (a.add j) = some u) (h1 : ∀ u ∈ news, u.oneCell' = true)
    (h63 : n + m ≤ maxLen) (hbytes : (n + m) * bytes ≤ 140737488355328) (hbase : base ≤ w.heap.size) :
    ∃ v' w', (Builtin.append_ #[t, t] ty #[v, .slice (some a) m c]).run P w = .ok v' w' ∧ w'.ownsRow base e size v' (n + m) (xs ++ news) ∧ w.grownBy w' v.ownBlock ∧
      ∀ k, v'.ownBlock = some k → v.ownBlock = some k ∨ w.heap.size ≤ k := by
  obtain ⟨v', w', hr, h2, h3, h4⟩ := run_append_own (P := P) w base t ty e i z size bytes ht hi hz hsize hby hzs hsz v n xs hown a m c news hl hnews h1 h63 hbytes hbase
  refine ⟨v', w', hr, h2, h3, ?_⟩
  rcases hown.2 with ⟨rfl, rfl⟩ | ⟨g, cap, cur, rfl, hbg, hg, hnc, hcm, hcs, htake⟩
  · have hx : xs = [] := List.eq_nil_of_length_eq_zero (by simpa using hown.1)
    subst hx
    obtain ⟨v2, w2, hr2, h5, -, -⟩ := run_append_own (P := P) w w.heap.size t ty e i z size bytes ht hi hz hsize hby hzs hsz _ 0 [] (World.ownsRow_nil _ _ _ _) a m c news hl hnews h1 h63 hbytes (Nat.le_refl _)
    rw [hr] at hr2
    injection hr2 with e1 e2
    subst e1 e2
    exact fun k hk => .inr (own_ge h5 k hk)
  · subst hsize
    by_cases hroom : n + m ≤ cap
    · have hfit : n * i.size + news.length ≤ cur.size := by rw [hl, hcs, ← Nat.add_mul]; exact Nat.mul_le_mul_right _ hroom
      have hr2 := run_append_room (P := P) w t ty e i ht hi g n cap cur hg a m c news hl hnews h1 hroom hfit
      rw [hr] at hr2
      injection hr2 with e1 e2
      subst e1
      exact fun k hk => .inl (by simpa [Value.ownBlock] using hk)
    · have holds : ∀ j u, xs[j]? = some u → w.cell? ((⟨g, 0, none⟩ : Addr).add j) = some u := hown.cells (g := g) rfl
      have hsmall : n + m ≤ 9223372036854775807 := by simp only [maxLen] at h63; omega
      subst hby
      have hr2 := run_append_grow (P := P) w t ty e i z ht hi hz ⟨g, 0, none⟩ n cap xs hown.1 holds a m c news hl hnews (by omega) (by omega) (growslice_fits (by omega) hbytes)
      rw [hr] at hr2
      injection hr2 with e1 e2
      subst e1
      exact fun k hk => .inr (by simp [Value.ownBlock] at hk; omega)
theorem wpList_append_own2 {ops : Array Oper} {rest : List Oper} {o : Oper} {a : Act} {Q : Exit → Act → World → Prop} (hgd : o.guard = none) (s x : Operand) (t : TypeId)
    (ho : o.op = .call { callee := .builtin .append, args := #[s, x], argTypes := #[t, t] })
    (base : Nat) (e : TypeId) (i : TypeInfo) (z : Value) (size bytes : Nat) (ht : P.underlying t = some (.slice e)) (hi : P.info? e = some i) (hz : i.zero = some z)
    (hsize : i.size = size) (hby : i.bytes = bytes) (hzs : z.cells.size = size) (hsz : 0 < size)
    (v : Value) (n : Nat) (xs : List Value) (hs : a.eval s = v) (hown : w.ownsRow base e size v n xs)
    (ad : Addr) (m c : Nat) (news : List Value) (hx : a.eval x = .slice (some ad) m c) (hl : news.length = m * size) (hnews : ∀ j u, news[j]? = some u → w.cell? (ad.add j) = some u) (h1 : ∀ u ∈ news, u.oneCell' = true)
    (h63 : n + m ≤ maxLen) (hbytes : (n + m) * bytes ≤ 140737488355328) (hbase : base ≤ w.heap.size)
    (h : ∀ v' w', w'.ownsRow base e size v' (n + m) (xs ++ news) → w.grownBy w' v.ownBlock → (∀ k, v'.ownBlock = some k → v.ownBlock = some k ∨ w.heap.size ≤ k) → wpList P ops Q rest (a.put o.dst v') w') : wpList P ops Q (o :: rest) a w := by
  refine wpList_plain hgd fun _ hK => ?_
  obtain ⟨v', w', hr, h2, h3, h4⟩ := run_append_own2 (P := P) base t o.type e i z size bytes ht hi hz hsize hby hzs hsz v n xs hown ad m c news hl hnews h1 h63 hbytes hbase
  unfold Oper.wp execOp
  simp only [ho, resolve, invoke, builtin, Sem.run_bind, Sem.run_pure, Result.andThen_ok, List.map_toArray, List.map_cons, List.map_nil, hs, hx, hr]
  exact hK _ _ (h v' w' h2 h3 h4)
end
/-- Three slices of integers of the call's own, in blocks of their own. -/
structure Row3 (D : Nat) (u v x : Value) (A B C : List Int) (w : World) : Prop where
  a : w.ownsRow D 3 1 u A.length (A.map (.int .i64))
  b : w.ownsRow D 3 1 v B.length (B.map (.int .i64))
  c : w.ownsRow D 3 1 x C.length (C.map (.int .i64))
  ab : Dis u v
  ac : Dis u x
  bc : Dis v x
  ge : D ≤ w.heap.size
theorem kept2 {D n m : Nat} {u v : Value} {xs ys : List Value} {e : TypeId} {size : Nat} {w w' : World} (h : w.ownsRow D e size v m ys) (hg : w.grownBy w' u.ownBlock) (hd : Dis u v) : w'.ownsRow D e size v m ys :=
  h.kept hg (by
    cases hv : v.ownBlock with
    | none => exact .inl rfl
    | some k =>
      refine .inr fun e => ?_
      exact hd k e.symm hv)
theorem dis_new {D n : Nat} {u u' v : Value} {ys : List Value} {e : TypeId} {size : Nat} {w : World} (h : w.ownsRow D e size v n ys) (hd : Dis u v) (hu : ∀ k, u'.ownBlock = some k → u.ownBlock = some k ∨ w.heap.size ≤ k) : Dis u' v := fun k hk hv => by
  rcases hu k hk with h1 | h1
  · exact hd k h1 hv
  · have := (h.lt k hv).2
    omega
theorem Row3.nil {D : Nat} {w : World} (h : D ≤ w.heap.size) : Row3 D (.slice none 0 0) (.slice none 0 0) (.slice none 0 0) [] [] [] w :=
  ⟨World.ownsRow_nil _ _ _ _, World.ownsRow_nil _ _ _ _, World.ownsRow_nil _ _ _ _, dis_nil _, dis_nil _, dis_nil _, h⟩
theorem Row3.below {D : Nat} {u v x : Value} {A B C : List Int} {w w' : World} (h : Row3 D u v x A B C w) (hb : Below w.heap.size w w') : Row3 D u v x A B C w' :=
  ⟨own_below h.a hb, own_below h.b hb, own_below h.c hb, h.ab, h.ac, h.bc, Nat.le_trans h.ge hb.size⟩
theorem Row3.appA {D : Nat} {u u' v x : Value} {A B C : List Int} {y : Int} {w w' : World} (h : Row3 D u v x A B C w) (ho : w'.ownsRow D 3 1 u' (A.length + 1) (A.map (.int .i64) ++ [.int .i64 y])) (hg : w.grownBy w' u.ownBlock)
    (hu : ∀ k, u'.ownBlock = some k → u.ownBlock = some k ∨ w.heap.size ≤ k) : Row3 D u' v x (A ++ [y]) B C w' :=
  ⟨by simpa using ho, kept2 (n := 0) (xs := []) h.b hg h.ab, kept2 (n := 0) (xs := []) h.c hg h.ac, dis_new h.b h.ab hu, dis_new h.c h.ac hu, h.bc, Nat.le_trans h.ge hg.size⟩
theorem Row3.rot {D : Nat} {u v x : Value} {A B C : List Int} {w : World} (h : Row3 D u v x A B C w) : Row3 D v x u B C A w := ⟨h.b, h.c, h.a, h.bc, h.ab.symm, h.ac.symm, h.ge⟩
end Go.Proofs.YtdlmkblmljhbfaaDoor
namespace Go.Proofs.YtdlmkblmljhbfaaDoor
set_option linter.unusedSimpArgs false
set_option linter.unusedVariables false
open Go.RowKit Go.Shelf
set_option maxRecDepth 20000
abbrev tJb : TypeId := 169
theorem infoJ : (Tryd.prog.info? tJb).map (fun i => (i.zero, i.size, i.bytes)) = some (some (.agg #[.int .i64 0, .int .i64 0, .int .i64 0, .int .i64 0]), 4, 32) := by kernel_rfl
theorem cJb_len (x : Jb) : (cJb x).length = 4 := rfl
theorem own_setE {D n : Nat} {w : World} {e : TypeId} {size : Nat} {v : Value} {xs : List Value} (h : w.ownsRow D e size v n xs) {g : Nat} (hv : v.ownBlock = some g) (k : Nat) (u : Value) :
    (w.setCell ⟨g, k, none⟩ u).ownsRow D e size v n (xs.set k u) := by
  refine ⟨by simpa using h.1, ?_⟩
  rcases h.2 with ⟨e0, _⟩ | ⟨g', cap, cur, e1, e2, e3, e4, e5, e6, e7⟩
  · rw [e0] at hv; simp [Value.ownBlock] at hv
  · rw [e1] at hv; simp [Value.ownBlock] at hv; subst hv
    have hk : Blk w g' e cur := e3
    refine .inr ⟨g', cap, _, e1, e2, hk.set k u, e4, e5, by simpa using e6, ?_⟩
    rw [Array.toList_setIfInBounds, List.take_set, e7]
theorem own_oth {D n : Nat} {w : World} {e : TypeId} {size : Nat} {v : Value} {xs : List Value} (h : w.ownsRow D e size v n xs) {g : Nat} (hv : v.ownBlock ≠ some g) (k : Nat) (u : Value) :
    (w.setCell ⟨g, k, none⟩ u).ownsRow D e size v n xs := own_keep h (bx_set (X := [g]) (.inl (by simp)) u (bx_refl _ _)) (fun g' hg' hm => by
  simp at hm
  subst hm
  exact hv hg')
/-- A slice of numbers and one of messages, of the call's own. -/
structure JR (D : Nat) (u v : Value) (O : List Int) (J : List Jb) (w : World) : Prop where
  a : w.ownsRow D 3 1 u O.length (O.map (.int .i64))
  b : w.ownsRow D tJb 4 v J.length (J.flatMap cJb)
  d : Dis u v
  ge : D ≤ w.heap.size
theorem JR.nil {D : Nat} {w : World} (h : D ≤ w.heap.size) : JR D (.slice none 0 0) (.slice none 0 0) [] [] w := ⟨World.ownsRow_nil _ _ _ _, World.ownsRow_nil _ _ _ _, dis_nil _, h⟩
theorem JR.below {D : Nat} {u v : Value} {O : List Int} {J : List Jb} {w w' : World} (h : JR D u v O J w) (hb : Below w.heap.size w w') : JR D u v O J w' :=
  ⟨own_below h.a hb, own_below h.b hb, h.d, Nat.le_trans h.ge hb.size⟩
theorem JR.appO {D : Nat} {u u' v : Value} {O : List Int} {J : List Jb} {y : Int} {w w' : World} (h : JR D u v O J w) (ho : w'.ownsRow D 3 1 u' (O.length + 1) (O.map (.int .i64) ++ [.int .i64 y])) (hg : w.grownBy w' u.ownBlock)
    (hu : ∀ k, u'.ownBlock = some k → u.ownBlock = some k ∨ w.heap.size ≤ k) : JR D u' v (O ++ [y]) J w' :=
  ⟨by simpa using ho, kept2 (n := 0) (xs := []) h.b hg h.d, dis_new h.b h.d hu, Nat.le_trans h.ge hg.size⟩
theorem JR.appJ {D : Nat} {u v v' : Value} {O : List Int} {J : List Jb} {y : Jb} {w w' : World} (h : JR D u v O J w) (ho : w'.ownsRow D tJb 4 v' (J.length + 1) (J.flatMap cJb ++ cJb y)) (hg : w.grownBy w' v.ownBlock)
    (hu : ∀ k, v'.ownBlock = some k → v.ownBlock = some k ∨ w.heap.size ≤ k) : JR D u v' O (J ++ [y]) w' :=
  ⟨kept2 (n := 0) (xs := []) h.a hg h.d.symm, by simpa using ho, (dis_new h.a h.d.symm hu).symm, Nat.le_trans h.ge hg.size⟩
theorem flat_set {J : List Jb} {a : Nat} {x y : Jb} (hx : J[a]? = some x) (i : Nat) (u : Value) (hy : cJb y = (cJb x).set i u) (hi : i < 4) : (J.set a y).flatMap cJb = (J.flatMap cJb).set (a * 4 + i) u := by
  induction J generalizing a with
  | nil => simp at hx
  | cons z J ih =>
    cases a with
    | zero =>
      simp at hx
      subst hx
      simp only [List.set_cons_zero, List.flatMap_cons, hy, Nat.zero_mul, Nat.zero_add]
      rw [List.set_append_left _ _ (by rw [cJb_len]; exact hi)]
    | succ a =>
      simp only [List.set_cons_succ, List.flatMap_cons]
      rw [ih (by simpa using hx), List.set_append_right _ _ (by rw [cJb_len]; omega)]
      congr 2
      rw [cJb_len]
      omega
theorem JR.put {D : Nat} {u v : Value} {O : List Int} {J : List Jb} {w : World} (h : JR D u v O J w) {g a : Nat} (hv : v.ownBlock = some g) {x y : Jb} (hx : J[a]? = some x) (i : Nat) (n : Int) (hi : i < 4) (hy : cJb y = (cJb x).set i (.int .i64 n)) :
    JR D u v O (J.set a y) (w.setCell ⟨g, a * 4 + i, none⟩ (.int .i64 n)) :=
  ⟨own_oth h.a (fun e => h.d g e hv) _ _, by
    have := own_setE h.b hv (a * 4 + i) (.int .i64 n)
    rw [List.length_set, flat_set hx i _ hy hi]
    exact this, h.d, by simpa using h.ge⟩
theorem JR.at {D : Nat} {u v : Value} {O : List Int} {J : List Jb} {w : World} (h : JR D u v O J w) {a : Nat} {x : Jb} (hx : J[a]? = some x) :
    ∃ g c, v = .slice (some ⟨g, 0, none⟩) J.length c ∧ D ≤ g ∧ g < w.heap.size ∧ (∀ i, w.frozen? ⟨g, i, none⟩ = false) ∧ ∀ (i : Nat) (z : Value), (cJb x)[i]? = some z → ∀ W, Below w.heap.size w W → W.cell? ⟨g, a * 4 + i, none⟩ = some z := by
  obtain ⟨A, c, rfl⟩ := own_slice h.b
  have hn := (List.getElem?_eq_some_iff.1 hx).1
  have hs := own_slC cJb_len (by decide) h.b
  rcases h.b.2 with ⟨e0, e1⟩ | ⟨g, cap, cur, e1, e2, e3, e4⟩
  · omega
  · injection e1 with e1 e5 e6
    subst e1
    have hk : Blk w g tJb cur := e3
    refine ⟨g, c, rfl, e2, hk.lt, fun i => hk.frozen _, fun i z hz W hb => ?_⟩
    obtain ⟨g', o', e7, hc⟩ := hs.below hb a x hx
    injection e7 with e7
    injection e7 with e8 e9
    subst e8 e9
    have := hc i z hz
    simpa using this
end Go.Proofs.YtdlmkblmljhbfaaDoor
