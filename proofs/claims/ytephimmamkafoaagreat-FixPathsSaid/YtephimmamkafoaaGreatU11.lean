/-
  Walk: the wrong readings for a box, and their witness.
-/
import Derived.Test.YtephimmamkafoaaGreatU10
set_option linter.unusedSimpArgs false
set_option linter.unusedVariables false
namespace Go.Proofs.YtephimmamkafoaaGreat
open Go.RowKit Go.Shelf
attribute [local go_sem] bl_al bl_drew bl_drewN bl_refl bx_al bx_drew bx_drewN bx_refl Oper.semAt_some
set_option maxRecDepth 20000
theorem own_ck {D b n : Nat} {A B : World} {e : TypeId} {size : Nat} {v : Value} {xs : List Value} (h : A.ownsRow b e size v n xs) (hk : CK D A B) : B.ownsRow b e size v n xs := by
  refine ⟨h.1, ?_⟩
  rcases h.2 with h2 | ⟨g, cap, cur, e1, e2, e3, e4⟩
  · exact .inl h2
  · exact .inr ⟨g, cap, cur, e1, e2, hk.keep g _ e3 (.inr rfl), e4⟩
theorem own_bx {b n : Nat} {X : List Nat} {A B : World} {e : TypeId} {size : Nat} {v : Value} {xs : List Value} (h : A.ownsRow b e size v n xs) (hk : BX X A B) (hX : ∀ x ∈ X, x < b) : B.ownsRow b e size v n xs := by
  refine ⟨h.1, ?_⟩
  rcases h.2 with h2 | ⟨g, cap, cur, e1, e2, e3, e4⟩
  · exact .inl h2
  · exact .inr ⟨g, cap, cur, e1, e2, (hk.block g (Array.getElem?_eq_some_iff.1 e3).1 (fun hx => by have := hX g hx; omega)).trans e3, e4⟩
theorem own_sl {W : World} {b c : Nat} {e : TypeId} {A : Option Addr} {L : List Int} (h : W.ownsRow b e 1 (.slice A L.length c) L.length (L.map (.int .i64))) : Sl cI 1 W A L := by
  intro k x hx
  have hk := (List.getElem?_eq_some_iff.1 hx).1
  rcases h.2 with ⟨_, e0⟩ | ⟨g, cap, cur, e1, _, e3, _, _, _, e4⟩
  · omega
  · injection e1 with e1 _ _
    refine ⟨g, 0, e1, fun j v hv => ?_⟩
    match j, hv with
    | 0, hv =>
      simp only [cI, List.getElem?_cons_zero] at hv
      injection hv with hv
      subst hv
      simp only [World.cell?, e3, Nat.zero_add, Nat.mul_one, Nat.add_zero, Nat.zero_le, if_true]
      have h5 : (cur.toList.take (L.length * 1))[k]? = some (.int .i64 x) := by rw [e4]; simp [hx]
      rw [List.getElem?_take, if_pos (by omega)] at h5
      simpa using h5
    | j + 1, hv => simp [cI] at hv
theorem wide_fn (f : FuncId) : Fence.wide.fn f := trivial
theorem undef_bool {b : Bool} : some undef ≠ some (Value.bool b) := by simp [undef]
def bestTest (S : List Int) (s : List Int × Pl × Bool) : Bool := !s.2.2 || decide (S.length < s.1.length) || (decide (S.length = s.1.length) && lexB S s.1)
def bestF (g : Pl → List Int) (s : List Int × Pl × Bool) (p : Pl) : List Int × Pl × Bool := if bestTest (g p) s then (g p, p, true) else s
/-- The first of the least lists, and where it is. -/
def bestOf (g : Pl → List Int) (ps : List Pl) : List Int × Pl × Bool := ps.foldl (bestF g) ([], ⟨0, 0, 0⟩, false)
theorem bestOf_snoc (g : Pl → List Int) (ps : List Pl) (p : Pl) : bestOf g (ps ++ [p]) = bestF g (bestOf g ps) p := by simp [bestOf, List.foldl_append]
theorem foldl_bestF_len {g : Pl → List Int} {m : Nat} (hg : ∀ p, (g p).length ≤ m) : ∀ (ps : List Pl) (s : List Int × Pl × Bool), s.1.length ≤ m → (ps.foldl (bestF g) s).1.length ≤ m
  | [], _, h => h
  | p :: ps, s, h => foldl_bestF_len hg ps _ (by unfold bestF; split; exact hg p; exact h)
theorem bestOf_len {g : Pl → List Int} {m : Nat} (hg : ∀ p, (g p).length ≤ m) (ps : List Pl) : (bestOf g ps).1.length ≤ m := foldl_bestF_len hg ps _ (Nat.zero_le _)
def wrongL (bs : List Bc) (l : List Rd) (p : Pl) : List Int := idxs (bitsTo (wrongB bs p l) l.length) true l.length
def wrongE (n : Nt) (b : Bx) (l : List Rd) : Int := fstE [boxErr n b, readsErr n l]
def wrongBest (n : Nt) (b : Bx) (l : List Rd) : List Int × Pl × Bool := bestOf (wrongL n.bs l) b.pts
def wrongS (n : Nt) (b : Bx) (l : List Rd) : List Int × Pl × Int :=
  if wrongE n b l = 0 then (if b.size ≤ 20000 then ((wrongBest n b l).1, (wrongBest n b l).2.1, 0) else ([], ⟨0, 0, 0⟩, 8)) else ([], ⟨0, 0, 0⟩, wrongE n b l)
theorem wrong_ok {n : Nt} {b : Bx} {l : List Rd} (h : wrongE n b l = 0) : b.ok ∧ l.length ≤ 8 ∧ ∀ r ∈ l, r.ok n.bs := by
  unfold wrongE at h
  simp only [fst_cons] at h
  obtain ⟨h1, h2, -⟩ := h
  obtain ⟨-, h5, h6⟩ := reads_ok h2
  exact ⟨box_ok h1, h5, h6⟩
/-- A slice of the call's own, a position and an error. -/
def RetW (L : List Int) (p : Pl) (x : Int) (w : World) (e : Ending) (w' : World) : Prop :=
  ∃ A c, e = .returned (.tuple #[.slice A L.length c, vPl p, .int .i64 x]) ∧ Below w.heap.size w w' ∧ w'.ownsRow w.heap.size 3 1 (.slice A L.length c) L.length (L.map (.int .i64))
set_option maxHeartbeats 8000000 in
theorem c_WrongOf (n : Nt) (b : Bx) (l : List Rd) (A A' : Option Addr) (c c' : Nat) (w : World) (hn : NtIn n A c w) (hl : Sl cRd 4 w A' l) (hll : l.length ≤ 1000) (hlb : n.bs.length ≤ 1000) :
    Calls Tryz.prog 37 #[vNt n.world (.slice A n.bs.length c), vBx b, .slice A' l.length c'] w (RetW (wrongS n b l).1 (wrongS n b l).2.1 (wrongS n b l).2.2 w) := by
  have hco := Lib.hid fun (W : World) (hb : Below w.heap.size w W) => c_openBox n b A c W (hn.below hb)
  have hcv := Lib.hid fun (W : World) (hb : Below w.heap.size w W) => c_readingsErr n l A A' c c' W (hn.below hb) (hl.below hb) hll hlb
  have hcw := Lib.hid fun (W : World) (hb : Below w.heap.size w W) (h : wrongE n b l = 0) (p : Pl) (hp : p.in 10000) => c_wrong n.world n.bs A A' c c' l p W (hn.sl.below hb) hlb (hl.below hb) (wrong_ok h).2.1 hp (wrong_ok h).2.2
  have hok := Lib.hid fun h : wrongE n b l = 0 => wrong_ok h
  have hme : Hid (wrongE n b l = fstE [boxErr n b, readsErr n l]) := rfl
  have hs1 : Hid (wrongE n b l ≠ 0 → wrongS n b l = ([], ⟨0, 0, 0⟩, wrongE n b l)) := fun h => by rw [wrongS, if_neg h]
  have hs2 : Hid (wrongE n b l = 0 → 20000 < b.size → wrongS n b l = ([], ⟨0, 0, 0⟩, 8)) := fun h h' => by rw [wrongS, if_pos h, if_neg (by omega)]
  have hs3 : Hid (wrongE n b l = 0 → b.size ≤ 20000 → wrongS n b l = ((bestOf (fun p => idxs (bitsTo (wrongB n.bs p l) l.length) true l.length) b.pts).1, (bestOf (fun p => idxs (bitsTo (wrongB n.bs p l) l.length) true l.length) b.pts).2.1, 0)) := fun h h' => by rw [wrongS, if_pos h, if_pos h']; rfl
  have hbt := Lib.hid fun p => bitsTo_lt (wrongB n.bs p l) l.length
  replace hok : Hid (wrongE n b l = 0 → b.ok ∧ l.length ≤ 8) := fun h => ⟨(hok.out h).1, (hok.out h).2.1⟩
  generalize hf : (fun p => bitsTo (wrongB n.bs p l) l.length) = f
  have hf' : ∀ p, bitsTo (wrongB n.bs p l) l.length = f p := fun p => by rw [← hf]
  simp only [hf'] at hcw hs3 hbt
  clear hn hl hf hf'
  generalize n.bs.length = nl at *
  generalize l.length = ll at *
  refine calls_marks Tryz.func37 rfl ?_
  simp only [Tryz.ntmps37, List.size_toArray, List.length_cons, List.length_nil, Nat.reduceAdd, Nat.reduceSub, Array.replicate_succ, Array.replicate_zero, List.push_toArray, List.append_toArray, List.nil_append, List.cons_append]
  go_wp2_with fail
  refine Calls.mono (hco.out _ ?_) ?_
  · solve_by_elim (maxDepth := 60) only [bl_al, bl_drew, bl_drewN, bl_refl, *]
  rintro e w3 ⟨rfl, hb3⟩
  replace hb3 := bl_tt hb3
  apply absX3 (w0 := w) (w := w3) (g0 := w.heap.size) (g1 := w.heap.size + 2) (g2 := w.heap.size + 3)
  iterate 4 (focus exact zL)
  try clear hb3
  try clear hb0
  try clear k0
  try clear k2
  try clear k3
  intro wa hb0 k0 k2 k3
  (try simp only [List.setIfInBounds_toArray, List.set_cons_zero, List.set_cons_succ] at k0 k2 k3)
  have Lk0 := k0.later
  have Fk0 := k0.laterF
  have Qk0 := k0.lt
  have Lk2 := k2.later
  have Fk2 := k2.laterF
  have Qk2 := k2.lt
  have Lk3 := k3.later
  have Fk3 := k3.laterF
  have Qk3 := k3.lt
  go_upto_region 2 with fail
  apply absB5 (w0 := w) (g0 := w.heap.size) (g1 := w.heap.size + 2) (g2 := w.heap.size + 3) (g3 := wa.heap.size) (g4 := wa.heap.size + 1)
  iterate 6 (focus exact zL)
  try clear hb3
  try clear Lk0
  try clear Fk0
  try clear Qk0
  try clear Lk2
  try clear Fk2
  try clear Qk2
  try clear Lk3
  try clear Fk3
  try clear Qk3
  try clear hb0
  try clear k0
  try clear k2
  try clear k3
  try clear k5
  try clear k6
  intro wb hb0 k0 k2 k3 k5 k6
  (try simp only [List.setIfInBounds_toArray, List.set_cons_zero, List.set_cons_succ] at k0 k2 k3 k5 k6)
  have Lk0 := k0.later
  have Fk0 := k0.laterF
  have Qk0 := k0.lt
  have Lk2 := k2.later
  have Fk2 := k2.laterF
  have Qk2 := k2.lt
  have Lk3 := k3.later
  have Fk3 := k3.laterF
  have Qk3 := k3.lt
  have Lk5 := k5.later
  have Fk5 := k5.laterF
  have Qk5 := k5.lt
  have Lk6 := k6.later
  have Fk6 := k6.laterF
  have Qk6 := k6.lt
  go_upto_region 3 with (first | (go_at_call 85; (with_reducible refine (hcv.out _ (bl_tr hb0 (by (exact zE)))).mono ?_); rintro e w3 ⟨rfl, hb3⟩; replace hb3 := bl_tt hb3) | (go_at_call 48; (with_reducible refine (c_first2 (by (exact zK))).mono ?_); rintro e w3 ⟨rfl, rfl⟩))
  apply absB5 (w0 := w) (g0 := w.heap.size) (g1 := w.heap.size + 2) (g2 := w.heap.size + 3) (g3 := wa.heap.size) (g4 := wa.heap.size + 1)
  iterate 6 (focus exact zL)
  try clear hb3
  try clear Lk0
  try clear Fk0
  try clear Qk0
  try clear Lk2
  try clear Fk2
  try clear Qk2
  try clear Lk3
  try clear Fk3
  try clear Qk3
  try clear Lk5
  try clear Fk5
  try clear Qk5
  try clear Lk6
  try clear Fk6
  try clear Qk6
  try clear hb0
  try clear k0
  try clear k2
  try clear k3
  try clear k5
  try clear k6
  intro wc hb0 k0 k2 k3 k5 k6
  (try simp only [List.setIfInBounds_toArray, List.set_cons_zero, List.set_cons_succ] at k0 k2 k3 k5 k6)
  have Lk0 := k0.later
  have Fk0 := k0.laterF
  have Qk0 := k0.lt
  have Lk2 := k2.later
  have Fk2 := k2.laterF
  have Qk2 := k2.lt
  have Lk3 := k3.later
  have Fk3 := k3.laterF
  have Qk3 := k3.lt
  have Lk5 := k5.later
  have Fk5 := k5.laterF
  have Qk5 := k5.lt
  have Lk6 := k6.later
  have Fk6 := k6.laterF
  have Qk6 := k6.lt
  rw [← hme.out]
  by_cases h0 : wrongE n b l = 0
  · have h0' : (wrongE n b l != 0) = false := by simp [h0]
    obtain ⟨hbo, hl8⟩ := hok.out h0
    have hcs := Lib.hid fun W : World => c_search b W hbo
    by_cases hsz : b.size ≤ 20000
    · have hcw' := Lib.hid fun (W : World) (hb : Below w.heap.size w W) => hcw.out W hb h0
      have hs := Lib.hid (hs3.out h0 hsz)
      have hsz' : Hid (unl (decide (b.size ≤ 20000)) 8 = 0) := by simp [unl, hsz]; exact Lib.hid trivial
      rw [hsz'.out] at hcs
      replace h0 := Lib.hid h0
      clear hs1 hs2 hs3 hcw hco hcv hok hme
      go_upto_region 6 with (go_at_call 86; (with_reducible refine (hcs.out _).mono ?_); rintro e w3 ⟨rfl, hb3⟩; replace hb3 := bl_tt hb3)
      apply absB5 (w0 := w) (g0 := w.heap.size) (g1 := w.heap.size + 2) (g2 := w.heap.size + 3) (g3 := wa.heap.size) (g4 := wa.heap.size + 1)
      iterate 6 (focus exact zL)
      try clear hb3
      try clear Lk0
      try clear Fk0
      try clear Qk0
      try clear Lk2
      try clear Fk2
      try clear Qk2
      try clear Lk3
      try clear Fk3
      try clear Qk3
      try clear Lk5
      try clear Fk5
      try clear Qk5
      try clear Lk6
      try clear Fk6
      try clear Qk6
      try clear hb0
      try clear k0
      try clear k2
      try clear k3
      try clear k5
      try clear k6
      intro wd hb0 k0 k2 k3 k5 k6
      (try simp only [List.setIfInBounds_toArray, List.set_cons_zero, List.set_cons_succ] at k0 k2 k3 k5 k6)
      have Lk0 := k0.later
      have Fk0 := k0.laterF
      have Qk0 := k0.lt
      have Lk2 := k2.later
      have Fk2 := k2.laterF
      have Qk2 := k2.lt
      have Lk3 := k3.later
      have Fk3 := k3.laterF
      have Qk3 := k3.lt
      have Lk5 := k5.later
      have Fk5 := k5.laterF
      have Qk5 := k5.lt
      have Lk6 := k6.later
      have Fk6 := k6.laterF
      have Qk6 := k6.lt
      go_wp2
      have hbd := hb0
      have hq3 := k3.lt
      have hq6 := k6.lt
      have hbi : Hid (b.in 10000) := Lib.hid hbo.in
      have hpi := Lib.hid fun p (h : p ∈ b.pts) => pts_in hbo h
      apply absB8 (w0 := w) (g0 := w.heap.size) (g1 := w.heap.size + 2) (g2 := w.heap.size + 3) (g3 := wa.heap.size) (g4 := wa.heap.size + 1) (g5 := wd.heap.size) (g6 := wd.heap.size + 1) (g7 := wd.heap.size + 2)
      iterate 9 (focus exact zL)
      try clear hb3
      try clear Lk0
      try clear Fk0
      try clear Qk0
      try clear Lk2
      try clear Fk2
      try clear Qk2
      try clear Lk3
      try clear Fk3
      try clear Qk3
      try clear Lk5
      try clear Fk5
      try clear Qk5
      try clear Lk6
      try clear Fk6
      try clear Qk6
      try clear hb0
      try clear k0
      try clear k2
      try clear k3
      try clear k5
      try clear k6
      try clear k8
      try clear k9
      try clear k10
      intro we hb0 k0 k2 k3 k5 k6 k8 k9 k10
      (try simp only [List.setIfInBounds_toArray, List.set_cons_zero, List.set_cons_succ] at k0 k2 k3 k5 k6 k8 k9 k10)
      have hqe := k10.lt
      have hq0 := hbd.size
      have hle := hb0.size
      have hgl := Lib.hid fun p => idxs_len (f p) true ll
      have hix := Lib.hid fun (p : Pl) (W : World) => c_indexes (f p) ll true W (Nat.lt_of_lt_of_le (hbt.out p) (Nat.pow_le_pow_right (by decide) (by omega))) (by omega)
      obtain ⟨g, hg⟩ : ∃ g : Pl → List Int, ∀ p, idxs (f p) true ll = g p := ⟨_, fun _ => rfl⟩
      simp only [hg] at hs hgl hix
      clear hg hbt
      refine wp_range (gf := 87) (rb := #[vBx b]) rfl (enters_of Tryz.func87 (by kernel_rfl) rfl) (places_iter b hbi.out 5) (fun _ => rfl) [wd.heap.size, wd.heap.size + 1, wd.heap.size + 2] (by simp; omega)
        (fun pre W => Below w.heap.size w W ∧ Blk W (w.heap.size + 2) 45 #[.slice A' ll c'] ∧ Blk W (w.heap.size + 3) 70 #[.int .i64 0, .int .i64 0, .int .i64 0] ∧
          Blk W wa.heap.size 94 (aON n.world (.slice A nl c)) ∧
          (∃ Ab cb, Blk W wd.heap.size 78 #[.slice Ab (bestOf g pre).1.length cb] ∧ W.ownsRow (wd.heap.size + 3) 3 1 (.slice Ab (bestOf g pre).1.length cb) (bestOf g pre).1.length ((bestOf g pre).1.map (.int .i64))) ∧
          Blk W (wd.heap.size + 1) 127 #[.int .i64 (bestOf g pre).2.1.x, .int .i64 (bestOf g pre).2.1.y, .int .i64 (bestOf g pre).2.1.z] ∧ Blk W (wd.heap.size + 2) 4 #[.bool (bestOf g pre).2.2])
        (fun s A B h hc => ⟨hc.belowOf hle h.1, hc.blk h.2.1, hc.blk h.2.2.1, hc.blk h.2.2.2.1, (by obtain ⟨Ab, cb, h1, h2⟩ := h.2.2.2.2.1; exact ⟨Ab, cb, hc.blk h1, own_ck h2 hc⟩), hc.blk h.2.2.2.2.2.1, hc.blk h.2.2.2.2.2.2⟩)
        ⟨hb0, k2, k3, k5, ⟨none, 0, k8, World.ownsRow_nil _ _ _ _⟩, k9, k10⟩ ?round ?done
      case round =>
        clear k0 k2 k3 k5 k6 k8 k9 k10 hb0
        rintro ln pre p W ⟨hb0, k2, k3, k5, ⟨Ab, cb, k8, hown⟩, k9, k10⟩ ⟨rest, hrest⟩
        have hpp := hpi.out p (by rw [← hrest]; simp)
        have hQ := k10.lt
        gi_wp2
        apply midK7 (X := [wd.heap.size, wd.heap.size + 1, wd.heap.size + 2]) (w0 := w) (g0 := w.heap.size + 2) (g1 := w.heap.size + 3) (g2 := wa.heap.size) (g3 := wd.heap.size) (g4 := wd.heap.size + 1) (g5 := wd.heap.size + 2) (g6 := W.heap.size) (by omega)
        iterate 9 (focus exact zL)
        try clear hb3
        try clear hb0
        try clear k2
        try clear k3
        try clear k5
        try clear k8
        try clear k9
        try clear k10
        try clear k11
        intro wb2 hb0 hck k2 k3 k5 k8 k9 k10 k11
        (try simp only [List.setIfInBounds_toArray, List.set_cons_zero, List.set_cons_succ] at k2 k3 k5 k8 k9 k10 k11)
        have hown := own_ck (own_below hown (bl_al _ (bl_refl W))) hck
        have hbw := hb0
        have hb0 := bx_refl [wd.heap.size, wd.heap.size + 1, wd.heap.size + 2] wb2
        have hst := bestOf_snoc g pre p
        have hTl := bestOf_len hgl.out pre
        have hSl := hgl.out p
        have hcp := Lib.hid fun (W : World) (hb : Below wb2.heap.size wb2 W) => hcw'.out W (bl_tr hbw hb) p hpp
        have hix' := Lib.hid (hix.out p)
        unfold bestF at hst
        generalize bestOf g pre = s at *
        obtain ⟨T, q, fnd⟩ := s
        dsimp only at k8 k9 k10 hst hTl hown
        generalize hgS : g p = S at *
        generalize f p = fp at *
        clear hgS hrest hgl hix hcw'
        replace hst := Lib.hid hst
        replace hown := Lib.hid hown
        have hQb := k11.lt
        have hn0 : W.heap.size ≠ wd.heap.size := by omega
        have hn1 : W.heap.size ≠ wd.heap.size + 1 := by omega
        have hn2 : W.heap.size ≠ wd.heap.size + 2 := by omega
        have Lk2 := k2.later
        have Fk2 := k2.laterF
        have Qk2 := k2.lt
        have Lk3 := k3.later
        have Fk3 := k3.laterF
        have Qk3 := k3.lt
        have Lk5 := k5.later
        have Fk5 := k5.laterF
        have Qk5 := k5.lt
        have Lk8 := k8.later
        have Fk8 := k8.laterF
        have Qk8 := k8.lt
        have Lk9 := k9.later
        have Fk9 := k9.laterF
        have Qk9 := k9.lt
        have Lk10 := k10.later
        have Fk10 := k10.laterF
        have Qk10 := k10.lt
        have Lk11 := k11.later
        have Fk11 := k11.laterF
        have Qk11 := k11.lt
        gi_wp2
        refine wpIn_any (w0 := wb2) ⟨[], [], [some 43, some 44, some 45, some 46, some 47, some 48, some 49, some 16], [[], [], [], [0, 1, 2], [], [4], [0, 1, 2, 3, 4, 5], [0, 1, 2, 3, 4, 5, 6]], [[], [], [], [0, 1, 2], [], [4], [3, 5], [6]]⟩ (fun _ => []) (by kernel_rfl) (by kernel_rfl) (by kernel_rfl) (by (exact zE)) (fun u => by simp only [putD, Act.put, List.setIfInBounds_toArray, List.set_cons_zero, List.set_cons_succ, Nat.zero_add, Nat.reduceAdd]; rfl) ?_
        apply RGW.on (i := 0) rfl
        · exact zG
        · intro γ u W hcur hd
          clear hd
          (try dsimp only)
          exact ⟨rfl, zS⟩
        · exact zC
        · rfl
        dsimp only [nA, cA]
        apply RGW.on (i := 1) rfl
        · exact zG
        · intro γ u W hcur hd
          clear hd
          (try dsimp only)
          exact ⟨rfl, zS⟩
        · exact zC
        · rfl
        dsimp only [nA, cA]
        apply RGW.on (i := 2) rfl
        · exact zG
        · intro γ u W hcur hd
          clear hd
          (try dsimp only)
          exact ⟨rfl, zS⟩
        · exact zC
        · rfl
        dsimp only [nA, cA]
        apply RGW.call (i := 3) rfl
        · exact zG
        · intro γ u W hcur hd
          obtain ⟨⟨h0, -, -⟩, ⟨h1, -, -⟩, ⟨h2, -, -⟩, -⟩ := hd
          dsimp only at h0 h1 h2
          (try simp only [h0, h1, h2])
          refine ⟨rfl, fun K hK => ?_⟩
          go_simp
          (go_at_call 73; (with_reducible refine (hcp.out _ (by (exact zE))).mono ?_); rintro e w3 ⟨rfl, hb3⟩; replace hb3 := bl_tt hb3)
          (try dsimp only)
          exact hK.out _ _ rfl (by (exact zE))
        · exact zC
        · rfl
        dsimp only [nA, cA]
        apply RGW.on (i := 4) rfl
        · exact zG
        · intro γ u W hcur hd
          clear hd
          (try dsimp only)
          exact ⟨rfl, zS⟩
        · exact zC
        · rfl
        dsimp only [nA, cA]
        apply RGW.on (i := 5) rfl
        · exact zG
        · intro γ u W hcur hd
          obtain ⟨⟨h4, -, -⟩, -⟩ := hd
          dsimp only at h4
          (try simp only [h4])
          exact ⟨rfl, zS⟩
        · exact zC
        · rfl
        dsimp only [nA, cA]
        apply RGW.gh (⟨fun γ => .slice (γ 6).A S.length (γ 6).c, fun γ W => W.ownsRow (wd.heap.size + 3) 3 1 (.slice (γ 6).A S.length (γ 6).c) S.length (S.map (.int .i64)), fun _ => []⟩) (i := 6) rfl
        · exact zG
        · intro γ u W hcur hd
          obtain ⟨⟨h3, -, -⟩, ⟨h5, -, -⟩, -⟩ := hd
          dsimp only at h3 h5
          (try simp only [h3, h5])
          refine ⟨rfl, fun K hK => ?_⟩
          go_simp
          (go_at_call 72; (with_reducible refine (hix'.out _).mono ?_); rintro e w3 ⟨Ax, cx, rfl, hb3, hox⟩; dsimp only; exact hK.out ⟨0, undef, Ax, cx⟩ _ _ (by simp [up]) hb3 (by simpa [up] using own_mono (Nat.le_trans (by omega) hcur.size) hox) (by simp))
        · intro γ γ' hg
          try dsimp only
          have e6 := hg 6 (by decide)
          simp only [e6]
          try exact ⟨trivial, fun _ h => h⟩
        · intro γ W W' hbl hR
          first | exact hR.below hbl | exact own_below hR hbl | exact trivial | exact ⟨hR.1.below hbl, hR.2⟩
        · rfl
        dsimp only [nA, cA]
        apply RGW.on (i := 7) rfl
        · exact zG
        · intro γ u W hcur hd
          obtain ⟨⟨h6, r6, -⟩, -⟩ := hd
          dsimp only at h6 r6
          (try simp only [h6])
          exact ⟨rfl, zS⟩
        · intro γ γ' hg
          try dsimp only
          have e6 := hg 6 (by decide)
          simp only [e6]
        · rfl
        dsimp only [nA, cA]
        refine RGW.fin (fun γ u wc2 hwc2 hd hdis => ?_)
        obtain ⟨⟨h0, -, -⟩, ⟨h1, -, -⟩, ⟨h2, -, -⟩, ⟨h3, -, -⟩, ⟨h4, -, -⟩, ⟨h5, -, -⟩, ⟨h6, r6, b6⟩, ⟨h7, -, -⟩, -⟩ := hd
        dsimp only at h0 h1 h2 h3 h4 h5 h6 h7 r6 b6
        clear hdis
        simp only [h0, h1, h2, h3, h4, h5, h6, h7]
        clear h7 h6 h5 h4 h3 h2 h1 h0
        clear u
        simp only [List.map_nil]
        refine PlanW.done ?_
        refine only_done ?_
        have hb3x := bx_tt hwc2
        have hb3 := bl_tt hwc2
        generalize (γ 6).A = As at *
        generalize (γ 6).c = cs at *
        have hos := Lib.hid r6
        have hown := Lib.hid (own_below hown.out hwc2)
        clear r6 hcp hix'
        have hb1 := bx_bl [wd.heap.size, wd.heap.size + 1, wd.heap.size + 2] hwc2
        have hbw := bl_tr hbw hwc2
        replace k2 := k2.below hwc2
        replace k3 := k3.below hwc2
        replace k5 := k5.below hwc2
        replace k8 := k8.below hwc2
        replace k9 := k9.below hwc2
        replace k10 := k10.below hwc2
        replace k11 := k11.below hwc2
        clear Lk2 Lk3 Lk5 Lk8 Lk9 Lk10 Lk11 Fk2 Fk3 Fk5 Fk8 Fk9 Fk10 Fk11 hb3 hb3x
        have hb0 := bx_refl [wd.heap.size, wd.heap.size + 1, wd.heap.size + 2] wc2
        have Lk2 := k2.later
        have Fk2 := k2.laterF
        have Qk2 := k2.lt
        have Lk3 := k3.later
        have Fk3 := k3.laterF
        have Qk3 := k3.lt
        have Lk5 := k5.later
        have Fk5 := k5.laterF
        have Qk5 := k5.lt
        have Lk8 := k8.later
        have Fk8 := k8.laterF
        have Qk8 := k8.lt
        have Lk9 := k9.later
        have Fk9 := k9.laterF
        have Qk9 := k9.lt
        have Lk10 := k10.later
        have Fk10 := k10.laterF
        have Qk10 := k10.lt
        have Lk11 := k11.later
        have Fk11 := k11.laterF
        have Qk11 := k11.lt
        have hcm := Lib.hid fun (W : World) (hb : Below wc2.heap.size wc2 W) => c_Compare S T As Ab cs cb W ((own_sl hos.out).below hb) ((own_sl hown.out).below hb) (by omega) (by omega)
        cases fnd
        · replace hSl := Lib.hid hSl
          have hst' : Hid (bestOf g (pre ++ [p]) = (S, p, true)) := by rw [hst.out, if_pos (by simp [bestTest, Bool.not_false])]; exact Lib.hid rfl
          clear hst
          gi_upto_region 15 with (first | (rename_i h1 h2; exact absurd h1 undef_bool) | (with_reducible refine And.intro (wide_fn _) ?_))
          apply absIK7 (X := [wd.heap.size, wd.heap.size + 1, wd.heap.size + 2]) (w0 := wc2) (g0 := w.heap.size + 2) (g1 := w.heap.size + 3) (g2 := wa.heap.size) (g3 := wd.heap.size) (g4 := wd.heap.size + 1) (g5 := wd.heap.size + 2) (g6 := W.heap.size)
          iterate 8 (focus exact zL)
          try clear hb3
          try clear hb3x
          try clear hb0
          try clear k2
          try clear k3
          try clear k5
          try clear k8
          try clear k9
          try clear k10
          try clear k11
          intro xa hb0 k2 k3 k5 k8 k9 k10 k11
          (try simp only [List.setIfInBounds_toArray, List.set_cons_zero, List.set_cons_succ] at k2 k3 k5 k8 k9 k10 k11)
          have Lk2 := k2.later
          have Fk2 := k2.laterF
          have Qk2 := k2.lt
          have Lk3 := k3.later
          have Fk3 := k3.laterF
          have Qk3 := k3.lt
          have Lk5 := k5.later
          have Fk5 := k5.laterF
          have Qk5 := k5.lt
          have Lk8 := k8.later
          have Fk8 := k8.laterF
          have Qk8 := k8.lt
          have Lk9 := k9.later
          have Fk9 := k9.laterF
          have Qk9 := k9.lt
          have Lk10 := k10.later
          have Fk10 := k10.laterF
          have Qk10 := k10.lt
          have Lk11 := k11.later
          have Fk11 := k11.laterF
          have Qk11 := k11.lt
          refine wpIn_any (w0 := xa) ⟨[2, 3, 4], [1], [some 72, some 73, none, none, none], [[], [], [0], [0, 1, 2], [0, 1, 2, 3]], [[], [], [], [], []]⟩ (fun _ => [wd.heap.size, wd.heap.size + 1, wd.heap.size + 2]) (by kernel_rfl) (by kernel_rfl) (by kernel_rfl) (by (exact zE)) (fun u => by simp only [putD, Act.put, List.setIfInBounds_toArray, List.set_cons_zero, List.set_cons_succ, Nat.zero_add, Nat.reduceAdd]; rfl) ?_
          apply RGW.on (i := 0) rfl
          · exact zG
          · intro γ u W hcur hd
            clear hd
            (try dsimp only)
            exact ⟨rfl, zS⟩
          · exact zC
          · rfl
          dsimp only [nA, cA]
          apply RGW.onL (i := 1) rfl
          · exact zG
          · intro γ u Wm W hcur hd hX
            clear hd
            (try dsimp only)
            have Mk2 := (Blk.below k2 hcur).laterN _ _ hX
            have Mk3 := (Blk.below k3 hcur).laterN _ _ hX
            have Mk5 := (Blk.below k5 hcur).laterN _ _ hX
            have Mk8 := (Blk.below k8 hcur).laterN _ _ hX
            have Mk9 := (Blk.below k9 hcur).laterN _ _ hX
            have Mk10 := (Blk.below k10 hcur).laterN _ _ hX
            have Mk11 := (Blk.below k11 hcur).laterN _ _ hX
            exact ⟨rfl, zS⟩
          · exact zC
          dsimp only [nA, cA]
          refine RGW.skip (i := 2) rfl rfl ?_
          dsimp only [nA, cA]
          refine RGW.skip (i := 3) rfl rfl ?_
          dsimp only [nA, cA]
          refine RGW.skip (i := 4) rfl rfl ?_
          dsimp only [nA, cA]
          refine RGW.fin (fun γ u ya hya hd hdis => ?_)
          obtain ⟨⟨h0, -, -⟩, ⟨h1, -, -⟩, -⟩ := hd
          dsimp only at h0 h1
          clear hdis
          simp only [h0, h1]
          clear h1 h0
          clear u
          simp only [List.map_cons, List.map_nil]
          apply PlanW.step
          · exact zG
          · rfl
          intro K hK
          go_simp
          refine hK.out _ _ (by (exact zX)) (fun hcur => ?_)
          clear hK K
          try simp only [Act.put, List.setIfInBounds_toArray, List.set_cons_zero, List.set_cons_succ]
          apply PlanW.step
          · exact zG
          · rfl
          intro K hK
          refine wp_store_keep (X := [wd.heap.size, wd.heap.size + 1, wd.heap.size + 2]) (w0 := ya) rfl rfl rfl (by with_reducible first | exact bx_refl _ _ | assumption) (by with_reducible first | assumption | (apply Blk.below (hb := hya); assumption)) (by simp) (by kernel_rfl) (by rfl) (by simp [Value.oneCell']) (fun hres2 hcur => ?_)
          refine hK.out _ _ hcur (fun _ => ?_)
          clear hK K
          try simp only [Act.put, List.setIfInBounds_toArray, List.set_cons_zero, List.set_cons_succ]
          apply PlanW.step
          · exact zG
          · rfl
          intro K hK
          obtain ⟨u0, v0, z0⟩ := bx_cell0 hcur (Blk.below k10 hya) (by simp)
          go_simp
          refine hK.out _ _ (by (exact zX)) (fun hcur => ?_)
          clear hK K
          try simp only [Act.put, List.setIfInBounds_toArray, List.set_cons_zero, List.set_cons_succ]
          refine PlanW.done ?_
          refine only_done ?_
          have hb3x := bx_tt hya
          have hb3 := bl_tt hya
          have hb3y := (bx_tt hya _ _ hb0).trans hcur
          gi_wp2
          apply goesK7 (X := [wd.heap.size, wd.heap.size + 1, wd.heap.size + 2]) (w0 := wc2) (g0 := w.heap.size + 2) (g1 := w.heap.size + 3) (g2 := wa.heap.size) (g3 := wd.heap.size) (g4 := wd.heap.size + 1) (g5 := wd.heap.size + 2) (g6 := W.heap.size)
          iterate 8 (focus exact zL)
          try clear hb3
          try clear hb3x
          try clear Lk2
          try clear Fk2
          try clear Qk2
          try clear Lk3
          try clear Fk3
          try clear Qk3
          try clear Lk5
          try clear Fk5
          try clear Qk5
          try clear Lk8
          try clear Fk8
          try clear Qk8
          try clear Lk9
          try clear Fk9
          try clear Qk9
          try clear Lk10
          try clear Fk10
          try clear Qk10
          try clear Lk11
          try clear Fk11
          try clear Qk11
          try clear hb0
          try clear k2
          try clear k3
          try clear k5
          try clear k8
          try clear k9
          try clear k10
          try clear k11
          intro za hb0 k2 k3 k5 k8 k9 k10 k11
          (try simp only [List.setIfInBounds_toArray, List.set_cons_zero, List.set_cons_succ] at k2 k3 k5 k8 k9 k10 k11)
          exact ⟨hb1.trans hb0, bx_below hbw hb0 (by simp; omega), k2, k3, k5, ⟨As, cs, by rw [hst'.out]; first | exact k8 | (rw [← heq] at k8; exact k8), by rw [hst'.out]; exact own_bx hos.out hb0 (by simp)⟩, by rw [hst'.out]; exact k9, by rw [hst'.out]; exact k10⟩
        by_cases hlt : S.length < T.length
        · have hlt' : decide ((S.length : Int) < (T.length : Int)) = true := by simp; omega
          have hst' : Hid (bestOf g (pre ++ [p]) = (S, p, true)) := by rw [hst.out, if_pos (by simp [bestTest, hlt])]; exact Lib.hid rfl
          clear hst
          gi_upto_region 15 with (first | (rename_i h1 h2; exact absurd h1 undef_bool) | (with_reducible refine And.intro (wide_fn _) ?_))
          apply absIK7 (X := [wd.heap.size, wd.heap.size + 1, wd.heap.size + 2]) (w0 := wc2) (g0 := w.heap.size + 2) (g1 := w.heap.size + 3) (g2 := wa.heap.size) (g3 := wd.heap.size) (g4 := wd.heap.size + 1) (g5 := wd.heap.size + 2) (g6 := W.heap.size)
          iterate 8 (focus exact zL)
          try clear hb3
          try clear hb3x
          try clear hb0
          try clear k2
          try clear k3
          try clear k5
          try clear k8
          try clear k9
          try clear k10
          try clear k11
          intro xb hb0 k2 k3 k5 k8 k9 k10 k11
          (try simp only [List.setIfInBounds_toArray, List.set_cons_zero, List.set_cons_succ] at k2 k3 k5 k8 k9 k10 k11)
          have Lk2 := k2.later
          have Fk2 := k2.laterF
          have Qk2 := k2.lt
          have Lk3 := k3.later
          have Fk3 := k3.laterF
          have Qk3 := k3.lt
          have Lk5 := k5.later
          have Fk5 := k5.laterF
          have Qk5 := k5.lt
          have Lk8 := k8.later
          have Fk8 := k8.laterF
          have Qk8 := k8.lt
          have Lk9 := k9.later
          have Fk9 := k9.laterF
          have Qk9 := k9.lt
          have Lk10 := k10.later
          have Fk10 := k10.laterF
          have Qk10 := k10.lt
          have Lk11 := k11.later
          have Fk11 := k11.laterF
          have Qk11 := k11.lt
          refine wpIn_any (w0 := xb) ⟨[2, 3, 4], [1], [some 72, some 73, none, none, none], [[], [], [0], [0, 1, 2], [0, 1, 2, 3]], [[], [], [], [], []]⟩ (fun _ => [wd.heap.size, wd.heap.size + 1, wd.heap.size + 2]) (by kernel_rfl) (by kernel_rfl) (by kernel_rfl) (by (exact zE)) (fun u => by simp only [putD, Act.put, List.setIfInBounds_toArray, List.set_cons_zero, List.set_cons_succ, Nat.zero_add, Nat.reduceAdd]; rfl) ?_
          apply RGW.on (i := 0) rfl
          · exact zG
          · intro γ u W hcur hd
            clear hd
            (try dsimp only)
            exact ⟨rfl, zS⟩
          · exact zC
          · rfl
          dsimp only [nA, cA]
          apply RGW.onL (i := 1) rfl
          · exact zG
          · intro γ u Wm W hcur hd hX
            clear hd
            (try dsimp only)
            have Mk2 := (Blk.below k2 hcur).laterN _ _ hX
            have Mk3 := (Blk.below k3 hcur).laterN _ _ hX
            have Mk5 := (Blk.below k5 hcur).laterN _ _ hX
            have Mk8 := (Blk.below k8 hcur).laterN _ _ hX
            have Mk9 := (Blk.below k9 hcur).laterN _ _ hX
            have Mk10 := (Blk.below k10 hcur).laterN _ _ hX
            have Mk11 := (Blk.below k11 hcur).laterN _ _ hX
            exact ⟨rfl, zS⟩
          · exact zC
          dsimp only [nA, cA]
          refine RGW.skip (i := 2) rfl rfl ?_
          dsimp only [nA, cA]
          refine RGW.skip (i := 3) rfl rfl ?_
          dsimp only [nA, cA]
          refine RGW.skip (i := 4) rfl rfl ?_
          dsimp only [nA, cA]
          refine RGW.fin (fun γ u yb hyb hd hdis => ?_)
          obtain ⟨⟨h0, -, -⟩, ⟨h1, -, -⟩, -⟩ := hd
          dsimp only at h0 h1
          clear hdis
          simp only [h0, h1]
          clear h1 h0
          clear u
          simp only [List.map_cons, List.map_nil]
          apply PlanW.step
          · exact zG
          · rfl
          intro K hK
          go_simp
          refine hK.out _ _ (by (exact zX)) (fun hcur => ?_)
          clear hK K
          try simp only [Act.put, List.setIfInBounds_toArray, List.set_cons_zero, List.set_cons_succ]
          apply PlanW.step
          · exact zG
          · rfl
          intro K hK
          refine wp_store_keep (X := [wd.heap.size, wd.heap.size + 1, wd.heap.size + 2]) (w0 := yb) rfl rfl rfl (by with_reducible first | exact bx_refl _ _ | assumption) (by with_reducible first | assumption | (apply Blk.below (hb := hyb); assumption)) (by simp) (by kernel_rfl) (by rfl) (by simp [Value.oneCell']) (fun hres2 hcur => ?_)
          refine hK.out _ _ hcur (fun _ => ?_)
          clear hK K
          try simp only [Act.put, List.setIfInBounds_toArray, List.set_cons_zero, List.set_cons_succ]
          apply PlanW.step
          · exact zG
          · rfl
          intro K hK
          obtain ⟨u0, v0, z0⟩ := bx_cell0 hcur (Blk.below k10 hyb) (by simp)
          go_simp
          refine hK.out _ _ (by (exact zX)) (fun hcur => ?_)
          clear hK K
          try simp only [Act.put, List.setIfInBounds_toArray, List.set_cons_zero, List.set_cons_succ]
          refine PlanW.done ?_
          refine only_done ?_
          have hb3x := bx_tt hyb
          have hb3 := bl_tt hyb
          have hb3y := (bx_tt hyb _ _ hb0).trans hcur
          gi_wp2
          apply goesK7 (X := [wd.heap.size, wd.heap.size + 1, wd.heap.size + 2]) (w0 := wc2) (g0 := w.heap.size + 2) (g1 := w.heap.size + 3) (g2 := wa.heap.size) (g3 := wd.heap.size) (g4 := wd.heap.size + 1) (g5 := wd.heap.size + 2) (g6 := W.heap.size)
          iterate 8 (focus exact zL)
          try clear hb3
          try clear hb3x
          try clear Lk2
          try clear Fk2
          try clear Qk2
          try clear Lk3
          try clear Fk3
          try clear Qk3
          try clear Lk5
          try clear Fk5
          try clear Qk5
          try clear Lk8
          try clear Fk8
          try clear Qk8
          try clear Lk9
          try clear Fk9
          try clear Qk9
          try clear Lk10
          try clear Fk10
          try clear Qk10
          try clear Lk11
          try clear Fk11
          try clear Qk11
          try clear hb0
          try clear k2
          try clear k3
          try clear k5
          try clear k8
          try clear k9
          try clear k10
          try clear k11
          intro zb hb0 k2 k3 k5 k8 k9 k10 k11
          (try simp only [List.setIfInBounds_toArray, List.set_cons_zero, List.set_cons_succ] at k2 k3 k5 k8 k9 k10 k11)
          exact ⟨hb1.trans hb0, bx_below hbw hb0 (by simp; omega), k2, k3, k5, ⟨As, cs, by rw [hst'.out]; first | exact k8 | (rw [← heq] at k8; exact k8), by rw [hst'.out]; exact own_bx hos.out hb0 (by simp)⟩, by rw [hst'.out]; exact k9, by rw [hst'.out]; exact k10⟩
        · have hlt' : decide ((S.length : Int) < (T.length : Int)) = false := by simp; omega
          by_cases heq : S.length = T.length
          · have heq' : decide ((S.length : Int) = (T.length : Int)) = true := by simp; omega
            have hcl := cmpL_lt S T
            cases hB : lexB S T
            · rw [hB] at hcl
              simp only [heq] at hcm
              have hst' : Hid (bestOf g (pre ++ [p]) = (T, q, true)) := by rw [hst.out, if_neg (by simp [bestTest, hlt, heq, hB])]; exact Lib.hid rfl
              clear hst
              gi_wp2_with (first | (rename_i h1 h2; exact absurd h1 undef_bool) | (with_reducible refine And.intro (wide_fn _) ?_) | (gi_at_call 88; (with_reducible refine (CallsIn.inRound ln (callsIn_wide.2 (hcm.out _ (by (exact zE))))).mono ?_); rintro e w3 ⟨rfl, hb3⟩; have hb3x := bx_tt hb3; replace hb3 := bl_tt hb3))
              apply goesK7 (X := [wd.heap.size, wd.heap.size + 1, wd.heap.size + 2]) (w0 := wc2) (g0 := w.heap.size + 2) (g1 := w.heap.size + 3) (g2 := wa.heap.size) (g3 := wd.heap.size) (g4 := wd.heap.size + 1) (g5 := wd.heap.size + 2) (g6 := W.heap.size)
              iterate 8 (focus exact zL)
              try clear hb3
              try clear hb3x
              try clear hb0
              try clear k2
              try clear k3
              try clear k5
              try clear k8
              try clear k9
              try clear k10
              try clear k11
              intro zc hb0 k2 k3 k5 k8 k9 k10 k11
              (try simp only [List.setIfInBounds_toArray, List.set_cons_zero, List.set_cons_succ] at k2 k3 k5 k8 k9 k10 k11)
              exact ⟨hb1.trans hb0, bx_below hbw hb0 (by simp; omega), k2, k3, k5, ⟨Ab, cb, by rw [hst'.out]; exact k8, by rw [hst'.out]; exact own_bx hown.out hb0 (by simp)⟩, by rw [hst'.out]; exact k9, by rw [hst'.out]; exact k10⟩
            · rw [hB] at hcl
              simp only [heq] at hcm
              have hst' : Hid (bestOf g (pre ++ [p]) = (S, p, true)) := by rw [hst.out, if_pos (by simp [bestTest, hlt, heq, hB])]; exact Lib.hid rfl
              clear hst
              gi_upto_region 15 with (first | (rename_i h1 h2; exact absurd h1 undef_bool) | (with_reducible refine And.intro (wide_fn _) ?_) | (gi_at_call 88; (with_reducible refine (CallsIn.inRound ln (callsIn_wide.2 (hcm.out _ (by (exact zE))))).mono ?_); rintro e w3 ⟨rfl, hb3⟩; have hb3x := bx_tt hb3; replace hb3 := bl_tt hb3))
              apply absIK7 (X := [wd.heap.size, wd.heap.size + 1, wd.heap.size + 2]) (w0 := wc2) (g0 := w.heap.size + 2) (g1 := w.heap.size + 3) (g2 := wa.heap.size) (g3 := wd.heap.size) (g4 := wd.heap.size + 1) (g5 := wd.heap.size + 2) (g6 := W.heap.size)
              iterate 8 (focus exact zL)
              try clear hb3
              try clear hb3x
              try clear hb0
              try clear k2
              try clear k3
              try clear k5
              try clear k8
              try clear k9
              try clear k10
              try clear k11
              intro xd hb0 k2 k3 k5 k8 k9 k10 k11
              (try simp only [List.setIfInBounds_toArray, List.set_cons_zero, List.set_cons_succ] at k2 k3 k5 k8 k9 k10 k11)
              have Lk2 := k2.later
              have Fk2 := k2.laterF
              have Qk2 := k2.lt
              have Lk3 := k3.later
              have Fk3 := k3.laterF
              have Qk3 := k3.lt
              have Lk5 := k5.later
              have Fk5 := k5.laterF
              have Qk5 := k5.lt
              have Lk8 := k8.later
              have Fk8 := k8.laterF
              have Qk8 := k8.lt
              have Lk9 := k9.later
              have Fk9 := k9.laterF
              have Qk9 := k9.lt
              have Lk10 := k10.later
              have Fk10 := k10.laterF
              have Qk10 := k10.lt
              have Lk11 := k11.later
              have Fk11 := k11.laterF
              have Qk11 := k11.lt
              refine wpIn_any (w0 := xd) ⟨[2, 3, 4], [1], [some 72, some 73, none, none, none], [[], [], [0], [0, 1, 2], [0, 1, 2, 3]], [[], [], [], [], []]⟩ (fun _ => [wd.heap.size, wd.heap.size + 1, wd.heap.size + 2]) (by kernel_rfl) (by kernel_rfl) (by kernel_rfl) (by (exact zE)) (fun u => by simp only [putD, Act.put, List.setIfInBounds_toArray, List.set_cons_zero, List.set_cons_succ, Nat.zero_add, Nat.reduceAdd]; rfl) ?_
              apply RGW.on (i := 0) rfl
              · exact zG
              · intro γ u W hcur hd
                clear hd
                (try dsimp only)
                exact ⟨rfl, zS⟩
              · exact zC
              · rfl
              dsimp only [nA, cA]
              apply RGW.onL (i := 1) rfl
              · exact zG
              · intro γ u Wm W hcur hd hX
                clear hd
                (try dsimp only)
                have Mk2 := (Blk.below k2 hcur).laterN _ _ hX
                have Mk3 := (Blk.below k3 hcur).laterN _ _ hX
                have Mk5 := (Blk.below k5 hcur).laterN _ _ hX
                have Mk8 := (Blk.below k8 hcur).laterN _ _ hX
                have Mk9 := (Blk.below k9 hcur).laterN _ _ hX
                have Mk10 := (Blk.below k10 hcur).laterN _ _ hX
                have Mk11 := (Blk.below k11 hcur).laterN _ _ hX
                exact ⟨rfl, zS⟩
              · exact zC
              dsimp only [nA, cA]
              refine RGW.skip (i := 2) rfl rfl ?_
              dsimp only [nA, cA]
              refine RGW.skip (i := 3) rfl rfl ?_
              dsimp only [nA, cA]
              refine RGW.skip (i := 4) rfl rfl ?_
              dsimp only [nA, cA]
              refine RGW.fin (fun γ u yd hyd hd hdis => ?_)
              obtain ⟨⟨h0, -, -⟩, ⟨h1, -, -⟩, -⟩ := hd
              dsimp only at h0 h1
              clear hdis
              simp only [h0, h1]
              clear h1 h0
              clear u
              simp only [List.map_cons, List.map_nil]
              apply PlanW.step
              · exact zG
              · rfl
              intro K hK
              go_simp
              refine hK.out _ _ (by (exact zX)) (fun hcur => ?_)
              clear hK K
              try simp only [Act.put, List.setIfInBounds_toArray, List.set_cons_zero, List.set_cons_succ]
              apply PlanW.step
              · exact zG
              · rfl
              intro K hK
              refine wp_store_keep (X := [wd.heap.size, wd.heap.size + 1, wd.heap.size + 2]) (w0 := yd) rfl rfl rfl (by with_reducible first | exact bx_refl _ _ | assumption) (by with_reducible first | assumption | (apply Blk.below (hb := hyd); assumption)) (by simp) (by kernel_rfl) (by rfl) (by simp [Value.oneCell']) (fun hres2 hcur => ?_)
              refine hK.out _ _ hcur (fun _ => ?_)
              clear hK K
              try simp only [Act.put, List.setIfInBounds_toArray, List.set_cons_zero, List.set_cons_succ]
              apply PlanW.step
              · exact zG
              · rfl
              intro K hK
              obtain ⟨u0, v0, z0⟩ := bx_cell0 hcur (Blk.below k10 hyd) (by simp)
              go_simp
              refine hK.out _ _ (by (exact zX)) (fun hcur => ?_)
              clear hK K
              try simp only [Act.put, List.setIfInBounds_toArray, List.set_cons_zero, List.set_cons_succ]
              refine PlanW.done ?_
              refine only_done ?_
              have hb3x := bx_tt hyd
              have hb3 := bl_tt hyd
              have hb3y := (bx_tt hyd _ _ hb0).trans hcur
              gi_wp2
              apply goesK7 (X := [wd.heap.size, wd.heap.size + 1, wd.heap.size + 2]) (w0 := wc2) (g0 := w.heap.size + 2) (g1 := w.heap.size + 3) (g2 := wa.heap.size) (g3 := wd.heap.size) (g4 := wd.heap.size + 1) (g5 := wd.heap.size + 2) (g6 := W.heap.size)
              iterate 8 (focus exact zL)
              try clear hb3
              try clear hb3x
              try clear Lk2
              try clear Fk2
              try clear Qk2
              try clear Lk3
              try clear Fk3
              try clear Qk3
              try clear Lk5
              try clear Fk5
              try clear Qk5
              try clear Lk8
              try clear Fk8
              try clear Qk8
              try clear Lk9
              try clear Fk9
              try clear Qk9
              try clear Lk10
              try clear Fk10
              try clear Qk10
              try clear Lk11
              try clear Fk11
              try clear Qk11
              try clear hb0
              try clear k2
              try clear k3
              try clear k5
              try clear k8
              try clear k9
              try clear k10
              try clear k11
              intro zd hb0 k2 k3 k5 k8 k9 k10 k11
              (try simp only [List.setIfInBounds_toArray, List.set_cons_zero, List.set_cons_succ] at k2 k3 k5 k8 k9 k10 k11)
              exact ⟨hb1.trans hb0, bx_below hbw hb0 (by simp; omega), k2, k3, k5, ⟨As, cs, by rw [hst'.out]; first | exact k8 | (rw [← heq] at k8; exact k8), by rw [hst'.out]; exact own_bx hos.out hb0 (by simp)⟩, by rw [hst'.out]; exact k9, by rw [hst'.out]; exact k10⟩
          · have heq' : decide ((S.length : Int) = (T.length : Int)) = false := by simp; omega
            have hst' : Hid (bestOf g (pre ++ [p]) = (T, q, true)) := by rw [hst.out, if_neg (by simp [bestTest, hlt, heq])]; exact Lib.hid rfl
            clear hst
            gi_wp2_with (first | (rename_i h1 h2; exact absurd h1 undef_bool) | (with_reducible refine And.intro (wide_fn _) ?_))
            apply goesK7 (X := [wd.heap.size, wd.heap.size + 1, wd.heap.size + 2]) (w0 := wc2) (g0 := w.heap.size + 2) (g1 := w.heap.size + 3) (g2 := wa.heap.size) (g3 := wd.heap.size) (g4 := wd.heap.size + 1) (g5 := wd.heap.size + 2) (g6 := W.heap.size)
            iterate 8 (focus exact zL)
            try clear hb3
            try clear hb3x
            try clear hb0
            try clear k2
            try clear k3
            try clear k5
            try clear k8
            try clear k9
            try clear k10
            try clear k11
            intro ze hb0 k2 k3 k5 k8 k9 k10 k11
            (try simp only [List.setIfInBounds_toArray, List.set_cons_zero, List.set_cons_succ] at k2 k3 k5 k8 k9 k10 k11)
            exact ⟨hb1.trans hb0, bx_below hbw hb0 (by simp; omega), k2, k3, k5, ⟨Ab, cb, by rw [hst'.out]; exact k8, by rw [hst'.out]; exact own_bx hown.out hb0 (by simp)⟩, by rw [hst'.out]; exact k9, by rw [hst'.out]; exact k10⟩
      case done =>
        clear k0 k2 k3 k5 k6 k8 k9 k10 hb0
        rintro W ⟨hb0, k2, k3, k5, ⟨Ab, cb, k8, hown⟩, k9, k10⟩ hK
        have hs' : Hid (wrongS n b l = ((bestOf g b.pts).1, (bestOf g b.pts).2.1, 0)) := hs
        clear hs
        generalize bestOf g b.pts = s at *
        obtain ⟨T, q, fnd⟩ := s
        dsimp only at k8 k9 k10 hown hs' ⊢
        replace hown := Lib.hid hown
        have Lk3 := k3.later
        have Fk3 := k3.laterF
        have Qk3 := k3.lt
        have Lk8 := k8.later
        have Fk8 := k8.laterF
        have Qk8 := k8.lt
        have Lk9 := k9.later
        have Fk9 := k9.laterF
        have Qk9 := k9.lt
        go_wp2
        refine wp_any (w0 := W) ⟨[4, 5], [], [some 74, some 75, some 76, some 6, none, none], [[], [], [1], [0, 1, 2], [0, 1, 2, 3], [0, 1, 2, 3, 4]], [[], [], [1], [0], [], []]⟩ (fun _ => [w.heap.size + 3]) (by kernel_rfl) (by kernel_rfl) (by (exact zE)) (fun u => by simp only [putD, Act.put, List.setIfInBounds_toArray, List.set_cons_zero, List.set_cons_succ, Nat.zero_add, Nat.reduceAdd]; rfl) ?_
        apply RGW.on (i := 0) rfl
        · exact zG
        · intro γ u W hcur hd
          clear hd
          (try dsimp only)
          exact ⟨rfl, zS⟩
        · exact zC
        · rfl
        dsimp only [nA, cA]
        apply RGW.on (i := 1) rfl
        · exact zG
        · intro γ u W hcur hd
          clear hd
          (try dsimp only)
          exact ⟨rfl, zS⟩
        · exact zC
        · rfl
        dsimp only [nA, cA]
        apply RGW.call (i := 2) rfl
        · exact zG
        · intro γ u W hcur hd
          obtain ⟨⟨h1, -, -⟩, -⟩ := hd
          dsimp only at h1
          (try simp only [h1])
          refine ⟨rfl, fun K hK => ?_⟩
          go_simp
          (go_at_call 89; (with_reducible refine (c_point q _).mono ?_); rintro e w3 ⟨rfl, hb3⟩; replace hb3 := bl_tt hb3)
          (try dsimp only)
          exact hK.out _ _ rfl (by (exact zE))
        · exact zC
        · rfl
        dsimp only [nA, cA]
        apply RGW.on (i := 3) rfl
        · exact zG
        · intro γ u W hcur hd
          obtain ⟨⟨h0, -, -⟩, -⟩ := hd
          dsimp only at h0
          (try simp only [h0])
          exact ⟨rfl, zS⟩
        · exact zC
        · rfl
        dsimp only [nA, cA]
        refine RGW.skip (i := 4) rfl rfl ?_
        dsimp only [nA, cA]
        refine RGW.skip (i := 5) rfl rfl ?_
        dsimp only [nA, cA]
        refine RGW.fin (fun γ u wy hwy hd hdis => ?_)
        obtain ⟨⟨h0, -, -⟩, ⟨h1, -, -⟩, ⟨h2, -, -⟩, ⟨h3, -, -⟩, -⟩ := hd
        dsimp only at h0 h1 h2 h3
        clear hdis
        simp only [h0, h1, h2, h3]
        clear h3 h2 h1 h0
        clear u
        simp only [List.map_cons, List.map_nil]
        apply PlanW.step
        · exact zG
        · rfl
        intro K hK
        refine wp_store_keep (X := [w.heap.size + 3]) (w0 := wy) rfl rfl rfl (by with_reducible first | exact bx_refl _ _ | assumption) (by with_reducible first | assumption | (apply Blk.below (hb := hwy); assumption)) (by simp) (by kernel_rfl) (by rfl) (by simp [Value.oneCell']) (fun hres1 hcur => ?_)
        refine hK.out _ _ hcur (fun _ => ?_)
        clear hK K
        try simp only [Act.put, List.setIfInBounds_toArray, List.set_cons_zero, List.set_cons_succ]
        apply PlanW.step
        · exact zG
        · rfl
        intro K hK
        go_simp
        refine hK.out _ _ (by (exact zX)) (fun hcur => ?_)
        clear hK K
        try simp only [Act.put, List.setIfInBounds_toArray, List.set_cons_zero, List.set_cons_succ]
        refine PlanW.done ?_
        have hb3 := bl_tt hwy
        have hK2 := (hwy.block _ (Array.getElem?_eq_some_iff.1 hK).1).trans hK
        go_wp2
        have hlt := (Array.getElem?_eq_some_iff.1 hK2).1
        have hK3 := (hcur.block we.heap.size hlt (by simp; omega)).trans hK2
        have hck := CK.put (D := w.heap.size) (.deferred none) hK3 rfl hle
        have hr := (hck.blk hres1).cell
        have hbe := hck.belowOf (Nat.le_refl _) (bx_below (hb3 w hb0) hcur (by simp))
        exact postM_taken hK3 (v := .tuple #[.slice Ab T.length cb, vPl q, .int .i64 0]) (by simp [results, Tryz.results37, go_sem, hr])
          ⟨Ab, cb, by rw [hs'.out] <;> rfl, hbe, by rw [hs'.out]; exact own_mono (by omega) (own_ck (own_bx (own_below hown.out hwy) hcur (by simp; omega)) hck)⟩
    · have hs := Lib.hid (hs2.out h0 (by omega))
      have hsz' : Hid (unl (decide (b.size ≤ 20000)) 8 = 8) := by simp [unl, hsz]; exact Lib.hid trivial
      rw [hsz'.out] at hcs
      replace h0 := Lib.hid h0
      clear hs1 hs2 hs3 hcw hco hcv hok hme
      go_wp2_with (go_at_call 86; (with_reducible refine (hcs.out _).mono ?_); rintro e w3 ⟨rfl, hb3⟩; replace hb3 := bl_tt hb3)
      apply absPMB1 (w0 := w) (g0 := w.heap.size + 3)
      iterate 2 (focus exact zL)
      try clear hb3
      try clear hb0
      try clear k3
      intro wz hb0 k3
      (try simp only [List.setIfInBounds_toArray, List.set_cons_zero, List.set_cons_succ] at k3)
      have hr := k3.cell
      refine postM_ret (v := .tuple #[.slice none 0 0, vPl ⟨0, 0, 0⟩, .int .i64 8]) (by simp [results, Tryz.results37, go_sem, hr]) ⟨none, 0, by rw [hs.out] <;> rfl, hb0, by rw [hs.out]; exact World.ownsRow_nil _ _ _ _⟩
  · have h0' : (wrongE n b l != 0) = true := by simp [h0]
    have hs := Lib.hid (hs1.out h0)
    replace h0 := Lib.hid h0
    clear hs1 hs2 hs3 hcw hco hcv hok hme
    go_wp2
    apply absPMB1 (w0 := w) (g0 := w.heap.size + 3)
    iterate 2 (focus exact zL)
    try clear hb3
    try clear hb0
    try clear k3
    intro wz hb0 k3
    (try simp only [List.setIfInBounds_toArray, List.set_cons_zero, List.set_cons_succ] at k3)
    have hr := k3.cell
    refine postM_ret (v := .tuple #[.slice none 0 0, vPl ⟨0, 0, 0⟩, .int .i64 (wrongE n b l)]) (by simp [results, Tryz.results37, go_sem, hr]) ⟨none, 0, by rw [hs.out] <;> rfl, hb0, by rw [hs.out]; exact World.ownsRow_nil _ _ _ _⟩
end Go.Proofs.YtephimmamkafoaaGreat
