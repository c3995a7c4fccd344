/-
  Walks: what a reading measures of a box, and what it permits.
-/
import Derived.Test.YtephimmamkafoaaSquares
import Derived.Test.YtephimmamkafoaaReads
namespace Go.Proofs.Ytephimmamkafoaa
set_option linter.unusedSimpArgs false
set_option linter.unusedVariables false
open Go.RowKit Go.Shelf
attribute [local go_sem] bl_al bl_drew bl_drewN bl_refl bx_al bx_drew bx_drewN bx_refl index_b0 index_b1 index_b2 index_p0 index_p1 index_p2
set_option maxRecDepth 20000
def Bx.side (a : Bx) (i : Int) : Rg := if i = 0 then a.x else if i = 1 then a.y else a.z
def bcAt (bs : List Bc) (i : Int) : Pl := ((bs[i.toNat]?).map (·.pl)).getD ⟨0, 0, 0⟩
def measS (bs : List Bc) (a : Bx) (r : Rd) : Rg × Rg := if r.kind = 1 then (a.side r.idx, r.v) else (squaresS a (bcAt bs r.idx), ⟨r.v.lo * r.v.lo, r.v.hi * r.v.hi⟩)
/-- A reading that is valid. -/
structure Rd.ok (bs : List Bc) (r : Rd) : Prop where
  v : r.v.in 30000
  axis : r.kind = 1 → r.idx = 0 ∨ r.idx = 1 ∨ r.idx = 2
  bc : r.kind ≠ 1 → ∃ (k : Nat) (x : Bc), r.idx = (k : Int) ∧ bs[k]? = some x ∧ x.pl.in 10000
theorem sq_bd3 {x : Int} (h1 : -30000 ≤ x) (h2 : x ≤ 30000) : 0 ≤ x * x ∧ x * x ≤ 900000000 := by
  refine ⟨by by_cases h : 0 ≤ x; exact Int.mul_nonneg h h; exact Int.mul_nonneg_of_nonpos_of_nonpos (by omega) (by omega), ?_⟩
  by_cases h : 0 ≤ x
  · exact (mul_bd h h2 h h2).2
  · have := (mul_bd (a := -x) (b := -x) (m := 30000) (n := 30000) (by omega) (by omega) (by omega) (by omega)).2
    rw [Int.neg_mul_neg] at this
    exact this
set_option maxHeartbeats 4000000 in
theorem c_meas1 (wd a : Bx) (s : Value) (r : Rd) (w : World) (h1 : r.kind = 1) (hi : r.idx = 0 ∨ r.idx = 1 ∨ r.idx = 2) :
    Calls Try.prog 97 #[vON wd s, vBx a, vRd r] w (Ret (.tuple #[vRg (a.side r.idx), vRg r.v]) w) := by
  have h1' : (r.kind == 1) = true := by simp [h1]
  replace h1 := Lib.hid h1
  rcases hi with hi | hi | hi
  all_goals
    go_enter Try.func97, Try.ntmps97
    go_wp2
    first
    | apply absB5 (w0 := w) (g0 := w.heap.size) (g1 := w.heap.size + 1) (g2 := w.heap.size + 2) (g3 := w.heap.size + 3) (g4 := w.heap.size + 4)
    | apply absTB5 (w0 := w) (g0 := w.heap.size) (g1 := w.heap.size + 1) (g2 := w.heap.size + 2) (g3 := w.heap.size + 3) (g4 := w.heap.size + 4)
    | apply absIB5 (w0 := w) (g0 := w.heap.size) (g1 := w.heap.size + 1) (g2 := w.heap.size + 2) (g3 := w.heap.size + 3) (g4 := w.heap.size + 4)
    iterate 6 (focus ((with_reducible (repeat' (first | assumption | apply bl_refl | apply bl_al | apply bl_drew | apply bl_drewN | (apply bl_set; case hp => (first | (simp; done) | (simp; omega) | (dsimp only; omega))) | (apply bl_row; case hg => (first | (simp; done) | (simp; omega) | omega)) | apply hb3 | apply bx_refl | (apply bx_set; case hp => (first | exact Or.inl (by simp; done) | exact Or.inr (by first | (simp; done) | (simp; omega) | (dsimp only; omega)))) | apply bx_drew | apply bx_al | apply bx_drewN | apply hb3x | (apply Blk.newAt; first | (simp; done) | rfl) | apply Blk.alloc | apply Blk.drew | apply Blk.drewN | apply Blk.set | (apply Blk.other; case hne => first | assumption | (simp; done) | (simp; omega) | omega) | apply Blk.row | (apply Blk.rowOther; case hne => first | assumption | (simp; done) | (simp; omega) | omega) | apply Blk.below (hb := hb3 _ (bl_refl _))))); done))
    intro wa hb0' k0' k1' k2' k3' k4'
    (try simp only [List.setIfInBounds_toArray, List.set_cons_zero, List.set_cons_succ] at k0' k1' k2' k3' k4')
    try clear hb3
    try clear hb0
    try clear k0
    try clear k1
    try clear k2
    try clear k3
    try clear k4
    have hb0 := hb0'; clear hb0'
    have k0 := k0'; clear k0'
    have k1 := k1'; clear k1'
    have k2 := k2'; clear k2'
    have k3 := k3'; clear k3'
    have k4 := k4'; clear k4'
    have Lk0 := k0.later
    have Fk0 := k0.laterF
    have Qk0 := k0.lt
    have Lk1 := k1.later
    have Fk1 := k1.laterF
    have Qk1 := k1.lt
    have Lk2 := k2.later
    have Fk2 := k2.laterF
    have Qk2 := k2.lt
    have Lk3 := k3.later
    have Fk3 := k3.laterF
    have Qk3 := k3.lt
    have Lk4 := k4.later
    have Fk4 := k4.laterF
    have Qk4 := k4.lt
    refine wp_any (w0 := wa) ⟨[6, 7], [4, 5], [some 12, some 13, some 14, some 15, some 16, some 17, none, none], [[], [0], [0, 1], [0, 1, 2], [], [4], [0, 1, 2, 3], [0, 1, 2, 3, 4, 5, 6]], [[], [0], [1], [2], [], [4], [], []]⟩ (fun _ => [w.heap.size + 3, w.heap.size + 4]) (by kernel_rfl) (by kernel_rfl) (by (with_reducible (repeat' (first | assumption | apply bl_refl | apply bl_al | apply bl_drew | apply bl_drewN | (apply bl_set; case hp => (first | (simp; done) | (simp; omega) | (dsimp only; omega))) | (apply bl_row; case hg => (first | (simp; done) | (simp; omega) | omega)) | apply hb3)))) (fun u => by simp only [putD, Act.put, List.setIfInBounds_toArray, List.set_cons_zero, List.set_cons_succ, Nat.zero_add, Nat.reduceAdd]; rfl) ?_
    apply RGW.on (i := 0) rfl
    · (simp only [List.getElem?_toArray, List.getElem?_cons_succ, List.getElem?_cons_zero] <;> rfl)
    · intro γ u W hcur hd
      clear hd
      (try dsimp only)
      refine ⟨rfl, ?_⟩
      go_simp <;> (try go_bits) <;> with_reducible rfl
    · first
      | exact fun _ _ _ => rfl
    · rfl
    dsimp only [List.nil_append, List.cons_append]
    apply RGW.on (i := 1) rfl
    · (simp only [List.getElem?_toArray, List.getElem?_cons_succ, List.getElem?_cons_zero] <;> rfl)
    · intro γ u W hcur hd
      obtain ⟨⟨h0, -, -⟩, -⟩ := hd
      dsimp only at h0
      (try simp only [h0])
      refine ⟨rfl, ?_⟩
      go_simp <;> (try go_bits) <;> with_reducible rfl
    · first
      | exact fun _ _ _ => rfl
    · rfl
    dsimp only [List.nil_append, List.cons_append]
    apply RGW.on (i := 2) rfl
    · (simp only [List.getElem?_toArray, List.getElem?_cons_succ, List.getElem?_cons_zero] <;> rfl)
    · intro γ u W hcur hd
      obtain ⟨⟨h1, -, -⟩, -⟩ := hd
      dsimp only at h1
      (try simp only [h1])
      refine ⟨rfl, ?_⟩
      go_simp <;> (try go_bits) <;> with_reducible rfl
    · first
      | exact fun _ _ _ => rfl
    · rfl
    dsimp only [List.nil_append, List.cons_append]
    apply RGW.on (i := 3) rfl
    · (simp only [List.getElem?_toArray, List.getElem?_cons_succ, List.getElem?_cons_zero] <;> rfl)
    · intro γ u W hcur hd
      obtain ⟨⟨h2, -, -⟩, -⟩ := hd
      dsimp only at h2
      (try simp only [h2])
      refine ⟨rfl, ?_⟩
      go_simp <;> (try go_bits) <;> with_reducible rfl
    · first
      | exact fun _ _ _ => rfl
    · rfl
    dsimp only [List.nil_append, List.cons_append]
    apply RGW.onL (i := 4) rfl
    · (simp only [List.getElem?_toArray, List.getElem?_cons_succ, List.getElem?_cons_zero] <;> rfl)
    · intro γ u Wm W hcur hd hX
      clear hd
      (try dsimp only)
      refine ⟨rfl, ?_⟩
      go_simp <;> (try go_bits) <;> with_reducible rfl
    · first
      | exact fun _ _ _ => rfl
    dsimp only [List.nil_append, List.cons_append]
    apply RGW.onL (i := 5) rfl
    · (simp only [List.getElem?_toArray, List.getElem?_cons_succ, List.getElem?_cons_zero] <;> rfl)
    · intro γ u Wm W hcur hd hX
      obtain ⟨⟨h4, -, -⟩, -⟩ := hd
      dsimp only at h4
      (try simp only [h4])
      have Mk0 := (Blk.below k0 hcur).laterN _ _ hX
      have Mk1 := (Blk.below k1 hcur).laterN _ _ hX
      have Mk2 := (Blk.below k2 hcur).laterN _ _ hX
      have Mk3 := (Blk.below k3 hcur).laterN _ _ hX
      have Mk4 := (Blk.below k4 hcur).laterN _ _ hX
      refine ⟨rfl, ?_⟩
      go_simp <;> (try go_bits) <;> with_reducible rfl
    · first
      | exact fun _ _ _ => rfl
    dsimp only [List.nil_append, List.cons_append]
    refine RGW.skip (i := 6) rfl rfl ?_
    dsimp only [List.nil_append, List.cons_append]
    refine RGW.skip (i := 7) rfl rfl ?_
    dsimp only [List.nil_append, List.cons_append]
    refine RGW.fin (fun γ u wb hwb hd hdis => ?_)
    obtain ⟨⟨h0, -, -⟩, ⟨h1, -, -⟩, ⟨h2, -, -⟩, ⟨h3, -, -⟩, ⟨h4, -, -⟩, ⟨h5, -, -⟩, -⟩ := hd
    dsimp only at h0 h1 h2 h3 h4 h5
    clear hdis
    simp only [h0, h1, h2, h3, h4, h5]
    clear h5 h4 h3 h2 h1 h0
    clear u
    simp only [List.map_cons, List.map_nil]
    apply PlanW.step
    · (simp only [List.getElem?_toArray, List.getElem?_cons_succ, List.getElem?_cons_zero] <;> rfl)
    · rfl
    intro K hK
    first
    | (refine wp_store_keep (X := [w.heap.size + 3, w.heap.size + 4]) (w0 := wb) rfl rfl rfl (by with_reducible first | exact bx_refl _ _ | assumption) (by with_reducible first | assumption | (apply Blk.below (hb := hwb); assumption)) (by simp) (by kernel_rfl) (by rfl) (by simp [Value.oneCell']) (fun hres1 hcur => ?_); refine hK.out _ _ hcur (fun _ => ?_))
    | (go_simp; refine hK.out _ _ (by (with_reducible (repeat' (first | assumption | apply bx_refl | (apply bx_set; case hp => (first | exact Or.inl (by simp; done) | exact Or.inr (by first | (simp; done) | (simp; omega) | (dsimp only; omega)))) | apply bx_drew | apply bx_al | apply bx_drewN | apply hb3x)))) (fun hcur => ?_))
    | (obtain ⟨u0, v0, z0⟩ := bx_cell0 hcur (Blk.below k0 hwb) (by simp); go_simp; refine hK.out _ _ (by (with_reducible (repeat' (first | assumption | apply bx_refl | (apply bx_set; case hp => (first | exact Or.inl (by simp; done) | exact Or.inr (by first | (simp; done) | (simp; omega) | (dsimp only; omega)))) | apply bx_drew | apply bx_al | apply bx_drewN | apply hb3x)))) (fun hcur => ?_))
    | (obtain ⟨u0, v0, z0⟩ := bx_cell0 hcur (Blk.below k1 hwb) (by simp); go_simp; refine hK.out _ _ (by (with_reducible (repeat' (first | assumption | apply bx_refl | (apply bx_set; case hp => (first | exact Or.inl (by simp; done) | exact Or.inr (by first | (simp; done) | (simp; omega) | (dsimp only; omega)))) | apply bx_drew | apply bx_al | apply bx_drewN | apply hb3x)))) (fun hcur => ?_))
    | (obtain ⟨u0, v0, z0⟩ := bx_cell0 hcur (Blk.below k2 hwb) (by simp); go_simp; refine hK.out _ _ (by (with_reducible (repeat' (first | assumption | apply bx_refl | (apply bx_set; case hp => (first | exact Or.inl (by simp; done) | exact Or.inr (by first | (simp; done) | (simp; omega) | (dsimp only; omega)))) | apply bx_drew | apply bx_al | apply bx_drewN | apply hb3x)))) (fun hcur => ?_))
    | (obtain ⟨u0, v0, z0⟩ := bx_cell0 hcur (Blk.below k3 hwb) (by simp); go_simp; refine hK.out _ _ (by (with_reducible (repeat' (first | assumption | apply bx_refl | (apply bx_set; case hp => (first | exact Or.inl (by simp; done) | exact Or.inr (by first | (simp; done) | (simp; omega) | (dsimp only; omega)))) | apply bx_drew | apply bx_al | apply bx_drewN | apply hb3x)))) (fun hcur => ?_))
    | (obtain ⟨u0, v0, z0⟩ := bx_cell0 hcur (Blk.below k4 hwb) (by simp); go_simp; refine hK.out _ _ (by (with_reducible (repeat' (first | assumption | apply bx_refl | (apply bx_set; case hp => (first | exact Or.inl (by simp; done) | exact Or.inr (by first | (simp; done) | (simp; omega) | (dsimp only; omega)))) | apply bx_drew | apply bx_al | apply bx_drewN | apply hb3x)))) (fun hcur => ?_))
    clear hK K
    try simp only [Act.put, List.setIfInBounds_toArray, List.set_cons_zero, List.set_cons_succ]
    apply PlanW.step
    · (simp only [List.getElem?_toArray, List.getElem?_cons_succ, List.getElem?_cons_zero] <;> rfl)
    · rfl
    intro K hK
    first
    | (refine wp_store_keep (X := [w.heap.size + 3, w.heap.size + 4]) (w0 := wb) rfl rfl rfl (by with_reducible first | exact bx_refl _ _ | assumption) (by with_reducible first | assumption | (apply Blk.below (hb := hwb); assumption)) (by simp) (by kernel_rfl) (by rfl) (by simp [Value.oneCell']) (fun hres2 hcur => ?_); refine hK.out _ _ hcur (fun _ => ?_))
    | (go_simp; refine hK.out _ _ (by (with_reducible (repeat' (first | assumption | apply bx_refl | (apply bx_set; case hp => (first | exact Or.inl (by simp; done) | exact Or.inr (by first | (simp; done) | (simp; omega) | (dsimp only; omega)))) | apply bx_drew | apply bx_al | apply bx_drewN | apply hb3x)))) (fun hcur => ?_))
    | (obtain ⟨u0, v0, z0⟩ := bx_cell0 hcur (Blk.below k0 hwb) (by simp); go_simp; refine hK.out _ _ (by (with_reducible (repeat' (first | assumption | apply bx_refl | (apply bx_set; case hp => (first | exact Or.inl (by simp; done) | exact Or.inr (by first | (simp; done) | (simp; omega) | (dsimp only; omega)))) | apply bx_drew | apply bx_al | apply bx_drewN | apply hb3x)))) (fun hcur => ?_))
    | (obtain ⟨u0, v0, z0⟩ := bx_cell0 hcur (Blk.below k1 hwb) (by simp); go_simp; refine hK.out _ _ (by (with_reducible (repeat' (first | assumption | apply bx_refl | (apply bx_set; case hp => (first | exact Or.inl (by simp; done) | exact Or.inr (by first | (simp; done) | (simp; omega) | (dsimp only; omega)))) | apply bx_drew | apply bx_al | apply bx_drewN | apply hb3x)))) (fun hcur => ?_))
    | (obtain ⟨u0, v0, z0⟩ := bx_cell0 hcur (Blk.below k2 hwb) (by simp); go_simp; refine hK.out _ _ (by (with_reducible (repeat' (first | assumption | apply bx_refl | (apply bx_set; case hp => (first | exact Or.inl (by simp; done) | exact Or.inr (by first | (simp; done) | (simp; omega) | (dsimp only; omega)))) | apply bx_drew | apply bx_al | apply bx_drewN | apply hb3x)))) (fun hcur => ?_))
    | (obtain ⟨u0, v0, z0⟩ := bx_cell0 hcur (Blk.below k3 hwb) (by simp); go_simp; refine hK.out _ _ (by (with_reducible (repeat' (first | assumption | apply bx_refl | (apply bx_set; case hp => (first | exact Or.inl (by simp; done) | exact Or.inr (by first | (simp; done) | (simp; omega) | (dsimp only; omega)))) | apply bx_drew | apply bx_al | apply bx_drewN | apply hb3x)))) (fun hcur => ?_))
    | (obtain ⟨u0, v0, z0⟩ := bx_cell0 hcur (Blk.below k4 hwb) (by simp); go_simp; refine hK.out _ _ (by (with_reducible (repeat' (first | assumption | apply bx_refl | (apply bx_set; case hp => (first | exact Or.inl (by simp; done) | exact Or.inr (by first | (simp; done) | (simp; omega) | (dsimp only; omega)))) | apply bx_drew | apply bx_al | apply bx_drewN | apply hb3x)))) (fun hcur => ?_))
    clear hK K
    try simp only [Act.put, List.setIfInBounds_toArray, List.set_cons_zero, List.set_cons_succ]
    refine PlanW.done ?_
    have hb3 := bl_tt hwb
    go_wp2
    first
    | apply absPB5 (w0 := w) (g0 := w.heap.size) (g1 := w.heap.size + 1) (g2 := w.heap.size + 2) (g3 := w.heap.size + 3) (g4 := w.heap.size + 4)
    | apply absPMB5 (w0 := w) (g0 := w.heap.size) (g1 := w.heap.size + 1) (g2 := w.heap.size + 2) (g3 := w.heap.size + 3) (g4 := w.heap.size + 4)
    iterate 6 (focus ((with_reducible (repeat' (first | assumption | apply bl_refl | apply bl_al | apply bl_drew | apply bl_drewN | (apply bl_set; case hp => (first | (simp; done) | (simp; omega) | (dsimp only; omega))) | (apply bl_row; case hg => (first | (simp; done) | (simp; omega) | omega)) | apply hb3 | apply bx_refl | (apply bx_set; case hp => (first | exact Or.inl (by simp; done) | exact Or.inr (by first | (simp; done) | (simp; omega) | (dsimp only; omega)))) | apply bx_drew | apply bx_al | apply bx_drewN | apply hb3x | (apply Blk.newAt; first | (simp; done) | rfl) | apply Blk.alloc | apply Blk.drew | apply Blk.drewN | apply Blk.set | (apply Blk.other; case hne => first | assumption | (simp; done) | (simp; omega) | omega) | apply Blk.row | (apply Blk.rowOther; case hne => first | assumption | (simp; done) | (simp; omega) | omega) | apply Blk.below (hb := hb3 _ (bl_refl _))))); done))
    intro wf hb0' k0' k1' k2' k3' k4'
    (try simp only [List.setIfInBounds_toArray, List.set_cons_zero, List.set_cons_succ] at k0' k1' k2' k3' k4')
    try clear hb3
    try clear Lk0
    try clear Fk0
    try clear Qk0
    try clear Lk1
    try clear Fk1
    try clear Qk1
    try clear Lk2
    try clear Fk2
    try clear Qk2
    try clear Lk3
    try clear Fk3
    try clear Qk3
    try clear Lk4
    try clear Fk4
    try clear Qk4
    try clear hb0
    try clear k0
    try clear k1
    try clear k2
    try clear k3
    try clear k4
    have hb0 := hb0'; clear hb0'
    have k0 := k0'; clear k0'
    have k1 := k1'; clear k1'
    have k2 := k2'; clear k2'
    have k3 := k3'; clear k3'
    have k4 := k4'; clear k4'
    have hr1 := k3.cell
    have hr2 := k4.cell
    refine bodyPost_ret (v := .tuple #[vRg (a.side r.idx), vRg r.v]) (by simp [results, Try.results97, go_sem, hr1, hr2, hi, Bx.side]) rfl ⟨by first | rfl | simp only [hi], hb0⟩
set_option maxHeartbeats 4000000 in
theorem c_meas0 (wd a : Bx) (bs : List Bc) (A : Option Addr) (c : Nat) (r : Rd) (w : World) (h1 : r.kind ≠ 1) (hs : Sl cBc 4 w A bs) (hlb : bs.length ≤ 1000) (ha : a.in 10000) (hv : r.v.in 30000)
    (k : Nat) (x : Bc) (hk : r.idx = (k : Int)) (hx : bs[k]? = some x) (hp : x.pl.in 10000) :
    Calls Try.prog 97 #[vON wd (.slice A bs.length c), vBx a, vRd r] w (Ret (.tuple #[vRg (squaresS a x.pl), .agg #[.int .i64 (r.v.lo * r.v.lo), .int .i64 (r.v.hi * r.v.hi)]]) w) := by
  have h1' : (r.kind == 1) = false := by simp [h1]
  replace h1 := Lib.hid h1
  obtain ⟨v1, v2, v3, v4⟩ := hv
  obtain ⟨s1, s2⟩ := sq_bd3 v1 v2
  obtain ⟨s3, s4⟩ := sq_bd3 v3 v4
  have hkl : k < bs.length := (List.getElem?_eq_some_iff.1 hx).1
  obtain ⟨b, off, rfl, hc⟩ := hs k x hx
  have c1 := later (hc 1 _ rfl)
  have c2 := later (hc 2 _ rfl)
  have c3 := later (hc 3 _ rfl)
  clear hc hs hx
  have hsq := Lib.hid fun W : World => c_squares a x.pl W ha hp
  clear ha hp
  generalize bs.length = nl at *
  go_enter Try.func97, Try.ntmps97
  go_upto_region 3 with fail
  first
  | apply absB5 (w0 := w) (g0 := w.heap.size) (g1 := w.heap.size + 1) (g2 := w.heap.size + 2) (g3 := w.heap.size + 3) (g4 := w.heap.size + 4)
  | apply absTB5 (w0 := w) (g0 := w.heap.size) (g1 := w.heap.size + 1) (g2 := w.heap.size + 2) (g3 := w.heap.size + 3) (g4 := w.heap.size + 4)
  | apply absIB5 (w0 := w) (g0 := w.heap.size) (g1 := w.heap.size + 1) (g2 := w.heap.size + 2) (g3 := w.heap.size + 3) (g4 := w.heap.size + 4)
  iterate 6 (focus ((with_reducible (repeat' (first | assumption | apply bl_refl | apply bl_al | apply bl_drew | apply bl_drewN | (apply bl_set; case hp => (first | (simp; done) | (simp; omega) | (dsimp only; omega))) | (apply bl_row; case hg => (first | (simp; done) | (simp; omega) | omega)) | apply hb3 | apply bx_refl | (apply bx_set; case hp => (first | exact Or.inl (by simp; done) | exact Or.inr (by first | (simp; done) | (simp; omega) | (dsimp only; omega)))) | apply bx_drew | apply bx_al | apply bx_drewN | apply hb3x | (apply Blk.newAt; first | (simp; done) | rfl) | apply Blk.alloc | apply Blk.drew | apply Blk.drewN | apply Blk.set | (apply Blk.other; case hne => first | assumption | (simp; done) | (simp; omega) | omega) | apply Blk.row | (apply Blk.rowOther; case hne => first | assumption | (simp; done) | (simp; omega) | omega) | apply Blk.below (hb := hb3 _ (bl_refl _))))); done))
  intro wz hb0' k0' k1' k2' k3' k4'
  (try simp only [List.setIfInBounds_toArray, List.set_cons_zero, List.set_cons_succ] at k0' k1' k2' k3' k4')
  try clear hb3
  try clear hb0
  try clear k0
  try clear k1
  try clear k2
  try clear k3
  try clear k4
  have hb0 := hb0'; clear hb0'
  have k0 := k0'; clear k0'
  have k1 := k1'; clear k1'
  have k2 := k2'; clear k2'
  have k3 := k3'; clear k3'
  have k4 := k4'; clear k4'
  have Lk0 := k0.later
  have Fk0 := k0.laterF
  have Qk0 := k0.lt
  have Lk1 := k1.later
  have Fk1 := k1.laterF
  have Qk1 := k1.lt
  have Lk2 := k2.later
  have Fk2 := k2.laterF
  have Qk2 := k2.lt
  have Lk3 := k3.later
  have Fk3 := k3.laterF
  have Qk3 := k3.lt
  have Lk4 := k4.later
  have Fk4 := k4.laterF
  have Qk4 := k4.lt
  have e3 : wz.heap.size ≠ w.heap.size + 3 := by have := k4.lt; omega
  have e4 : wz.heap.size ≠ w.heap.size + 4 := by have := k4.lt; omega
  go_upto_region 4 with fail
  first
  | apply absB6 (w0 := w) (g0 := w.heap.size) (g1 := w.heap.size + 1) (g2 := w.heap.size + 2) (g3 := w.heap.size + 3) (g4 := w.heap.size + 4) (g5 := wz.heap.size)
  | apply absTB6 (w0 := w) (g0 := w.heap.size) (g1 := w.heap.size + 1) (g2 := w.heap.size + 2) (g3 := w.heap.size + 3) (g4 := w.heap.size + 4) (g5 := wz.heap.size)
  | apply absIB6 (w0 := w) (g0 := w.heap.size) (g1 := w.heap.size + 1) (g2 := w.heap.size + 2) (g3 := w.heap.size + 3) (g4 := w.heap.size + 4) (g5 := wz.heap.size)
  iterate 7 (focus ((with_reducible (repeat' (first | assumption | apply bl_refl | apply bl_al | apply bl_drew | apply bl_drewN | (apply bl_set; case hp => (first | (simp; done) | (simp; omega) | (dsimp only; omega))) | (apply bl_row; case hg => (first | (simp; done) | (simp; omega) | omega)) | apply hb3 | apply bx_refl | (apply bx_set; case hp => (first | exact Or.inl (by simp; done) | exact Or.inr (by first | (simp; done) | (simp; omega) | (dsimp only; omega)))) | apply bx_drew | apply bx_al | apply bx_drewN | apply hb3x | (apply Blk.newAt; first | (simp; done) | rfl) | apply Blk.alloc | apply Blk.drew | apply Blk.drewN | apply Blk.set | (apply Blk.other; case hne => first | assumption | (simp; done) | (simp; omega) | omega) | apply Blk.row | (apply Blk.rowOther; case hne => first | assumption | (simp; done) | (simp; omega) | omega) | apply Blk.below (hb := hb3 _ (bl_refl _))))); done))
  intro wa hb0' k0' k1' k2' k3' k4' k5'
  (try simp only [List.setIfInBounds_toArray, List.set_cons_zero, List.set_cons_succ] at k0' k1' k2' k3' k4' k5')
  try clear hb3
  try clear Lk0
  try clear Fk0
  try clear Qk0
  try clear Lk1
  try clear Fk1
  try clear Qk1
  try clear Lk2
  try clear Fk2
  try clear Qk2
  try clear Lk3
  try clear Fk3
  try clear Qk3
  try clear Lk4
  try clear Fk4
  try clear Qk4
  try clear hb0
  try clear k0
  try clear k1
  try clear k2
  try clear k3
  try clear k4
  try clear k5
  have hb0 := hb0'; clear hb0'
  have k0 := k0'; clear k0'
  have k1 := k1'; clear k1'
  have k2 := k2'; clear k2'
  have k3 := k3'; clear k3'
  have k4 := k4'; clear k4'
  have k5 := k5'; clear k5'
  have Lk0 := k0.later
  have Fk0 := k0.laterF
  have Qk0 := k0.lt
  have Lk1 := k1.later
  have Fk1 := k1.laterF
  have Qk1 := k1.lt
  have Lk2 := k2.later
  have Fk2 := k2.laterF
  have Qk2 := k2.lt
  have Lk3 := k3.later
  have Fk3 := k3.laterF
  have Qk3 := k3.lt
  have Lk4 := k4.later
  have Fk4 := k4.laterF
  have Qk4 := k4.lt
  have Lk5 := k5.later
  have Fk5 := k5.laterF
  have Qk5 := k5.lt
  have C1 := fun W (h : Below wa.heap.size wa W) => c1 W (bl_tr hb0 h)
  have C2 := fun W (h : Below wa.heap.size wa W) => c2 W (bl_tr hb0 h)
  have C3 := fun W (h : Below wa.heap.size wa W) => c3 W (bl_tr hb0 h)
  clear c1 c2 c3
  refine wp_any (w0 := wa) ⟨[22, 23], [11, 12, 13, 14, 15, 16, 17, 18, 19, 20, 21], [some 20, some 21, some 22, some 23, some 24, some 25, some 26, some 27, some 28, some 29, some 30, some 31, some 32, some 33, some 34, some 35, some 36, some 37, some 38, some 39, some 40, some 41, none, none], [[], [], [1], [1, 2], [], [4], [1, 2, 3, 4, 5], [1, 2, 3, 4, 5, 6], [1, 2, 3, 4, 5, 6, 7], [1, 2, 3, 4, 5, 6, 7, 8], [0, 1, 2, 3, 4, 5, 6, 7, 8, 9], [], [11], [], [13], [11, 12, 13, 14], [], [16], [], [18], [16, 17, 18, 19], [11, 12, 13, 14, 15, 16, 17, 18, 19, 20], [0, 1, 2, 3, 4, 5, 6, 7, 8, 9, 10], [0, 1, 2, 3, 4, 5, 6, 7, 8, 9, 10, 11, 12, 13, 14, 15, 16, 17, 18, 19, 20, 21, 22]], [[], [], [1], [2], [], [4], [3, 5], [6], [7], [8], [0, 9], [], [11], [], [13], [12, 14], [], [16], [], [18], [17, 19], [15, 20], [], []]⟩ (fun _ => [w.heap.size + 3, w.heap.size + 4]) (by kernel_rfl) (by kernel_rfl) (by (with_reducible (repeat' (first | assumption | apply bl_refl | apply bl_al | apply bl_drew | apply bl_drewN | (apply bl_set; case hp => (first | (simp; done) | (simp; omega) | (dsimp only; omega))) | (apply bl_row; case hg => (first | (simp; done) | (simp; omega) | omega)) | apply hb3)))) (fun u => by simp only [putD, Act.put, List.setIfInBounds_toArray, List.set_cons_zero, List.set_cons_succ, Nat.zero_add, Nat.reduceAdd]; rfl) ?_
  apply RGW.on (i := 0) rfl
  · (simp only [List.getElem?_toArray, List.getElem?_cons_succ, List.getElem?_cons_zero] <;> rfl)
  · intro γ u W hcur hd
    clear hd
    (try dsimp only)
    refine ⟨rfl, ?_⟩
    go_simp <;> (try go_bits) <;> with_reducible rfl
  · first
    | exact fun _ _ _ => rfl
  · rfl
  dsimp only [List.nil_append, List.cons_append]
  apply RGW.on (i := 1) rfl
  · (simp only [List.getElem?_toArray, List.getElem?_cons_succ, List.getElem?_cons_zero] <;> rfl)
  · intro γ u W hcur hd
    clear hd
    (try dsimp only)
    refine ⟨rfl, ?_⟩
    go_simp <;> (try go_bits) <;> with_reducible rfl
  · first
    | exact fun _ _ _ => rfl
  · rfl
  dsimp only [List.nil_append, List.cons_append]
  apply RGW.on (i := 2) rfl
  · (simp only [List.getElem?_toArray, List.getElem?_cons_succ, List.getElem?_cons_zero] <;> rfl)
  · intro γ u W hcur hd
    obtain ⟨⟨h1, -, -⟩, -⟩ := hd
    dsimp only at h1
    (try simp only [h1])
    refine ⟨rfl, ?_⟩
    go_simp <;> (try go_bits) <;> with_reducible rfl
  · first
    | exact fun _ _ _ => rfl
  · rfl
  dsimp only [List.nil_append, List.cons_append]
  apply RGW.on (i := 3) rfl
  · (simp only [List.getElem?_toArray, List.getElem?_cons_succ, List.getElem?_cons_zero] <;> rfl)
  · intro γ u W hcur hd
    obtain ⟨⟨h2, -, -⟩, -⟩ := hd
    dsimp only at h2
    (try simp only [h2])
    refine ⟨rfl, ?_⟩
    go_simp <;> (try go_bits) <;> with_reducible rfl
  · first
    | exact fun _ _ _ => rfl
  · rfl
  dsimp only [List.nil_append, List.cons_append]
  apply RGW.on (i := 4) rfl
  · (simp only [List.getElem?_toArray, List.getElem?_cons_succ, List.getElem?_cons_zero] <;> rfl)
  · intro γ u W hcur hd
    clear hd
    (try dsimp only)
    refine ⟨rfl, ?_⟩
    go_simp <;> (try go_bits) <;> with_reducible rfl
  · first
    | exact fun _ _ _ => rfl
  · rfl
  dsimp only [List.nil_append, List.cons_append]
  apply RGW.on (i := 5) rfl
  · (simp only [List.getElem?_toArray, List.getElem?_cons_succ, List.getElem?_cons_zero] <;> rfl)
  · intro γ u W hcur hd
    obtain ⟨⟨h4, -, -⟩, -⟩ := hd
    dsimp only at h4
    (try simp only [h4])
    refine ⟨rfl, ?_⟩
    go_simp <;> (try go_bits) <;> with_reducible rfl
  · first
    | exact fun _ _ _ => rfl
  · rfl
  dsimp only [List.nil_append, List.cons_append]
  apply RGW.on (i := 6) rfl
  · (simp only [List.getElem?_toArray, List.getElem?_cons_succ, List.getElem?_cons_zero] <;> rfl)
  · intro γ u W hcur hd
    obtain ⟨⟨h3, -, -⟩, ⟨h5, -, -⟩, -⟩ := hd
    dsimp only at h3 h5
    (try simp only [h3, h5])
    refine ⟨rfl, ?_⟩
    go_simp <;> (try go_bits) <;> with_reducible rfl
  · first
    | exact fun _ _ _ => rfl
  · rfl
  dsimp only [List.nil_append, List.cons_append]
  apply RGW.on (i := 7) rfl
  · (simp only [List.getElem?_toArray, List.getElem?_cons_succ, List.getElem?_cons_zero] <;> rfl)
  · intro γ u W hcur hd
    obtain ⟨⟨h6, -, -⟩, -⟩ := hd
    dsimp only at h6
    (try simp only [h6])
    refine ⟨rfl, ?_⟩
    go_simp <;> (try go_bits) <;> with_reducible rfl
  · first
    | exact fun _ _ _ => rfl
  · rfl
  dsimp only [List.nil_append, List.cons_append]
  apply RGW.on (i := 8) rfl
  · (simp only [List.getElem?_toArray, List.getElem?_cons_succ, List.getElem?_cons_zero] <;> rfl)
  · intro γ u W hcur hd
    obtain ⟨⟨h7, -, -⟩, -⟩ := hd
    dsimp only at h7
    (try simp only [h7])
    refine ⟨rfl, ?_⟩
    go_simp <;> (try go_bits) <;> with_reducible rfl
  · first
    | exact fun _ _ _ => rfl
  · rfl
  dsimp only [List.nil_append, List.cons_append]
  apply RGW.call (i := 9) rfl
  · (simp only [List.getElem?_toArray, List.getElem?_cons_succ, List.getElem?_cons_zero] <;> rfl)
  · intro γ u W hcur hd
    obtain ⟨⟨h8, -, -⟩, -⟩ := hd
    dsimp only at h8
    (try simp only [h8])
    refine ⟨rfl, fun K hK => ?_⟩
    go_simp
    (first | (go_at_call 68; (with_reducible refine (c_at x.pl _).mono ?_); rintro e w3 ⟨rfl, hb3⟩; replace hb3 := bl_tt hb3) | (go_at_call 104; (with_reducible refine (hsq.out _).mono ?_); rintro e w3 ⟨rfl, hb3⟩; replace hb3 := bl_tt hb3))
    (try dsimp only)
    exact hK.out _ _ rfl (by (with_reducible (repeat' (first | assumption | apply bl_refl | apply bl_al | apply bl_drew | apply bl_drewN | (apply bl_set; case hp => (first | (simp; done) | (simp; omega) | (dsimp only; omega))) | (apply bl_row; case hg => (first | (simp; done) | (simp; omega) | omega)) | apply hb3))))
  · first
    | exact fun _ _ _ => rfl
  · rfl
  dsimp only [List.nil_append, List.cons_append]
  apply RGW.call (i := 10) rfl
  · (simp only [List.getElem?_toArray, List.getElem?_cons_succ, List.getElem?_cons_zero] <;> rfl)
  · intro γ u W hcur hd
    obtain ⟨⟨h0, -, -⟩, ⟨h9, -, -⟩, -⟩ := hd
    dsimp only at h0 h9
    (try simp only [h0, h9])
    refine ⟨rfl, fun K hK => ?_⟩
    go_simp
    (first | (go_at_call 68; (with_reducible refine (c_at x.pl _).mono ?_); rintro e w3 ⟨rfl, hb3⟩; replace hb3 := bl_tt hb3) | (go_at_call 104; (with_reducible refine (hsq.out _).mono ?_); rintro e w3 ⟨rfl, hb3⟩; replace hb3 := bl_tt hb3))
    (try dsimp only)
    exact hK.out _ _ rfl (by (with_reducible (repeat' (first | assumption | apply bl_refl | apply bl_al | apply bl_drew | apply bl_drewN | (apply bl_set; case hp => (first | (simp; done) | (simp; omega) | (dsimp only; omega))) | (apply bl_row; case hg => (first | (simp; done) | (simp; omega) | omega)) | apply hb3))))
  · first
    | exact fun _ _ _ => rfl
  · rfl
  dsimp only [List.nil_append, List.cons_append]
  apply RGW.onL (i := 11) rfl
  · (simp only [List.getElem?_toArray, List.getElem?_cons_succ, List.getElem?_cons_zero] <;> rfl)
  · intro γ u Wm W hcur hd hX
    clear hd
    (try dsimp only)
    refine ⟨rfl, ?_⟩
    go_simp <;> (try go_bits) <;> with_reducible rfl
  · first
    | exact fun _ _ _ => rfl
  dsimp only [List.nil_append, List.cons_append]
  apply RGW.onL (i := 12) rfl
  · (simp only [List.getElem?_toArray, List.getElem?_cons_succ, List.getElem?_cons_zero] <;> rfl)
  · intro γ u Wm W hcur hd hX
    obtain ⟨⟨h11, -, -⟩, -⟩ := hd
    dsimp only at h11
    (try simp only [h11])
    have Mk0 := (Blk.below k0 hcur).laterN _ _ hX
    have Mk1 := (Blk.below k1 hcur).laterN _ _ hX
    have Mk2 := (Blk.below k2 hcur).laterN _ _ hX
    have Mk3 := (Blk.below k3 hcur).laterN _ _ hX
    have Mk4 := (Blk.below k4 hcur).laterN _ _ hX
    have Mk5 := (Blk.below k5 hcur).laterN _ _ hX
    refine ⟨rfl, ?_⟩
    go_simp <;> (try go_bits) <;> with_reducible rfl
  · first
    | exact fun _ _ _ => rfl
  dsimp only [List.nil_append, List.cons_append]
  apply RGW.onL (i := 13) rfl
  · (simp only [List.getElem?_toArray, List.getElem?_cons_succ, List.getElem?_cons_zero] <;> rfl)
  · intro γ u Wm W hcur hd hX
    clear hd
    (try dsimp only)
    refine ⟨rfl, ?_⟩
    go_simp <;> (try go_bits) <;> with_reducible rfl
  · first
    | exact fun _ _ _ => rfl
  dsimp only [List.nil_append, List.cons_append]
  apply RGW.onL (i := 14) rfl
  · (simp only [List.getElem?_toArray, List.getElem?_cons_succ, List.getElem?_cons_zero] <;> rfl)
  · intro γ u Wm W hcur hd hX
    obtain ⟨⟨h13, -, -⟩, -⟩ := hd
    dsimp only at h13
    (try simp only [h13])
    have Mk0 := (Blk.below k0 hcur).laterN _ _ hX
    have Mk1 := (Blk.below k1 hcur).laterN _ _ hX
    have Mk2 := (Blk.below k2 hcur).laterN _ _ hX
    have Mk3 := (Blk.below k3 hcur).laterN _ _ hX
    have Mk4 := (Blk.below k4 hcur).laterN _ _ hX
    have Mk5 := (Blk.below k5 hcur).laterN _ _ hX
    refine ⟨rfl, ?_⟩
    go_simp <;> (try go_bits) <;> with_reducible rfl
  · first
    | exact fun _ _ _ => rfl
  dsimp only [List.nil_append, List.cons_append]
  apply RGW.onL (i := 15) rfl
  · (simp only [List.getElem?_toArray, List.getElem?_cons_succ, List.getElem?_cons_zero] <;> rfl)
  · intro γ u Wm W hcur hd hX
    obtain ⟨⟨h12, -, -⟩, ⟨h14, -, -⟩, -⟩ := hd
    dsimp only at h12 h14
    (try simp only [h12, h14])
    refine ⟨rfl, ?_⟩
    go_simp <;> (try go_bits) <;> with_reducible rfl
  · first
    | exact fun _ _ _ => rfl
  dsimp only [List.nil_append, List.cons_append]
  apply RGW.onL (i := 16) rfl
  · (simp only [List.getElem?_toArray, List.getElem?_cons_succ, List.getElem?_cons_zero] <;> rfl)
  · intro γ u Wm W hcur hd hX
    clear hd
    (try dsimp only)
    refine ⟨rfl, ?_⟩
    go_simp <;> (try go_bits) <;> with_reducible rfl
  · first
    | exact fun _ _ _ => rfl
  dsimp only [List.nil_append, List.cons_append]
  apply RGW.onL (i := 17) rfl
  · (simp only [List.getElem?_toArray, List.getElem?_cons_succ, List.getElem?_cons_zero] <;> rfl)
  · intro γ u Wm W hcur hd hX
    obtain ⟨⟨h16, -, -⟩, -⟩ := hd
    dsimp only at h16
    (try simp only [h16])
    have Mk0 := (Blk.below k0 hcur).laterN _ _ hX
    have Mk1 := (Blk.below k1 hcur).laterN _ _ hX
    have Mk2 := (Blk.below k2 hcur).laterN _ _ hX
    have Mk3 := (Blk.below k3 hcur).laterN _ _ hX
    have Mk4 := (Blk.below k4 hcur).laterN _ _ hX
    have Mk5 := (Blk.below k5 hcur).laterN _ _ hX
    refine ⟨rfl, ?_⟩
    go_simp <;> (try go_bits) <;> with_reducible rfl
  · first
    | exact fun _ _ _ => rfl
  dsimp only [List.nil_append, List.cons_append]
  apply RGW.onL (i := 18) rfl
  · (simp only [List.getElem?_toArray, List.getElem?_cons_succ, List.getElem?_cons_zero] <;> rfl)
  · intro γ u Wm W hcur hd hX
    clear hd
    (try dsimp only)
    refine ⟨rfl, ?_⟩
    go_simp <;> (try go_bits) <;> with_reducible rfl
  · first
    | exact fun _ _ _ => rfl
  dsimp only [List.nil_append, List.cons_append]
  apply RGW.onL (i := 19) rfl
  · (simp only [List.getElem?_toArray, List.getElem?_cons_succ, List.getElem?_cons_zero] <;> rfl)
  · intro γ u Wm W hcur hd hX
    obtain ⟨⟨h18, -, -⟩, -⟩ := hd
    dsimp only at h18
    (try simp only [h18])
    have Mk0 := (Blk.below k0 hcur).laterN _ _ hX
    have Mk1 := (Blk.below k1 hcur).laterN _ _ hX
    have Mk2 := (Blk.below k2 hcur).laterN _ _ hX
    have Mk3 := (Blk.below k3 hcur).laterN _ _ hX
    have Mk4 := (Blk.below k4 hcur).laterN _ _ hX
    have Mk5 := (Blk.below k5 hcur).laterN _ _ hX
    refine ⟨rfl, ?_⟩
    go_simp <;> (try go_bits) <;> with_reducible rfl
  · first
    | exact fun _ _ _ => rfl
  dsimp only [List.nil_append, List.cons_append]
  apply RGW.onL (i := 20) rfl
  · (simp only [List.getElem?_toArray, List.getElem?_cons_succ, List.getElem?_cons_zero] <;> rfl)
  · intro γ u Wm W hcur hd hX
    obtain ⟨⟨h17, -, -⟩, ⟨h19, -, -⟩, -⟩ := hd
    dsimp only at h17 h19
    (try simp only [h17, h19])
    refine ⟨rfl, ?_⟩
    go_simp <;> (try go_bits) <;> with_reducible rfl
  · first
    | exact fun _ _ _ => rfl
  dsimp only [List.nil_append, List.cons_append]
  apply RGW.onL (i := 21) rfl
  · (simp only [List.getElem?_toArray, List.getElem?_cons_succ, List.getElem?_cons_zero] <;> rfl)
  · intro γ u Wm W hcur hd hX
    obtain ⟨⟨h15, -, -⟩, ⟨h20, -, -⟩, -⟩ := hd
    dsimp only at h15 h20
    (try simp only [h15, h20])
    refine ⟨rfl, ?_⟩
    go_simp <;> (try go_bits) <;> with_reducible rfl
  · first
    | exact fun _ _ _ => rfl
  dsimp only [List.nil_append, List.cons_append]
  refine RGW.skip (i := 22) rfl rfl ?_
  dsimp only [List.nil_append, List.cons_append]
  refine RGW.skip (i := 23) rfl rfl ?_
  dsimp only [List.nil_append, List.cons_append]
  refine RGW.fin (fun γ u wb hwb hd hdis => ?_)
  obtain ⟨⟨h0, -, -⟩, ⟨h1, -, -⟩, ⟨h2, -, -⟩, ⟨h3, -, -⟩, ⟨h4, -, -⟩, ⟨h5, -, -⟩, ⟨h6, -, -⟩, ⟨h7, -, -⟩, ⟨h8, -, -⟩, ⟨h9, -, -⟩, ⟨h10, -, -⟩, ⟨h11, -, -⟩, ⟨h12, -, -⟩, ⟨h13, -, -⟩, ⟨h14, -, -⟩, ⟨h15, -, -⟩, ⟨h16, -, -⟩, ⟨h17, -, -⟩, ⟨h18, -, -⟩, ⟨h19, -, -⟩, ⟨h20, -, -⟩, ⟨h21, -, -⟩, -⟩ := hd
  dsimp only at h0 h1 h2 h3 h4 h5 h6 h7 h8 h9 h10 h11 h12 h13 h14 h15 h16 h17 h18 h19 h20 h21
  clear hdis
  simp only [h0, h1, h2, h3, h4, h5, h6, h7, h8, h9, h10, h11, h12, h13, h14, h15, h16, h17, h18, h19, h20, h21]
  clear h21 h20 h19 h18 h17 h16 h15 h14 h13 h12 h11 h10 h9 h8 h7 h6 h5 h4 h3 h2 h1 h0
  clear u
  simp only [List.map_cons, List.map_nil]
  apply PlanW.step
  · (simp only [List.getElem?_toArray, List.getElem?_cons_succ, List.getElem?_cons_zero] <;> rfl)
  · rfl
  intro K hK
  first
  | (refine wp_store_keep (X := [w.heap.size + 3, w.heap.size + 4]) (w0 := wb) rfl rfl rfl (by with_reducible first | exact bx_refl _ _ | assumption) (by with_reducible first | assumption | (apply Blk.below (hb := hwb); assumption)) (by simp) (by kernel_rfl) (by rfl) (by simp [Value.oneCell']) (fun hres1 hcur => ?_); refine hK.out _ _ hcur (fun _ => ?_))
  | (go_simp; refine hK.out _ _ (by (with_reducible (repeat' (first | assumption | apply bx_refl | (apply bx_set; case hp => (first | exact Or.inl (by simp; done) | exact Or.inr (by first | (simp; done) | (simp; omega) | (dsimp only; omega)))) | apply bx_drew | apply bx_al | apply bx_drewN | apply hb3x)))) (fun hcur => ?_))
  | (obtain ⟨u0, v0, z0⟩ := bx_cell0 hcur (Blk.below k0 hwb) (by simp); go_simp; refine hK.out _ _ (by (with_reducible (repeat' (first | assumption | apply bx_refl | (apply bx_set; case hp => (first | exact Or.inl (by simp; done) | exact Or.inr (by first | (simp; done) | (simp; omega) | (dsimp only; omega)))) | apply bx_drew | apply bx_al | apply bx_drewN | apply hb3x)))) (fun hcur => ?_))
  | (obtain ⟨u0, v0, z0⟩ := bx_cell0 hcur (Blk.below k1 hwb) (by simp); go_simp; refine hK.out _ _ (by (with_reducible (repeat' (first | assumption | apply bx_refl | (apply bx_set; case hp => (first | exact Or.inl (by simp; done) | exact Or.inr (by first | (simp; done) | (simp; omega) | (dsimp only; omega)))) | apply bx_drew | apply bx_al | apply bx_drewN | apply hb3x)))) (fun hcur => ?_))
  | (obtain ⟨u0, v0, z0⟩ := bx_cell0 hcur (Blk.below k2 hwb) (by simp); go_simp; refine hK.out _ _ (by (with_reducible (repeat' (first | assumption | apply bx_refl | (apply bx_set; case hp => (first | exact Or.inl (by simp; done) | exact Or.inr (by first | (simp; done) | (simp; omega) | (dsimp only; omega)))) | apply bx_drew | apply bx_al | apply bx_drewN | apply hb3x)))) (fun hcur => ?_))
  | (obtain ⟨u0, v0, z0⟩ := bx_cell0 hcur (Blk.below k3 hwb) (by simp); go_simp; refine hK.out _ _ (by (with_reducible (repeat' (first | assumption | apply bx_refl | (apply bx_set; case hp => (first | exact Or.inl (by simp; done) | exact Or.inr (by first | (simp; done) | (simp; omega) | (dsimp only; omega)))) | apply bx_drew | apply bx_al | apply bx_drewN | apply hb3x)))) (fun hcur => ?_))
  | (obtain ⟨u0, v0, z0⟩ := bx_cell0 hcur (Blk.below k4 hwb) (by simp); go_simp; refine hK.out _ _ (by (with_reducible (repeat' (first | assumption | apply bx_refl | (apply bx_set; case hp => (first | exact Or.inl (by simp; done) | exact Or.inr (by first | (simp; done) | (simp; omega) | (dsimp only; omega)))) | apply bx_drew | apply bx_al | apply bx_drewN | apply hb3x)))) (fun hcur => ?_))
  | (obtain ⟨u0, v0, z0⟩ := bx_cell0 hcur (Blk.below k5 hwb) (by simp); go_simp; refine hK.out _ _ (by (with_reducible (repeat' (first | assumption | apply bx_refl | (apply bx_set; case hp => (first | exact Or.inl (by simp; done) | exact Or.inr (by first | (simp; done) | (simp; omega) | (dsimp only; omega)))) | apply bx_drew | apply bx_al | apply bx_drewN | apply hb3x)))) (fun hcur => ?_))
  clear hK K
  try simp only [Act.put, List.setIfInBounds_toArray, List.set_cons_zero, List.set_cons_succ]
  apply PlanW.step
  · (simp only [List.getElem?_toArray, List.getElem?_cons_succ, List.getElem?_cons_zero] <;> rfl)
  · rfl
  intro K hK
  first
  | (refine wp_store_keep (X := [w.heap.size + 3, w.heap.size + 4]) (w0 := wb) rfl rfl rfl (by with_reducible first | exact bx_refl _ _ | assumption) (by with_reducible first | assumption | (apply Blk.below (hb := hwb); assumption)) (by simp) (by kernel_rfl) (by rfl) (by simp [Value.oneCell']) (fun hres2 hcur => ?_); refine hK.out _ _ hcur (fun _ => ?_))
  | (go_simp; refine hK.out _ _ (by (with_reducible (repeat' (first | assumption | apply bx_refl | (apply bx_set; case hp => (first | exact Or.inl (by simp; done) | exact Or.inr (by first | (simp; done) | (simp; omega) | (dsimp only; omega)))) | apply bx_drew | apply bx_al | apply bx_drewN | apply hb3x)))) (fun hcur => ?_))
  | (obtain ⟨u0, v0, z0⟩ := bx_cell0 hcur (Blk.below k0 hwb) (by simp); go_simp; refine hK.out _ _ (by (with_reducible (repeat' (first | assumption | apply bx_refl | (apply bx_set; case hp => (first | exact Or.inl (by simp; done) | exact Or.inr (by first | (simp; done) | (simp; omega) | (dsimp only; omega)))) | apply bx_drew | apply bx_al | apply bx_drewN | apply hb3x)))) (fun hcur => ?_))
  | (obtain ⟨u0, v0, z0⟩ := bx_cell0 hcur (Blk.below k1 hwb) (by simp); go_simp; refine hK.out _ _ (by (with_reducible (repeat' (first | assumption | apply bx_refl | (apply bx_set; case hp => (first | exact Or.inl (by simp; done) | exact Or.inr (by first | (simp; done) | (simp; omega) | (dsimp only; omega)))) | apply bx_drew | apply bx_al | apply bx_drewN | apply hb3x)))) (fun hcur => ?_))
  | (obtain ⟨u0, v0, z0⟩ := bx_cell0 hcur (Blk.below k2 hwb) (by simp); go_simp; refine hK.out _ _ (by (with_reducible (repeat' (first | assumption | apply bx_refl | (apply bx_set; case hp => (first | exact Or.inl (by simp; done) | exact Or.inr (by first | (simp; done) | (simp; omega) | (dsimp only; omega)))) | apply bx_drew | apply bx_al | apply bx_drewN | apply hb3x)))) (fun hcur => ?_))
  | (obtain ⟨u0, v0, z0⟩ := bx_cell0 hcur (Blk.below k3 hwb) (by simp); go_simp; refine hK.out _ _ (by (with_reducible (repeat' (first | assumption | apply bx_refl | (apply bx_set; case hp => (first | exact Or.inl (by simp; done) | exact Or.inr (by first | (simp; done) | (simp; omega) | (dsimp only; omega)))) | apply bx_drew | apply bx_al | apply bx_drewN | apply hb3x)))) (fun hcur => ?_))
  | (obtain ⟨u0, v0, z0⟩ := bx_cell0 hcur (Blk.below k4 hwb) (by simp); go_simp; refine hK.out _ _ (by (with_reducible (repeat' (first | assumption | apply bx_refl | (apply bx_set; case hp => (first | exact Or.inl (by simp; done) | exact Or.inr (by first | (simp; done) | (simp; omega) | (dsimp only; omega)))) | apply bx_drew | apply bx_al | apply bx_drewN | apply hb3x)))) (fun hcur => ?_))
  | (obtain ⟨u0, v0, z0⟩ := bx_cell0 hcur (Blk.below k5 hwb) (by simp); go_simp; refine hK.out _ _ (by (with_reducible (repeat' (first | assumption | apply bx_refl | (apply bx_set; case hp => (first | exact Or.inl (by simp; done) | exact Or.inr (by first | (simp; done) | (simp; omega) | (dsimp only; omega)))) | apply bx_drew | apply bx_al | apply bx_drewN | apply hb3x)))) (fun hcur => ?_))
  clear hK K
  try simp only [Act.put, List.setIfInBounds_toArray, List.set_cons_zero, List.set_cons_succ]
  refine PlanW.done ?_
  have hb3 := bl_tt hwb
  go_wp2
  first
  | apply absPB6 (w0 := w) (g0 := w.heap.size) (g1 := w.heap.size + 1) (g2 := w.heap.size + 2) (g3 := w.heap.size + 3) (g4 := w.heap.size + 4) (g5 := wz.heap.size)
  | apply absPMB6 (w0 := w) (g0 := w.heap.size) (g1 := w.heap.size + 1) (g2 := w.heap.size + 2) (g3 := w.heap.size + 3) (g4 := w.heap.size + 4) (g5 := wz.heap.size)
  iterate 7 (focus ((with_reducible (repeat' (first | assumption | apply bl_refl | apply bl_al | apply bl_drew | apply bl_drewN | (apply bl_set; case hp => (first | (simp; done) | (simp; omega) | (dsimp only; omega))) | (apply bl_row; case hg => (first | (simp; done) | (simp; omega) | omega)) | apply hb3 | apply bx_refl | (apply bx_set; case hp => (first | exact Or.inl (by simp; done) | exact Or.inr (by first | (simp; done) | (simp; omega) | (dsimp only; omega)))) | apply bx_drew | apply bx_al | apply bx_drewN | apply hb3x | (apply Blk.newAt; first | (simp; done) | rfl) | apply Blk.alloc | apply Blk.drew | apply Blk.drewN | apply Blk.set | (apply Blk.other; case hne => first | assumption | (simp; done) | (simp; omega) | omega) | apply Blk.row | (apply Blk.rowOther; case hne => first | assumption | (simp; done) | (simp; omega) | omega) | apply Blk.below (hb := hb3 _ (bl_refl _))))); done))
  intro wf hb0' k0' k1' k2' k3' k4' k5'
  (try simp only [List.setIfInBounds_toArray, List.set_cons_zero, List.set_cons_succ] at k0' k1' k2' k3' k4' k5')
  try clear hb3
  try clear Lk0
  try clear Fk0
  try clear Qk0
  try clear Lk1
  try clear Fk1
  try clear Qk1
  try clear Lk2
  try clear Fk2
  try clear Qk2
  try clear Lk3
  try clear Fk3
  try clear Qk3
  try clear Lk4
  try clear Fk4
  try clear Qk4
  try clear Lk5
  try clear Fk5
  try clear Qk5
  try clear hb0
  try clear k0
  try clear k1
  try clear k2
  try clear k3
  try clear k4
  try clear k5
  have hb0 := hb0'; clear hb0'
  have k0 := k0'; clear k0'
  have k1 := k1'; clear k1'
  have k2 := k2'; clear k2'
  have k3 := k3'; clear k3'
  have k4 := k4'; clear k4'
  have k5 := k5'; clear k5'
  have hr1 := k3.cell
  have hr2 := k4.cell
  refine bodyPost_ret (v := .tuple #[vRg (squaresS a x.pl), .agg #[.int .i64 (r.v.lo * r.v.lo), .int .i64 (r.v.hi * r.v.hi)]]) (by simp [results, Try.results97, go_sem, hr1, hr2]) rfl ⟨rfl, hb0⟩
end Go.Proofs.Ytephimmamkafoaa
