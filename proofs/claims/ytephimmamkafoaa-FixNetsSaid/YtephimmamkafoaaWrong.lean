/-
  Walks: the readings with which a position does not agree, as bits.
-/
import Derived.Test.YtephimmamkafoaaMeas
import Derived.Laws.BitsAllLaws
namespace Go.Proofs.Ytephimmamkafoaa
set_option linter.unusedSimpArgs false
set_option linter.unusedVariables false
open Go.RowKit Go.Shelf
attribute [local go_sem] bl_al bl_drew bl_drewN bl_refl bx_al bx_drew bx_drewN bx_refl
set_option maxRecDepth 20000
theorem c_measured (wd a : Bx) (bs : List Bc) (A : Option Addr) (c : Nat) (r : Rd) (w : World) (hs : Sl cBc 4 w A bs) (hlb : bs.length ≤ 1000) (ha : a.in 10000) (hr : r.ok bs) :
    Calls Try.prog 97 #[vON wd (.slice A bs.length c), vBx a, vRd r] w (Ret (.tuple #[vRg (measS bs a r).1, vRg (measS bs a r).2]) w) := by
  by_cases h1 : r.kind = 1
  · have := c_meas1 wd a (.slice A bs.length c) r w h1 (hr.axis h1)
    rw [measS, if_pos h1]
    exact this
  · obtain ⟨k, x, hk, hx, hp⟩ := hr.bc h1
    have := c_meas0 wd a bs A c r w h1 hs hlb ha hr.v k x hk hx hp
    have e : measS bs a r = (squaresS a x.pl, ⟨r.v.lo * r.v.lo, r.v.hi * r.v.hi⟩) := by
      rw [measS, if_neg h1]
      simp [bcAt, hk, hx]
    rw [e]
    exact this
abbrev Pl.one (p : Pl) : Bx := ⟨⟨p.x, p.x⟩, ⟨p.y, p.y⟩, ⟨p.z, p.z⟩⟩
/-- Whether a position agrees with a reading. -/
def agrB (bs : List Bc) (p : Pl) (r : Rd) : Bool := inR (measS bs p.one r).1.lo (measS bs p.one r).2.lo (measS bs p.one r).2.hi
def bitsTo (f : Nat → Bool) : Nat → Nat
  | 0 => 0
  | k + 1 => bitsTo f k ||| (if f k then 2 ^ k else 0)
theorem bitsTo_lt (f : Nat → Bool) : ∀ k, bitsTo f k < 2 ^ k
  | 0 => by simp [bitsTo]
  | k + 1 => by
    unfold bitsTo
    have h := bitsTo_lt f k
    have h2 : (2 : Nat) ^ k < 2 ^ (k + 1) := by rw [Nat.pow_succ]; have := Nat.two_pow_pos k; omega
    refine Nat.or_lt_two_pow (by omega) ?_
    split
    · exact h2
    · exact Nat.two_pow_pos _
theorem or_step (m k : Nat) (hm : m < 2 ^ k) (hk : k ≤ 62) : bits .or .u64 (m : Int) (IntKind.u64.wrap (2 ^ k)) = ((m ||| 2 ^ k : Nat) : Int) := by
  have h1 : (2 : Nat) ^ k ≤ 2 ^ 62 := Nat.pow_le_pow_right (by decide) hk
  have e : ((2 : Int) ^ k) = ((2 ^ k : Nat) : Int) := by simp
  have h2 : (2 : Nat) ^ 62 = 4611686018427387904 := by decide
  rw [e, IntWalk.u64_in _ (by omega)]
  exact u64_or_nat m (2 ^ k) (by omega) (by omega)
def wrongB (bs : List Bc) (p : Pl) (l : List Rd) (k : Nat) : Bool := ((l[k]?).map fun r => !agrB bs p r).getD false
theorem Pl.in.one {p : Pl} {l : Int} (h : p.in l) : p.one.in l := by
  obtain ⟨⟨a, b⟩, ⟨c, d⟩, ⟨e, f⟩⟩ := h
  exact ⟨⟨a, b, a, b⟩, ⟨c, d, c, d⟩, ⟨e, f, e, f⟩⟩
set_option maxHeartbeats 4000000 in
theorem c_wrong (wd : Bx) (bs : List Bc) (A A' : Option Addr) (c c' : Nat) (l : List Rd) (p : Pl) (w : World) (hs : Sl cBc 4 w A bs) (hlb : bs.length ≤ 1000) (hl : Sl cRd 4 w A' l) (hll : l.length ≤ 8)
    (hp : p.in 10000) (hr : ∀ r ∈ l, r.ok bs) :
    Calls Try.prog 96 #[vON wd (.slice A bs.length c), .slice A' l.length c', vPl p] w (Ret (.int .u64 (bitsTo (wrongB bs p l) l.length : Nat)) w) := by
  have hms := Lib.hid fun (W : World) (hb : Below w.heap.size w W) (r : Rd) (hm : r ∈ l) => c_measured wd p.one bs A c r W (hs.below hb) hlb hp.one (hr r hm)
  have Hl := Lib.hid hl
  clear hs hl hr hp hlb
  generalize bs.length = nb at *
  obtain ⟨n, Hn⟩ : ∃ n, Hid (l.length = n) := ⟨_, rfl⟩
  rw [Hn.out] at hll ⊢
  go_enter Try.func96, Try.ntmps96
  go_wp2
  first
  | apply absB2 (w0 := w) (g0 := w.heap.size) (g1 := w.heap.size + 1)
  | apply absTB2 (w0 := w) (g0 := w.heap.size) (g1 := w.heap.size + 1)
  | apply absIB2 (w0 := w) (g0 := w.heap.size) (g1 := w.heap.size + 1)
  iterate 3 (focus ((with_reducible (repeat' (first | assumption | apply bl_refl | apply bl_al | apply bl_drew | apply bl_drewN | (apply bl_set; case hp => (first | (simp; done) | (simp; omega) | (dsimp only; omega))) | (apply bl_row; case hg => (first | (simp; done) | (simp; omega) | omega)) | apply hb3 | apply bx_refl | (apply bx_set; case hp => (first | exact Or.inl (by simp; done) | exact Or.inr (by first | (simp; done) | (simp; omega) | (dsimp only; omega)))) | apply bx_drew | apply bx_al | apply bx_drewN | apply hb3x | (apply Blk.newAt; first | (simp; done) | rfl) | apply Blk.alloc | apply Blk.drew | apply Blk.drewN | apply Blk.set | (apply Blk.other; case hne => first | assumption | (simp; done) | (simp; omega) | omega) | apply Blk.row | (apply Blk.rowOther; case hne => first | assumption | (simp; done) | (simp; omega) | omega) | apply Blk.below (hb := hb3 _ (bl_refl _))))); done))
  intro wa hb0' k0' k1'
  (try simp only [List.setIfInBounds_toArray, List.set_cons_zero, List.set_cons_succ] at k0' k1')
  try clear hb3
  try clear hb0
  try clear k0
  try clear k1
  have hb0 := hb0'; clear hb0'
  have k0 := k0'; clear k0'
  have k1 := k1'; clear k1'
  have Lk0 := k0.later
  have Fk0 := k0.laterF
  have Qk0 := k0.lt
  have Lk1 := k1.later
  have Fk1 := k1.laterF
  have Qk1 := k1.lt
  go_loopw [7, 14] (fun o i wr => ∃ k : Nat, k ≤ n ∧ i = .int .i64 k ∧ o = .int .u64 (bitsTo (wrongB bs p l) k : Nat) ∧ Below wa.heap.size wa wr) (fun _ i _ => n - (intOf i).toNat)
  case atStart => exact ⟨0, Nat.zero_le _, rfl, rfl, Below.refl _ _⟩
  case round =>
    obtain ⟨k, hk, rfl, rfl, hb⟩ := hrel
    by_cases hlt : k < n
    · have hx : l[k]? = some (l[k]'(by rw [Hn.out]; exact hlt)) := List.getElem?_eq_getElem _
      generalize l[k]'(by rw [Hn.out]; exact hlt) = x at hx
      obtain ⟨b, off, hA, hc⟩ := Hl.out k x hx
      replace hx := Lib.hid hx
      have c0 : wr.cell? ⟨b, off + k * 4, none⟩ = some (.int .i64 x.kind) := kcell (bl_tr hb0 hb) (hc 0 _ rfl)
      have c1 : wr.cell? ⟨b, off + k * 4 + 1, none⟩ = some (.int .i64 x.idx) := kcell (bl_tr hb0 hb) (hc 1 _ rfl)
      have c2 : wr.cell? ⟨b, off + k * 4 + 2, none⟩ = some (.int .i64 x.v.lo) := kcell (bl_tr hb0 hb) (hc 2 _ rfl)
      have c3 : wr.cell? ⟨b, off + k * 4 + 3, none⟩ = some (.int .i64 x.v.hi) := kcell (bl_tr hb0 hb) (hc 3 _ rfl)
      have hm : x ∈ l := List.mem_of_getElem? hx.out
      have hbk : Hid (bitsTo (wrongB bs p l) (k + 1) = bitsTo (wrongB bs p l) k ||| (if !agrB bs p x then 2 ^ k else 0)) := by
        refine Lib.hid ?_
        rw [bitsTo]
        simp [wrongB, hx.out]
      clear hc
      subst hA
      go_upto_region 5 with fail
      have k0 := k0.below hb
      have k1 := k1.below hb
      have hb0' := hb0
      have hb0 := hb
      first
      | apply absB3 (w0 := wa) (g0 := w.heap.size) (g1 := w.heap.size + 1) (g2 := wr.heap.size)
      | apply absTB3 (w0 := wa) (g0 := w.heap.size) (g1 := w.heap.size + 1) (g2 := wr.heap.size)
      | apply absIB3 (w0 := wa) (g0 := w.heap.size) (g1 := w.heap.size + 1) (g2 := wr.heap.size)
      iterate 4 (focus ((with_reducible (repeat' (first | assumption | apply bl_refl | apply bl_al | apply bl_drew | apply bl_drewN | (apply bl_set; case hp => (first | (simp; done) | (simp; omega) | (dsimp only; omega))) | (apply bl_row; case hg => (first | (simp; done) | (simp; omega) | omega)) | apply hb3 | apply bx_refl | (apply bx_set; case hp => (first | exact Or.inl (by simp; done) | exact Or.inr (by first | (simp; done) | (simp; omega) | (dsimp only; omega)))) | apply bx_drew | apply bx_al | apply bx_drewN | apply hb3x | (apply Blk.newAt; first | (simp; done) | rfl) | apply Blk.alloc | apply Blk.drew | apply Blk.drewN | apply Blk.set | (apply Blk.other; case hne => first | assumption | (simp; done) | (simp; omega) | omega) | apply Blk.row | (apply Blk.rowOther; case hne => first | assumption | (simp; done) | (simp; omega) | omega) | apply Blk.below (hb := hb3 _ (bl_refl _))))); done))
      intro wb hb0' k0' k1' k9'
      (try simp only [List.setIfInBounds_toArray, List.set_cons_zero, List.set_cons_succ] at k0' k1' k9')
      try clear hb3
      try clear hb0
      try clear k0
      try clear k1
      try clear k9
      have hb0 := hb0'; clear hb0'
      have k0 := k0'; clear k0'
      have k1 := k1'; clear k1'
      have k9 := k9'; clear k9'
      have Lk0 := k0.later
      have Fk0 := k0.laterF
      have Qk0 := k0.lt
      have Lk1 := k1.later
      have Fk1 := k1.laterF
      have Qk1 := k1.lt
      have Lk9 := k9.later
      have Fk9 := k9.laterF
      have Qk9 := k9.lt
      have hsz := hb.size
      refine wp_any (w0 := wb) ⟨[10, 11], [7], [some 20, some 21, some 22, some 23, some 24, some 19, some 25, some 26, some 10, some 11, none, none], [[], [], [1], [], [0, 1, 2, 3], [0, 1, 2, 3, 4], [0, 1, 2, 3, 4, 5], [0, 1, 2, 3, 4, 5], [], [], [0, 1, 2, 3, 4, 5, 6, 8, 9], [0, 1, 2, 3, 4, 5, 6, 7, 8, 9, 10]], [[], [], [1], [], [0, 2, 3], [4], [5], [5], [], [], [], []]⟩ (fun γ => [(γ 8).n, (γ 9).n]) (by kernel_rfl) (by kernel_rfl) (by (with_reducible (repeat' (first | assumption | apply bl_refl | apply bl_al | apply bl_drew | apply bl_drewN | (apply bl_set; case hp => (first | (simp; done) | (simp; omega) | (dsimp only; omega))) | (apply bl_row; case hg => (first | (simp; done) | (simp; omega) | omega)) | apply hb3)))) (fun u => by simp only [putD, Act.put, List.setIfInBounds_toArray, List.set_cons_zero, List.set_cons_succ, Nat.zero_add, Nat.reduceAdd]; rfl) ?_
      apply RGW.on (i := 0) rfl
      · (simp only [List.getElem?_toArray, List.getElem?_cons_succ, List.getElem?_cons_zero] <;> rfl)
      · intro γ u W hcur hd
        clear hd
        (try dsimp only)
        refine ⟨rfl, ?_⟩
        go_simp <;> (try go_bits) <;> with_reducible rfl
      · first
        | exact fun _ _ _ => rfl
      · rfl
      dsimp only [List.nil_append, List.cons_append]
      apply RGW.on (i := 1) rfl
      · (simp only [List.getElem?_toArray, List.getElem?_cons_succ, List.getElem?_cons_zero] <;> rfl)
      · intro γ u W hcur hd
        clear hd
        (try dsimp only)
        refine ⟨rfl, ?_⟩
        go_simp <;> (try go_bits) <;> with_reducible rfl
      · first
        | exact fun _ _ _ => rfl
      · rfl
      dsimp only [List.nil_append, List.cons_append]
      apply RGW.call (i := 2) rfl
      · (simp only [List.getElem?_toArray, List.getElem?_cons_succ, List.getElem?_cons_zero] <;> rfl)
      · intro γ u W hcur hd
        obtain ⟨⟨h1, -, -⟩, -⟩ := hd
        dsimp only at h1
        (try simp only [h1])
        refine ⟨rfl, fun K hK => ?_⟩
        go_simp
        (first | (go_at_call 120; (with_reducible refine (c_single p _).mono ?_); rintro e w3 ⟨rfl, hb3⟩; replace hb3 := bl_tt hb3) | (go_at_call 97; (with_reducible refine (hms.out _ (bl_tr (bl_tr hb0' hb0) (by (with_reducible (repeat' (first | assumption | apply bl_refl | apply bl_al | apply bl_drew | apply bl_drewN | (apply bl_set; case hp => (first | (simp; done) | (simp; omega) | (dsimp only; omega))) | (apply bl_row; case hg => (first | (simp; done) | (simp; omega) | omega)) | apply hb3))))) x hm).mono ?_); rintro e w3 ⟨rfl, hb3⟩; replace hb3 := bl_tt hb3))
        (try dsimp only)
        exact hK.out _ _ rfl (by (with_reducible (repeat' (first | assumption | apply bl_refl | apply bl_al | apply bl_drew | apply bl_drewN | (apply bl_set; case hp => (first | (simp; done) | (simp; omega) | (dsimp only; omega))) | (apply bl_row; case hg => (first | (simp; done) | (simp; omega) | omega)) | apply hb3))))
      · first
        | exact fun _ _ _ => rfl
      · rfl
      dsimp only [List.nil_append, List.cons_append]
      apply RGW.on (i := 3) rfl
      · (simp only [List.getElem?_toArray, List.getElem?_cons_succ, List.getElem?_cons_zero] <;> rfl)
      · intro γ u W hcur hd
        clear hd
        (try dsimp only)
        refine ⟨rfl, ?_⟩
        go_simp <;> (try go_bits) <;> with_reducible rfl
      · first
        | exact fun _ _ _ => rfl
      · rfl
      dsimp only [List.nil_append, List.cons_append]
      apply RGW.call (i := 4) rfl
      · (simp only [List.getElem?_toArray, List.getElem?_cons_succ, List.getElem?_cons_zero] <;> rfl)
      · intro γ u W hcur hd
        obtain ⟨⟨h0, -, -⟩, ⟨h2, -, -⟩, ⟨h3, -, -⟩, -⟩ := hd
        dsimp only at h0 h2 h3
        (try simp only [h0, h2, h3])
        refine ⟨rfl, fun K hK => ?_⟩
        go_simp
        (first | (go_at_call 120; (with_reducible refine (c_single p _).mono ?_); rintro e w3 ⟨rfl, hb3⟩; replace hb3 := bl_tt hb3) | (go_at_call 97; (with_reducible refine (hms.out _ (bl_tr (bl_tr hb0' hb0) (by (with_reducible (repeat' (first | assumption | apply bl_refl | apply bl_al | apply bl_drew | apply bl_drewN | (apply bl_set; case hp => (first | (simp; done) | (simp; omega) | (dsimp only; omega))) | (apply bl_row; case hg => (first | (simp; done) | (simp; omega) | omega)) | apply hb3))))) x hm).mono ?_); rintro e w3 ⟨rfl, hb3⟩; replace hb3 := bl_tt hb3))
        (try dsimp only)
        exact hK.out _ _ rfl (by (with_reducible (repeat' (first | assumption | apply bl_refl | apply bl_al | apply bl_drew | apply bl_drewN | (apply bl_set; case hp => (first | (simp; done) | (simp; omega) | (dsimp only; omega))) | (apply bl_row; case hg => (first | (simp; done) | (simp; omega) | omega)) | apply hb3))))
      · first
        | exact fun _ _ _ => rfl
      · rfl
      dsimp only [List.nil_append, List.cons_append]
      apply RGW.on (i := 5) rfl
      · (simp only [List.getElem?_toArray, List.getElem?_cons_succ, List.getElem?_cons_zero] <;> rfl)
      · intro γ u W hcur hd
        obtain ⟨⟨h4, -, -⟩, -⟩ := hd
        dsimp only at h4
        (try simp only [h4])
        refine ⟨rfl, ?_⟩
        go_simp <;> (try go_bits) <;> with_reducible rfl
      · first
        | exact fun _ _ _ => rfl
      · rfl
      dsimp only [List.nil_append, List.cons_append]
      apply RGW.on (i := 6) rfl
      · (simp only [List.getElem?_toArray, List.getElem?_cons_succ, List.getElem?_cons_zero] <;> rfl)
      · intro γ u W hcur hd
        obtain ⟨⟨h5, -, -⟩, -⟩ := hd
        dsimp only at h5
        (try simp only [h5])
        refine ⟨rfl, ?_⟩
        go_simp <;> (try go_bits) <;> with_reducible rfl
      · first
        | exact fun _ _ _ => rfl
      · rfl
      dsimp only [List.nil_append, List.cons_append]
      apply RGW.onL (i := 7) rfl
      · (simp only [List.getElem?_toArray, List.getElem?_cons_succ, List.getElem?_cons_zero] <;> rfl)
      · intro γ u Wm W hcur hd hX
        obtain ⟨⟨h5, -, -⟩, -⟩ := hd
        dsimp only at h5
        (try simp only [h5])
        refine ⟨rfl, ?_⟩
        go_simp <;> (try go_bits) <;> with_reducible rfl
      · first
        | exact fun _ _ _ => rfl
      dsimp only [List.nil_append, List.cons_append]
      apply RGW.alloc (i := 8) rfl
      · (simp only [List.getElem?_toArray, List.getElem?_cons_succ, List.getElem?_cons_zero] <;> rfl)
      · intro γ u W hcur hd
        clear hd
        (try dsimp only)
        refine ⟨rfl, fun K hK => ?_⟩
        go_simp
        exact hK.out _ _ rfl rfl
      · first
        | exact fun _ _ _ => rfl
      · rfl
      · rfl
      dsimp only [List.nil_append, List.cons_append]
      apply RGW.alloc (i := 9) rfl
      · (simp only [List.getElem?_toArray, List.getElem?_cons_succ, List.getElem?_cons_zero] <;> rfl)
      · intro γ u W hcur hd
        clear hd
        (try dsimp only)
        refine ⟨rfl, fun K hK => ?_⟩
        go_simp
        exact hK.out _ _ rfl rfl
      · first
        | exact fun _ _ _ => rfl
      · rfl
      · rfl
      dsimp only [List.nil_append, List.cons_append]
      refine RGW.skip (i := 10) rfl rfl ?_
      dsimp only [List.nil_append, List.cons_append]
      refine RGW.skip (i := 11) rfl rfl ?_
      dsimp only [List.nil_append, List.cons_append]
      refine RGW.fin (fun γ u wc hwc hd hdis => ?_)
      obtain ⟨⟨h0, -, -⟩, ⟨h1, -, -⟩, ⟨h2, -, -⟩, ⟨h3, -, -⟩, ⟨h4, -, -⟩, ⟨h5, -, -⟩, ⟨h6, -, -⟩, ⟨h7, -, -⟩, ⟨h8, r8, b8⟩, ⟨h9, r9, b9⟩, -⟩ := hd
      dsimp only at h0 h1 h2 h3 h4 h5 h6 h7 h8 h9 r8 r9 b8 b9
      have n8_9 := hdis 8 9 rfl rfl (Nat.lt_of_lt_of_eq (by decide : 8 < 12) (by kernel_rfl)) (Nat.lt_of_lt_of_eq (by decide : 9 < 12) (by kernel_rfl)) (by decide) _ (List.mem_singleton.2 rfl) _ (List.mem_singleton.2 rfl)
      clear hdis
      simp only [h0, h1, h2, h3, h4, h5, h6, h7, h8, h9]
      clear h9 h8 h7 h6 h5 h4 h3 h2 h1 h0
      replace b8 := b8 _ (List.mem_singleton.2 rfl)
      generalize hγ8 : (γ 8).n = g8 at *
      clear hγ8
      replace b9 := b9 _ (List.mem_singleton.2 rfl)
      generalize hγ9 : (γ 9).n = g9 at *
      clear hγ9
      clear u
      simp only [List.map_cons, List.map_nil]
      apply PlanW.step
      · (simp only [List.getElem?_toArray, List.getElem?_cons_succ, List.getElem?_cons_zero] <;> rfl)
      · rfl
      intro K hK
      first
      | (refine wp_store_keep (X := [g8, g9]) (w0 := wc) rfl rfl rfl (by with_reducible first | exact bx_refl _ _ | assumption) (by with_reducible first | assumption | (apply Blk.below (hb := hwc); assumption)) (by simp) (by kernel_rfl) (by rfl) (by simp [Value.oneCell']) (fun hres1 hcur => ?_); refine hK.out _ _ hcur (fun _ => ?_))
      | (go_simp; refine hK.out _ _ (by (with_reducible (repeat' (first | assumption | apply bx_refl | (apply bx_set; case hp => (first | exact Or.inl (by simp; done) | exact Or.inr (by first | (simp; done) | (simp; omega) | (dsimp only; omega)))) | apply bx_drew | apply bx_al | apply bx_drewN | apply hb3x)))) (fun hcur => ?_))
      | (obtain ⟨u0, v0, z0⟩ := bx_cell0 hcur (Blk.below k0 hwc) (by simp); go_simp; refine hK.out _ _ (by (with_reducible (repeat' (first | assumption | apply bx_refl | (apply bx_set; case hp => (first | exact Or.inl (by simp; done) | exact Or.inr (by first | (simp; done) | (simp; omega) | (dsimp only; omega)))) | apply bx_drew | apply bx_al | apply bx_drewN | apply hb3x)))) (fun hcur => ?_))
      | (obtain ⟨u0, v0, z0⟩ := bx_cell0 hcur (Blk.below k1 hwc) (by simp); go_simp; refine hK.out _ _ (by (with_reducible (repeat' (first | assumption | apply bx_refl | (apply bx_set; case hp => (first | exact Or.inl (by simp; done) | exact Or.inr (by first | (simp; done) | (simp; omega) | (dsimp only; omega)))) | apply bx_drew | apply bx_al | apply bx_drewN | apply hb3x)))) (fun hcur => ?_))
      | (obtain ⟨u0, v0, z0⟩ := bx_cell0 hcur (Blk.below k9 hwc) (by simp); go_simp; refine hK.out _ _ (by (with_reducible (repeat' (first | assumption | apply bx_refl | (apply bx_set; case hp => (first | exact Or.inl (by simp; done) | exact Or.inr (by first | (simp; done) | (simp; omega) | (dsimp only; omega)))) | apply bx_drew | apply bx_al | apply bx_drewN | apply hb3x)))) (fun hcur => ?_))
      clear hK K
      try simp only [Act.put, List.setIfInBounds_toArray, List.set_cons_zero, List.set_cons_succ]
      apply PlanW.step
      · (simp only [List.getElem?_toArray, List.getElem?_cons_succ, List.getElem?_cons_zero] <;> rfl)
      · rfl
      intro K hK
      first
      | (refine wp_store_keep (X := [g8, g9]) (w0 := wc) rfl rfl rfl (by with_reducible first | exact bx_refl _ _ | assumption) (by with_reducible first | assumption | (apply Blk.below (hb := hwc); assumption)) (by simp) (by kernel_rfl) (by rfl) (by simp [Value.oneCell']) (fun hres2 hcur => ?_); refine hK.out _ _ hcur (fun _ => ?_))
      | (go_simp; refine hK.out _ _ (by (with_reducible (repeat' (first | assumption | apply bx_refl | (apply bx_set; case hp => (first | exact Or.inl (by simp; done) | exact Or.inr (by first | (simp; done) | (simp; omega) | (dsimp only; omega)))) | apply bx_drew | apply bx_al | apply bx_drewN | apply hb3x)))) (fun hcur => ?_))
      | (obtain ⟨u0, v0, z0⟩ := bx_cell0 hcur (Blk.below k0 hwc) (by simp); go_simp; refine hK.out _ _ (by (with_reducible (repeat' (first | assumption | apply bx_refl | (apply bx_set; case hp => (first | exact Or.inl (by simp; done) | exact Or.inr (by first | (simp; done) | (simp; omega) | (dsimp only; omega)))) | apply bx_drew | apply bx_al | apply bx_drewN | apply hb3x)))) (fun hcur => ?_))
      | (obtain ⟨u0, v0, z0⟩ := bx_cell0 hcur (Blk.below k1 hwc) (by simp); go_simp; refine hK.out _ _ (by (with_reducible (repeat' (first | assumption | apply bx_refl | (apply bx_set; case hp => (first | exact Or.inl (by simp; done) | exact Or.inr (by first | (simp; done) | (simp; omega) | (dsimp only; omega)))) | apply bx_drew | apply bx_al | apply bx_drewN | apply hb3x)))) (fun hcur => ?_))
      | (obtain ⟨u0, v0, z0⟩ := bx_cell0 hcur (Blk.below k9 hwc) (by simp); go_simp; refine hK.out _ _ (by (with_reducible (repeat' (first | assumption | apply bx_refl | (apply bx_set; case hp => (first | exact Or.inl (by simp; done) | exact Or.inr (by first | (simp; done) | (simp; omega) | (dsimp only; omega)))) | apply bx_drew | apply bx_al | apply bx_drewN | apply hb3x)))) (fun hcur => ?_))
      clear hK K
      try simp only [Act.put, List.setIfInBounds_toArray, List.set_cons_zero, List.set_cons_succ]
      refine PlanW.done ?_
      have hb3 := bl_tt hwc
      first
      | apply absB5 (w0 := wa) (g0 := w.heap.size) (g1 := w.heap.size + 1) (g2 := wr.heap.size) (g3 := g8) (g4 := g9)
      | apply absTB5 (w0 := wa) (g0 := w.heap.size) (g1 := w.heap.size + 1) (g2 := wr.heap.size) (g3 := g8) (g4 := g9)
      | apply absIB5 (w0 := wa) (g0 := w.heap.size) (g1 := w.heap.size + 1) (g2 := wr.heap.size) (g3 := g8) (g4 := g9)
      iterate 6 (focus ((with_reducible (repeat' (first | assumption | apply bl_refl | apply bl_al | apply bl_drew | apply bl_drewN | (apply bl_set; case hp => (first | (simp; done) | (simp; omega) | (dsimp only; omega))) | (apply bl_row; case hg => (first | (simp; done) | (simp; omega) | omega)) | apply hb3 | apply bx_refl | (apply bx_set; case hp => (first | exact Or.inl (by simp; done) | exact Or.inr (by first | (simp; done) | (simp; omega) | (dsimp only; omega)))) | apply bx_drew | apply bx_al | apply bx_drewN | apply hb3x | (apply Blk.newAt; first | (simp; done) | rfl) | apply Blk.alloc | apply Blk.drew | apply Blk.drewN | apply Blk.set | (apply Blk.other; case hne => first | assumption | (simp; done) | (simp; omega) | omega) | apply Blk.row | (apply Blk.rowOther; case hne => first | assumption | (simp; done) | (simp; omega) | omega) | apply Blk.below (hb := hb3 _ (bl_refl _))))); done))
      intro wd hb0' k0' k1' k9' k10' k11'
      (try simp only [List.setIfInBounds_toArray, List.set_cons_zero, List.set_cons_succ] at k0' k1' k9' k10' k11')
      try clear hb3
      try clear Lk0
      try clear Fk0
      try clear Qk0
      try clear Lk1
      try clear Fk1
      try clear Qk1
      try clear Lk9
      try clear Fk9
      try clear Qk9
      try clear hb0
      try clear k0
      try clear k1
      try clear k9
      try clear k10
      try clear k11
      have hb0 := hb0'; clear hb0'
      have k0 := k0'; clear k0'
      have k1 := k1'; clear k1'
      have k9 := k9'; clear k9'
      have k10 := k10'; clear k10'
      have k11 := k11'; clear k11'
      have Lk0 := k0.later
      have Fk0 := k0.laterF
      have Qk0 := k0.lt
      have Lk1 := k1.later
      have Fk1 := k1.laterF
      have Qk1 := k1.lt
      have Lk9 := k9.later
      have Fk9 := k9.laterF
      have Qk9 := k9.lt
      have Lk10 := k10.later
      have Fk10 := k10.laterF
      have Qk10 := k10.lt
      have Lk11 := k11.later
      have Fk11 := k11.laterF
      have Qk11 := k11.lt
      have hM : Hid (agrB bs p x = inR (measS bs p.one x).1.lo (measS bs p.one x).2.lo (measS bs p.one x).2.hi) := rfl
      generalize measS bs p.one x = M at *
      obtain ⟨⟨ml, mh⟩, ⟨pl, ph⟩⟩ := M
      have hcp := Lib.hid fun W : World => c_within ml pl ph W
      rw [← hM.out] at hcp
      generalize agrB bs p x = B at *
      cases B
      all_goals
        go_wp2_with (go_at_call 74; (with_reducible refine (hcp.out _).mono ?_); rintro e w3 ⟨rfl, rfl⟩)
        go_roundw
      case rel => exact ⟨k + 1, by omega, by go_num, by rw [hbk.out]; exact congrArg _ (or_step _ _ (bitsTo_lt _ _) (by omega)), hb0⟩
      case measure => simp [intOf]; omega
      case rel => exact ⟨k + 1, by omega, by go_num, by rw [hbk.out]; simp, hb0⟩
      case measure => simp [intOf]; omega
    · go_wp2
      go_ret
      have : k = n := by omega
      exact ⟨by rw [this] <;> rfl, bl_tr hb0 hb⟩
end Go.Proofs.Ytephimmamkafoaa
