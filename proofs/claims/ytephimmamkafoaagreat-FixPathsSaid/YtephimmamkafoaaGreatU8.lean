/-
  Walks: the readings with which a position does not agree, as bits.
  Walk: how many bits of a small number are set.
-/
import Derived.Test.YtephimmamkafoaaGreatU7
import Derived.Laws.BitsAllLaws
import Derived.Test.YtephimmamkafoaaGreatU3
set_option linter.unusedSimpArgs false
set_option linter.unusedVariables false
namespace Go.Proofs.YtephimmamkafoaaGreat
open Go.RowKit Go.Shelf
attribute [local go_sem] bl_al bl_drew bl_drewN bl_refl bx_al bx_drew bx_drewN bx_refl
set_option maxRecDepth 20000
theorem c_measured (wd a : Bx) (bs : List Bc) (A : Option Addr) (c : Nat) (r : Rd) (w : World) (hs : Sl cBc 4 w A bs) (hlb : bs.length ≤ 1000) (ha : a.in 10000) (hr : r.ok bs) :
    Calls Tryz.prog 91 #[vON wd (.slice A bs.length c), vBx a, vRd r] w (Ret (.tuple #[vRg (measS bs a r).1, vRg (measS bs a r).2]) w) := by
  by_cases h1 : r.kind = 1
  · have := c_meas1 wd a (.slice A bs.length c) r w h1 (hr.axis h1)
    rw [measS, if_pos h1]
    exact this
  · obtain ⟨k, x, hk, hx, hp⟩ := hr.bc h1
    have := c_meas0 wd a bs A c r w h1 hs hlb ha hr.v k x hk hx hp
    have e : measS bs a r = (squaresS a x.pl, ⟨r.v.lo * r.v.lo, r.v.hi * r.v.hi⟩) := by
      rw [measS, if_neg h1]
      simp [bcAt, hk, hx]
    rw [e]
    exact this
abbrev Pl.one (p : Pl) : Bx := ⟨⟨p.x, p.x⟩, ⟨p.y, p.y⟩, ⟨p.z, p.z⟩⟩
/-- Whether a position agrees with a reading. -/
def agrB (bs : List Bc) (p : Pl) (r : Rd) : Bool := inR (measS bs p.one r).1.lo (measS bs p.one r).2.lo (measS bs p.one r).2.hi
def bitsTo (f : Nat → Bool) : Nat → Nat
  | 0 => 0
  | k + 1 => bitsTo f k ||| (if f k then 2 ^ k else 0)
theorem bitsTo_lt (f : Nat → Bool) : ∀ k, bitsTo f k < 2 ^ k
  | 0 => by simp [bitsTo]
  | k + 1 => by
    unfold bitsTo
    have h := bitsTo_lt f k
    have h2 : (2 : Nat) ^ k < 2 ^ (k + 1) := by rw [Nat.pow_succ]; have := Nat.two_pow_pos k; omega
    refine Nat.or_lt_two_pow (by omega) ?_
    split
    · exact h2
    · exact Nat.two_pow_pos _
theorem or_step (m k : Nat) (hm : m < 2 ^ k) (hk : k ≤ 62) : bits .or .u64 (m : Int) (IntKind.u64.wrap (2 ^ k)) = ((m ||| 2 ^ k : Nat) : Int) := by
  have h1 : (2 : Nat) ^ k ≤ 2 ^ 62 := Nat.pow_le_pow_right (by decide) hk
  have e : ((2 : Int) ^ k) = ((2 ^ k : Nat) : Int) := by simp
  have h2 : (2 : Nat) ^ 62 = 4611686018427387904 := by decide
  rw [e, IntWalk.u64_in _ (by omega)]
  exact u64_or_nat m (2 ^ k) (by omega) (by omega)
def wrongB (bs : List Bc) (p : Pl) (l : List Rd) (k : Nat) : Bool := ((l[k]?).map fun r => !agrB bs p r).getD false
theorem Pl.in.one {p : Pl} {l : Int} (h : p.in l) : p.one.in l := by
  obtain ⟨⟨a, b⟩, ⟨c, d⟩, ⟨e, f⟩⟩ := h
  exact ⟨⟨a, b, a, b⟩, ⟨c, d, c, d⟩, ⟨e, f, e, f⟩⟩
set_option maxHeartbeats 4000000 in
theorem c_wrong (wd : Bx) (bs : List Bc) (A A' : Option Addr) (c c' : Nat) (l : List Rd) (p : Pl) (w : World) (hs : Sl cBc 4 w A bs) (hlb : bs.length ≤ 1000) (hl : Sl cRd 4 w A' l) (hll : l.length ≤ 8)
    (hp : p.in 10000) (hr : ∀ r ∈ l, r.ok bs) :
    Calls Tryz.prog 73 #[vON wd (.slice A bs.length c), .slice A' l.length c', vPl p] w (Ret (.int .u64 (bitsTo (wrongB bs p l) l.length : Nat)) w) := by
  have hms := Lib.hid fun (W : World) (hb : Below w.heap.size w W) (r : Rd) (hm : r ∈ l) => c_measured wd p.one bs A c r W (hs.below hb) hlb hp.one (hr r hm)
  have Hl := Lib.hid hl
  clear hs hl hr hp hlb
  generalize bs.length = nb at *
  obtain ⟨n, Hn⟩ : ∃ n, Hid (l.length = n) := ⟨_, rfl⟩
  rw [Hn.out] at hll ⊢
  go_enter Tryz.func73, Tryz.ntmps73
  go_wp2
  apply absB2 (w0 := w) (g0 := w.heap.size) (g1 := w.heap.size + 1)
  iterate 3 (focus exact zL)
  try clear hb3
  try clear hb0
  try clear k0
  try clear k1
  intro wa hb0 k0 k1
  (try simp only [List.setIfInBounds_toArray, List.set_cons_zero, List.set_cons_succ] at k0 k1)
  have Lk0 := k0.later
  have Fk0 := k0.laterF
  have Qk0 := k0.lt
  have Lk1 := k1.later
  have Fk1 := k1.laterF
  have Qk1 := k1.lt
  go_loopw [7, 14] (fun o i wr => ∃ k : Nat, k ≤ n ∧ i = .int .i64 k ∧ o = .int .u64 (bitsTo (wrongB bs p l) k : Nat) ∧ Below wa.heap.size wa wr) (fun _ i _ => n - (intOf i).toNat)
  case atStart => exact ⟨0, Nat.zero_le _, rfl, rfl, Below.refl _ _⟩
  case round =>
    obtain ⟨k, hk, rfl, rfl, hb⟩ := hrel
    by_cases hlt : k < n
    · have hx : l[k]? = some (l[k]'(by rw [Hn.out]; exact hlt)) := List.getElem?_eq_getElem _
      generalize l[k]'(by rw [Hn.out]; exact hlt) = x at hx
      obtain ⟨b, off, hA, hc⟩ := Hl.out k x hx
      replace hx := Lib.hid hx
      have c0 : wr.cell? ⟨b, off + k * 4, none⟩ = some (.int .i64 x.kind) := kcell (bl_tr hb0 hb) (hc 0 _ rfl)
      have c1 : wr.cell? ⟨b, off + k * 4 + 1, none⟩ = some (.int .i64 x.idx) := kcell (bl_tr hb0 hb) (hc 1 _ rfl)
      have c2 : wr.cell? ⟨b, off + k * 4 + 2, none⟩ = some (.int .i64 x.v.lo) := kcell (bl_tr hb0 hb) (hc 2 _ rfl)
      have c3 : wr.cell? ⟨b, off + k * 4 + 3, none⟩ = some (.int .i64 x.v.hi) := kcell (bl_tr hb0 hb) (hc 3 _ rfl)
      have hm : x ∈ l := List.mem_of_getElem? hx.out
      have hbk : Hid (bitsTo (wrongB bs p l) (k + 1) = bitsTo (wrongB bs p l) k ||| (if !agrB bs p x then 2 ^ k else 0)) := by
        refine Lib.hid ?_
        rw [bitsTo]
        simp [wrongB, hx.out]
      clear hc
      subst hA
      go_upto_region 5 with fail
      have k0 := k0.below hb
      have k1 := k1.below hb
      have hb0' := hb0
      have hb0 := hb
      apply absB3 (w0 := wa) (g0 := w.heap.size) (g1 := w.heap.size + 1) (g2 := wr.heap.size)
      iterate 4 (focus exact zL)
      try clear hb3
      try clear hb0
      try clear k0
      try clear k1
      try clear k9
      intro wb hb0 k0 k1 k9
      (try simp only [List.setIfInBounds_toArray, List.set_cons_zero, List.set_cons_succ] at k0 k1 k9)
      have Lk0 := k0.later
      have Fk0 := k0.laterF
      have Qk0 := k0.lt
      have Lk1 := k1.later
      have Fk1 := k1.laterF
      have Qk1 := k1.lt
      have Lk9 := k9.later
      have Fk9 := k9.laterF
      have Qk9 := k9.lt
      have hsz := hb.size
      refine wp_any (w0 := wb) ⟨[10, 11], [7], [some 20, some 21, some 22, some 23, some 24, some 19, some 25, some 26, some 10, some 11, none, none], [[], [], [1], [], [0, 1, 2, 3], [0, 1, 2, 3, 4], [0, 1, 2, 3, 4, 5], [0, 1, 2, 3, 4, 5], [], [], [0, 1, 2, 3, 4, 5, 6, 8, 9], [0, 1, 2, 3, 4, 5, 6, 7, 8, 9, 10]], [[], [], [1], [], [0, 2, 3], [4], [5], [5], [], [], [], []]⟩ (fun γ => [(γ 8).n, (γ 9).n]) (by kernel_rfl) (by kernel_rfl) (by (exact zE)) (fun u => by simp only [putD, Act.put, List.setIfInBounds_toArray, List.set_cons_zero, List.set_cons_succ, Nat.zero_add, Nat.reduceAdd]; rfl) ?_
      apply RGW.on (i := 0) rfl
      · exact zG
      · intro γ u W hcur hd
        clear hd
        (try dsimp only)
        exact ⟨rfl, zS⟩
      · exact zC
      · rfl
      dsimp only [nA, cA]
      apply RGW.on (i := 1) rfl
      · exact zG
      · intro γ u W hcur hd
        clear hd
        (try dsimp only)
        exact ⟨rfl, zS⟩
      · exact zC
      · rfl
      dsimp only [nA, cA]
      apply RGW.call (i := 2) rfl
      · exact zG
      · intro γ u W hcur hd
        obtain ⟨⟨h1, -, -⟩, -⟩ := hd
        dsimp only at h1
        (try simp only [h1])
        refine ⟨rfl, fun K hK => ?_⟩
        go_simp
        (go_at_call 101; (with_reducible refine (c_single p _).mono ?_); rintro e w3 ⟨rfl, hb3⟩; replace hb3 := bl_tt hb3)
        (try dsimp only)
        exact hK.out _ _ rfl (by (exact zE))
      · exact zC
      · rfl
      dsimp only [nA, cA]
      apply RGW.on (i := 3) rfl
      · exact zG
      · intro γ u W hcur hd
        clear hd
        (try dsimp only)
        exact ⟨rfl, zS⟩
      · exact zC
      · rfl
      dsimp only [nA, cA]
      apply RGW.call (i := 4) rfl
      · exact zG
      · intro γ u W hcur hd
        obtain ⟨⟨h0, -, -⟩, ⟨h2, -, -⟩, ⟨h3, -, -⟩, -⟩ := hd
        dsimp only at h0 h2 h3
        (try simp only [h0, h2, h3])
        refine ⟨rfl, fun K hK => ?_⟩
        go_simp
        (go_at_call 91; (with_reducible refine (hms.out _ (bl_tr (bl_tr hb0' hb0) (by (exact zE))) x hm).mono ?_); rintro e w3 ⟨rfl, hb3⟩; replace hb3 := bl_tt hb3)
        (try dsimp only)
        exact hK.out _ _ rfl (by (exact zE))
      · exact zC
      · rfl
      dsimp only [nA, cA]
      apply RGW.on (i := 5) rfl
      · exact zG
      · intro γ u W hcur hd
        obtain ⟨⟨h4, -, -⟩, -⟩ := hd
        dsimp only at h4
        (try simp only [h4])
        exact ⟨rfl, zS⟩
      · exact zC
      · rfl
      dsimp only [nA, cA]
      apply RGW.on (i := 6) rfl
      · exact zG
      · intro γ u W hcur hd
        obtain ⟨⟨h5, -, -⟩, -⟩ := hd
        dsimp only at h5
        (try simp only [h5])
        exact ⟨rfl, zS⟩
      · exact zC
      · rfl
      dsimp only [nA, cA]
      apply RGW.onL (i := 7) rfl
      · exact zG
      · intro γ u Wm W hcur hd hX
        obtain ⟨⟨h5, -, -⟩, -⟩ := hd
        dsimp only at h5
        (try simp only [h5])
        exact ⟨rfl, zS⟩
      · exact zC
      dsimp only [nA, cA]
      apply RGW.alloc (i := 8) rfl
      · exact zG
      · intro γ u W hcur hd
        clear hd
        (try dsimp only)
        refine ⟨rfl, fun K hK => ?_⟩
        go_simp
        exact hK.out _ _ rfl rfl
      · exact zC
      · rfl
      · rfl
      dsimp only [nA, cA]
      apply RGW.alloc (i := 9) rfl
      · exact zG
      · intro γ u W hcur hd
        clear hd
        (try dsimp only)
        refine ⟨rfl, fun K hK => ?_⟩
        go_simp
        exact hK.out _ _ rfl rfl
      · exact zC
      · rfl
      · rfl
      dsimp only [nA, cA]
      refine RGW.skip (i := 10) rfl rfl ?_
      dsimp only [nA, cA]
      refine RGW.skip (i := 11) rfl rfl ?_
      dsimp only [nA, cA]
      refine RGW.fin (fun γ u wc hwc hd hdis => ?_)
      obtain ⟨⟨h0, -, -⟩, ⟨h1, -, -⟩, ⟨h2, -, -⟩, ⟨h3, -, -⟩, ⟨h4, -, -⟩, ⟨h5, -, -⟩, ⟨h6, -, -⟩, ⟨h7, -, -⟩, ⟨h8, r8, b8⟩, ⟨h9, r9, b9⟩, -⟩ := hd
      dsimp only at h0 h1 h2 h3 h4 h5 h6 h7 h8 h9 r8 r9 b8 b9
      have n8_9 := hdis 8 9 rfl rfl (Nat.lt_of_lt_of_eq (by decide : 8 < 12) (by kernel_rfl)) (Nat.lt_of_lt_of_eq (by decide : 9 < 12) (by kernel_rfl)) (by decide) _ (List.mem_singleton.2 rfl) _ (List.mem_singleton.2 rfl)
      clear hdis
      simp only [h0, h1, h2, h3, h4, h5, h6, h7, h8, h9]
      clear h9 h8 h7 h6 h5 h4 h3 h2 h1 h0
      replace b8 := b8 _ (List.mem_singleton.2 rfl)
      generalize hγ8 : (γ 8).n = g8 at *
      clear hγ8
      replace b9 := b9 _ (List.mem_singleton.2 rfl)
      generalize hγ9 : (γ 9).n = g9 at *
      clear hγ9
      clear u
      simp only [List.map_cons, List.map_nil]
      apply PlanW.step
      · exact zG
      · rfl
      intro K hK
      refine wp_store_keep (X := [g8, g9]) (w0 := wc) rfl rfl rfl (by with_reducible first | exact bx_refl _ _ | assumption) (by with_reducible first | assumption | (apply Blk.below (hb := hwc); assumption)) (by simp) (by kernel_rfl) (by rfl) (by simp [Value.oneCell']) (fun hres1 hcur => ?_)
      refine hK.out _ _ hcur (fun _ => ?_)
      clear hK K
      try simp only [Act.put, List.setIfInBounds_toArray, List.set_cons_zero, List.set_cons_succ]
      apply PlanW.step
      · exact zG
      · rfl
      intro K hK
      refine wp_store_keep (X := [g8, g9]) (w0 := wc) rfl rfl rfl (by with_reducible first | exact bx_refl _ _ | assumption) (by with_reducible first | assumption | (apply Blk.below (hb := hwc); assumption)) (by simp) (by kernel_rfl) (by rfl) (by simp [Value.oneCell']) (fun hres2 hcur => ?_)
      refine hK.out _ _ hcur (fun _ => ?_)
      clear hK K
      try simp only [Act.put, List.setIfInBounds_toArray, List.set_cons_zero, List.set_cons_succ]
      refine PlanW.done ?_
      have hb3 := bl_tt hwc
      apply absTB5 (w0 := wa) (g0 := w.heap.size) (g1 := w.heap.size + 1) (g2 := wr.heap.size) (g3 := g8) (g4 := g9)
      iterate 6 (focus exact zL)
      try clear hb3
      try clear Lk0
      try clear Fk0
      try clear Qk0
      try clear Lk1
      try clear Fk1
      try clear Qk1
      try clear Lk9
      try clear Fk9
      try clear Qk9
      try clear hb0
      try clear k0
      try clear k1
      try clear k9
      try clear k10
      try clear k11
      intro wd hb0 k0 k1 k9 k10 k11
      (try simp only [List.setIfInBounds_toArray, List.set_cons_zero, List.set_cons_succ] at k0 k1 k9 k10 k11)
      have Lk0 := k0.later
      have Fk0 := k0.laterF
      have Qk0 := k0.lt
      have Lk1 := k1.later
      have Fk1 := k1.laterF
      have Qk1 := k1.lt
      have Lk9 := k9.later
      have Fk9 := k9.laterF
      have Qk9 := k9.lt
      have Lk10 := k10.later
      have Fk10 := k10.laterF
      have Qk10 := k10.lt
      have Lk11 := k11.later
      have Fk11 := k11.laterF
      have Qk11 := k11.lt
      have hM : Hid (agrB bs p x = inR (measS bs p.one x).1.lo (measS bs p.one x).2.lo (measS bs p.one x).2.hi) := rfl
      generalize measS bs p.one x = M at *
      obtain ⟨⟨ml, mh⟩, ⟨pl, ph⟩⟩ := M
      have hcp := Lib.hid fun W : World => c_within ml pl ph W
      rw [← hM.out] at hcp
      generalize agrB bs p x = B at *
      cases B
      all_goals
        go_wp2_with (go_at_call 75; (with_reducible refine (hcp.out _).mono ?_); rintro e w3 ⟨rfl, rfl⟩)
        go_roundw
      case rel => exact ⟨k + 1, by omega, by go_num, by rw [hbk.out]; exact congrArg _ (or_step _ _ (bitsTo_lt _ _) (by omega)), hb0⟩
      case measure => simp [intOf]; omega
      case rel => exact ⟨k + 1, by omega, by go_num, by rw [hbk.out]; simp, hb0⟩
      case measure => simp [intOf]; omega
    · go_wp2
      go_ret
      have : k = n := by omega
      exact ⟨by rw [this] <;> rfl, bl_tr hb0 hb⟩
end Go.Proofs.YtephimmamkafoaaGreat
namespace Go.Proofs.YtephimmamkafoaaGreat
open Go.RowKit
attribute [local go_sem] bl_al bl_drew bl_drewN bl_refl
set_option maxRecDepth 20000
def popc (s : Nat) : Nat := (List.range 8).countP fun i => s.testBit i
theorem c_Ones64 : ∃ f : Nat → Int, (∀ (s : Nat) (w : World), Calls Tryz.prog 126 #[.int .u64 (s : Nat)] w (Same (.int .i64 (f s)) w)) ∧ ∀ s, s < 256 → f s = (popc s : Nat) := by
  apply Exists.intro
  apply And.intro
  · intro s w
    go_enter Tryz.func126, Tryz.ntmps126
    go_wp2
    go_ret
    exact ⟨rfl, rfl⟩
  · decide +kernel
theorem c_Ones (s : Nat) (w : World) (hs : s < 256) : Calls Tryz.prog 106 #[.int .u64 (s : Nat)] w (Same (.int .i64 (popc s : Nat)) w) := by
  obtain ⟨f, h1, h2⟩ := c_Ones64
  have hc := Lib.hid fun W : World => h1 s W
  have e := h2 s hs
  rw [e] at hc
  clear h1 h2 e hs
  go_enter Tryz.func106, Tryz.ntmps106
  go_wp2_with (go_at_call 126; (with_reducible refine (hc.out _).mono ?_); rintro e w3 ⟨rfl, rfl⟩)
  go_ret
  exact ⟨rfl, rfl⟩
end Go.Proofs.YtephimmamkafoaaGreat
