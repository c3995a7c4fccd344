/-
  Walks: the readings with which a position agrees, by the reference; lists of numbers.
  Walks: the reference's remainder; the smallest box around two boxes.
  Walk: the vote of a box, by the reference.
  Plain laws: the readings with which a position agrees, by bits and by lists.
  Walks: which readings are valid, by the reference.
-/
import Derived.Test.YtephimmamkafoaaGreatU14
import Derived.Test.YtephimmamkafoaaGreatU10
import Derived.Test.YtephimmamkafoaaGreatU3
import Derived.Test.YtephimmamkafoaaGreatU13
import Derived.Test.YtephimmamkafoaaGreatU9
import Derived.Test.YtephimmamkafoaaGreatU11
import Derived.Test.YtephimmamkafoaaGreatU7
set_option linter.unusedSimpArgs false
set_option linter.unusedVariables false
namespace Go.Proofs.YtephimmamkafoaaGreat
open Go.RowKit Go.Shelf
attribute [local go_sem] bl_al bl_drew bl_drewN bl_refl bx_al bx_drew bx_drewN bx_refl
set_option maxRecDepth 20000
def pickL (f : Nat → Bool) : Nat → List Int
  | 0 => []
  | k + 1 => pickL f k ++ if f k then [(k : Int)] else []
theorem pickL_len (f : Nat → Bool) : ∀ k, (pickL f k).length ≤ k
  | 0 => Nat.le_refl 0
  | k + 1 => by
    unfold pickL
    have := pickL_len f k
    split <;> simp <;> omega
theorem pickL_hit {f : Nat → Bool} {k : Nat} (h : f k = true) : pickL f (k + 1) = pickL f k ++ [(k : Int)] := by rw [pickL, if_pos h]
theorem pickL_miss {f : Nat → Bool} {k : Nat} (h : f k = false) : pickL f (k + 1) = pickL f k := by rw [pickL, if_neg (by rw [h]; decide), List.append_nil]
def agrAt (bs : List Bc) (p : Pl) (l : List Rd) (k : Nat) : Bool := ((l[k]?).map fun r => agrB bs p r).getD false
set_option maxHeartbeats 8000000 in
theorem r_Agreeing (wd : Bx) (bs : List Bc) (A A' : Option Addr) (c c' : Nat) (l : List Rd) (p : Pl) (w : World) (hs : Sl cBc 4 w A bs) (hlb : bs.length ≤ 1000) (hl : Sl cRd 4 w A' l) (hll : l.length ≤ 1000)
    (hp : p.in 10000) (hr : ∀ r ∈ l, r.ok bs) :
    Calls Tryz.prog 79 #[vNt wd (.slice A bs.length c), .slice A' l.length c', vPl p] w (RetI (pickL (agrAt bs p l) l.length) w) := by
  obtain ⟨i0, hi0, hz0, hz1, hz2⟩ := info_parts info3
  have hag := Lib.hid fun (W : World) (hb : Below w.heap.size w W) (r : Rd) (hm : r ∈ l) => r_Agrees wd bs A c r p W (hs.below hb) hlb (hr r hm) hp
  have Hl := Lib.hid hl
  clear hs hl hr hp hlb
  generalize bs.length = nb at *
  obtain ⟨n, Hn⟩ : ∃ n, Hid (l.length = n) := ⟨_, rfl⟩
  rw [Hn.out] at hll ⊢
  go_enter Tryz.func79, Tryz.ntmps79
  go_upto_region 2 with fail
  apply absB2 (w0 := w) (g0 := w.heap.size) (g1 := w.heap.size + 1)
  iterate 3 (focus exact zL)
  try clear hb3
  try clear hb0
  try clear k0
  try clear k1
  intro wa hb0 k0 k1
  (try simp only [List.setIfInBounds_toArray, List.set_cons_zero, List.set_cons_succ] at k0 k1)
  have Lk0 := k0.later
  have Fk0 := k0.laterF
  have Qk0 := k0.lt
  have Lk1 := k1.later
  have Fk1 := k1.laterF
  have Qk1 := k1.lt
  go_wp2
  go_loopw [7, 8] (fun v i wr => ∃ k : Nat, k ≤ n ∧ i = .int .i64 k ∧ Below wa.heap.size wa wr ∧ wr.ownsRow wa.heap.size 3 1 v (pickL (agrAt bs p l) k).length ((pickL (agrAt bs p l) k).map (.int .i64))) (fun _ i _ => n - (intOf i).toNat)
  case atStart => exact ⟨0, Nat.zero_le _, rfl, Below.refl _ _, World.ownsRow_nil _ _ _ _⟩
  case round =>
    obtain ⟨k, hk, rfl, hb, hown⟩ := hrel
    by_cases hlt : k < n
    · have hx : l[k]? = some (l[k]'(by rw [Hn.out]; exact hlt)) := List.getElem?_eq_getElem _
      generalize l[k]'(by rw [Hn.out]; exact hlt) = x at hx
      obtain ⟨b, off, hA, hc⟩ := Hl.out k x hx
      have hm : x ∈ l := List.mem_of_getElem? hx
      have hwr : Below w.heap.size w wr := bl_tr hb0 hb
      have c0 : ∀ W, Below wr.heap.size wr W → W.cell? ⟨b, off + k * 4, none⟩ = some (.int .i64 x.kind) := later (kcell hwr (hc 0 _ rfl))
      have c1 : ∀ W, Below wr.heap.size wr W → W.cell? ⟨b, off + k * 4 + 1, none⟩ = some (.int .i64 x.idx) := later (kcell hwr (hc 1 _ rfl))
      have c2 : ∀ W, Below wr.heap.size wr W → W.cell? ⟨b, off + k * 4 + 2, none⟩ = some (.int .i64 x.v.lo) := later (kcell hwr (hc 2 _ rfl))
      have c3 : ∀ W, Below wr.heap.size wr W → W.cell? ⟨b, off + k * 4 + 3, none⟩ = some (.int .i64 x.v.hi) := later (kcell hwr (hc 3 _ rfl))
      clear hc
      subst hA
      have hfk : Hid (agrAt bs p l k = agrB bs p x) := by refine Lib.hid ?_; unfold agrAt; rw [hx]; rfl
      have hca := Lib.hid fun (W : World) (h : Below wr.heap.size wr W) => hag.out W (bl_tr hwr h) x hm
      have hlen := pickL_len (agrAt bs p l) k
      have hsz := hwr.size
      replace hown := Lib.hid hown
      replace hx := Lib.hid hx
      have k0 := k0.below hb
      have k1 := k1.below hb
      clear Lk0 Lk1 Fk0 Fk1
      have Lk0 := k0.later
      have Fk0 := k0.laterF
      have Qk0 := k0.lt
      have Lk1 := k1.later
      have Fk1 := k1.laterF
      have Qk1 := k1.lt
      obtain ⟨B, hB⟩ : ∃ b', agrB bs p x = b' := ⟨_, rfl⟩
      rw [hB] at hca hfk
      clear hB
      go_wp2
      refine wp_any (w0 := wr) ⟨[], [], [some 15, some 16, some 17, some 18, some 19, some 20, some 21], [[], [], [], [1, 2], [1, 2, 3], [], [0, 1, 2, 3, 4, 5]], [[], [], [], [1, 2], [3], [], [0, 4, 5]]⟩ (fun _ => []) (by kernel_rfl) (by kernel_rfl) (by (exact zE)) (fun u => by simp only [putD, Act.put, List.setIfInBounds_toArray, List.set_cons_zero, List.set_cons_succ, Nat.zero_add, Nat.reduceAdd]; rfl) ?_
      apply RGW.on (i := 0) rfl
      · exact zG
      · intro γ u W hcur hd
        clear hd
        (try dsimp only)
        exact ⟨rfl, zS⟩
      · exact zC
      · rfl
      dsimp only [nA, cA]
      apply RGW.on (i := 1) rfl
      · exact zG
      · intro γ u W hcur hd
        clear hd
        (try dsimp only)
        exact ⟨rfl, zS⟩
      · exact zC
      · rfl
      dsimp only [nA, cA]
      apply RGW.on (i := 2) rfl
      · exact zG
      · intro γ u W hcur hd
        clear hd
        (try dsimp only)
        exact ⟨rfl, zS⟩
      · exact zC
      · rfl
      dsimp only [nA, cA]
      apply RGW.on (i := 3) rfl
      · exact zG
      · intro γ u W hcur hd
        obtain ⟨⟨h1, -, -⟩, ⟨h2, -, -⟩, -⟩ := hd
        dsimp only at h1 h2
        (try simp only [h1, h2])
        exact ⟨rfl, zS⟩
      · exact zC
      · rfl
      dsimp only [nA, cA]
      apply RGW.on (i := 4) rfl
      · exact zG
      · intro γ u W hcur hd
        obtain ⟨⟨h3, -, -⟩, -⟩ := hd
        dsimp only at h3
        (try simp only [h3])
        exact ⟨rfl, zS⟩
      · exact zC
      · rfl
      dsimp only [nA, cA]
      apply RGW.on (i := 5) rfl
      · exact zG
      · intro γ u W hcur hd
        clear hd
        (try dsimp only)
        exact ⟨rfl, zS⟩
      · exact zC
      · rfl
      dsimp only [nA, cA]
      apply RGW.call (i := 6) rfl
      · exact zG
      · intro γ u W hcur hd
        obtain ⟨⟨h0, -, -⟩, ⟨h4, -, -⟩, ⟨h5, -, -⟩, -⟩ := hd
        dsimp only at h0 h4 h5
        (try simp only [h0, h4, h5])
        refine ⟨rfl, fun K hK => ?_⟩
        go_simp
        (go_at_call 102; (with_reducible refine (hca.out _ (by (exact zE))).mono ?_); rintro e w3 ⟨rfl, hb3⟩; replace hb3 := bl_tt hb3)
        (try dsimp only)
        exact hK.out _ _ rfl (by (exact zE))
      · exact zC
      · rfl
      dsimp only [nA, cA]
      refine RGW.fin (fun γ u wj hwj hd hdis => ?_)
      obtain ⟨⟨h0, -, -⟩, ⟨h1, -, -⟩, ⟨h2, -, -⟩, ⟨h3, -, -⟩, ⟨h4, -, -⟩, ⟨h5, -, -⟩, ⟨h6, -, -⟩, -⟩ := hd
      dsimp only at h0 h1 h2 h3 h4 h5 h6
      clear hdis
      simp only [h0, h1, h2, h3, h4, h5, h6]
      clear h6 h5 h4 h3 h2 h1 h0
      clear u
      simp only [List.map_nil]
      refine PlanW.done ?_
      have hb3 := bl_tt hwj
      have hown' := Lib.hid (own_below hown.out hwj)
      have hbj := bl_tr hb hwj
      have hbw := bl_tr hwr hwj
      have hszj := hbj.size
      clear hown
      cases B
      · have hm2 := Lib.hid (pickL_miss hfk.out)
        go_wp2
        go_roundw
        case rel => exact ⟨k + 1, by omega, by go_num, hbj, by rw [hm2.out]; exact hown'.out⟩
        case measure => simp [intOf]; omega
      · have hm2 := Lib.hid (pickL_hit hfk.out)
        go_wp2_with (at_builtin; refine wpList_append_own _ rfl _ _ 78 rfl wa.heap.size 3 i0 (.int .i64 0) 1 8 Tryz.underlying78 hi0 hz0 hz1 hz2 rfl (by decide) _ _ _ rfl (hown'.out.alloc _) ⟨wj.heap.size, 0, none⟩ 1 1 [.int .i64 k] rfl rfl ?c1 ?c2 ?c3 ?c4 ?c5 ?_)
        case c1 =>
          intro j u hj
          match j, hj with
          | 0, hj => simp at hj; subst hj; simp [Addr.add]
        case c2 => intro u hu; simp at hu; subst hu; rfl
        case c3 => unfold maxLen; omega
        case c4 => omega
        case c5 => simp; omega
        intro v' w1 hown2 hgrow _
        have hb1 : Below wa.heap.size wa w1 := (bl_al _ hbj).grown hgrow (by simp; omega) (own_ge hown'.out)
        clear hgrow hown'
        replace hown2 := Lib.hid hown2
        go_wp2
        go_roundw
        case rel => exact ⟨k + 1, by omega, by go_num, hb1, by rw [hm2.out]; simpa using hown2.out⟩
        case measure => simp [intOf]; omega
    · go_wp2
      go_ret
      have : k = n := by omega
      subst this
      exact RetI.of (bl_tr hb0 hb) (own_mono hb0.size hown)
end Go.Proofs.YtephimmamkafoaaGreat
namespace Go.Proofs.YtephimmamkafoaaGreat
open Go.RowKit Go.Shelf
attribute [local go_sem] bl_al bl_drew bl_drewN bl_refl bx_al bx_drew bx_drewN bx_refl index_b0 index_b1 index_b2
set_option maxRecDepth 20000
set_option maxHeartbeats 4000000 in
theorem r_around (a b : Bx) (w : World) : Calls Tryz.prog 99 #[vBx a, vBx b] w (Ret (vBx (a.join b)) w) := by
  go_enter Tryz.func99, Tryz.ntmps99
  go_wp2
  apply absB3 (w0 := w) (g0 := w.heap.size) (g1 := w.heap.size + 1) (g2 := w.heap.size + 2)
  iterate 4 (focus exact zL)
  try clear hb3
  try clear hb0
  try clear k0
  try clear k1
  try clear k2
  intro wa hb0 k0 k1 k2
  (try simp only [List.setIfInBounds_toArray, List.set_cons_zero, List.set_cons_succ] at k0 k1 k2)
  have Lk0 := k0.later
  have Fk0 := k0.laterF
  have Qk0 := k0.lt
  have Lk1 := k1.later
  have Fk1 := k1.laterF
  have Qk1 := k1.lt
  have Lk2 := k2.later
  have Fk2 := k2.laterF
  have Qk2 := k2.lt
  have hz := k2.lt
  refine wp_any (w0 := wa) ⟨[6, 7], [], [some 8, some 9, some 10, some 11, some 5, some 6, none, none], [[], [0], [], [0, 1, 2], [], [], [0, 1, 2, 3, 4, 5], [0, 1, 2, 3, 4, 5, 6]], [[], [0], [], [2], [], [], [], []]⟩ (fun γ => [(γ 4).n, (γ 5).n]) (by kernel_rfl) (by kernel_rfl) (by (exact zE)) (fun u => by simp only [putD, Act.put, List.setIfInBounds_toArray, List.set_cons_zero, List.set_cons_succ, Nat.zero_add, Nat.reduceAdd]; rfl) ?_
  apply RGW.on (i := 0) rfl
  · exact zG
  · intro γ u W hcur hd
    clear hd
    (try dsimp only)
    exact ⟨rfl, zS⟩
  · exact zC
  · rfl
  dsimp only [nA, cA]
  apply RGW.call (i := 1) rfl
  · exact zG
  · intro γ u W hcur hd
    obtain ⟨⟨h0, -, -⟩, -⟩ := hd
    dsimp only at h0
    (try simp only [h0])
    refine ⟨rfl, fun K hK => ?_⟩
    go_simp
    (go_at_call 77; (with_reducible refine (r_Sides a _).mono ?_); rintro e w3 ⟨rfl, hb3⟩; replace hb3 := bl_tt hb3)
    (try dsimp only)
    exact hK.out _ _ rfl (by (exact zE))
  · exact zC
  · rfl
  dsimp only [nA, cA]
  apply RGW.on (i := 2) rfl
  · exact zG
  · intro γ u W hcur hd
    clear hd
    (try dsimp only)
    exact ⟨rfl, zS⟩
  · exact zC
  · rfl
  dsimp only [nA, cA]
  apply RGW.call (i := 3) rfl
  · exact zG
  · intro γ u W hcur hd
    obtain ⟨⟨h2, -, -⟩, -⟩ := hd
    dsimp only at h2
    (try simp only [h2])
    refine ⟨rfl, fun K hK => ?_⟩
    go_simp
    (go_at_call 77; (with_reducible refine (r_Sides b _).mono ?_); rintro e w3 ⟨rfl, hb3⟩; replace hb3 := bl_tt hb3)
    (try dsimp only)
    exact hK.out _ _ rfl (by (exact zE))
  · exact zC
  · rfl
  dsimp only [nA, cA]
  apply RGW.alloc (i := 4) rfl
  · exact zG
  · intro γ u W hcur hd
    clear hd
    (try dsimp only)
    refine ⟨rfl, fun K hK => ?_⟩
    go_simp
    exact hK.out _ _ rfl rfl
  · exact zC
  · rfl
  · rfl
  dsimp only [nA, cA]
  apply RGW.alloc (i := 5) rfl
  · exact zG
  · intro γ u W hcur hd
    clear hd
    (try dsimp only)
    refine ⟨rfl, fun K hK => ?_⟩
    go_simp
    exact hK.out _ _ rfl rfl
  · exact zC
  · rfl
  · rfl
  dsimp only [nA, cA]
  refine RGW.skip (i := 6) rfl rfl ?_
  dsimp only [nA, cA]
  refine RGW.skip (i := 7) rfl rfl ?_
  dsimp only [nA, cA]
  refine RGW.fin (fun γ u wb hwb hd hdis => ?_)
  obtain ⟨⟨h0, -, -⟩, ⟨h1, -, -⟩, ⟨h2, -, -⟩, ⟨h3, -, -⟩, ⟨h4, r4, b4⟩, ⟨h5, r5, b5⟩, -⟩ := hd
  dsimp only at h0 h1 h2 h3 h4 h5 r4 r5 b4 b5
  have n4_5 := hdis 4 5 rfl rfl (Nat.lt_of_lt_of_eq (by decide : 4 < 8) (by kernel_rfl)) (Nat.lt_of_lt_of_eq (by decide : 5 < 8) (by kernel_rfl)) (by decide) _ (List.mem_singleton.2 rfl) _ (List.mem_singleton.2 rfl)
  clear hdis
  simp only [h0, h1, h2, h3, h4, h5]
  clear h5 h4 h3 h2 h1 h0
  replace b4 := b4 _ (List.mem_singleton.2 rfl)
  generalize hγ4 : (γ 4).n = g4 at *
  clear hγ4
  replace b5 := b5 _ (List.mem_singleton.2 rfl)
  generalize hγ5 : (γ 5).n = g5 at *
  clear hγ5
  clear u
  simp only [List.map_cons, List.map_nil]
  apply PlanW.step
  · exact zG
  · rfl
  intro K hK
  refine wp_store_keep (X := [g4, g5]) (w0 := wb) rfl rfl rfl (by with_reducible first | exact bx_refl _ _ | assumption) (by with_reducible first | assumption | (apply Blk.below (hb := hwb); assumption)) (by simp) (by kernel_rfl) (by rfl) (by simp [Value.oneCell']) (fun hres1 hcur => ?_)
  refine hK.out _ _ hcur (fun _ => ?_)
  clear hK K
  try simp only [Act.put, List.setIfInBounds_toArray, List.set_cons_zero, List.set_cons_succ]
  apply PlanW.step
  · exact zG
  · rfl
  intro K hK
  refine wp_store_keep (X := [g4, g5]) (w0 := wb) rfl rfl rfl (by with_reducible first | exact bx_refl _ _ | assumption) (by with_reducible first | assumption | (apply Blk.below (hb := hwb); assumption)) (by simp) (by kernel_rfl) (by rfl) (by simp [Value.oneCell']) (fun hres2 hcur => ?_)
  refine hK.out _ _ hcur (fun _ => ?_)
  clear hK K
  try simp only [Act.put, List.setIfInBounds_toArray, List.set_cons_zero, List.set_cons_succ]
  refine PlanW.done ?_
  have hb3 := bl_tt hwb
  apply absTB5 (w0 := w) (g0 := w.heap.size) (g1 := w.heap.size + 1) (g2 := w.heap.size + 2) (g3 := g4) (g4 := g5)
  iterate 6 (focus exact zL)
  try clear hb3
  try clear Lk0
  try clear Fk0
  try clear Qk0
  try clear Lk1
  try clear Fk1
  try clear Qk1
  try clear Lk2
  try clear Fk2
  try clear Qk2
  try clear hb0
  try clear k0
  try clear k1
  try clear k2
  try clear k5
  try clear k6
  intro wc hb0 k0 k1 k2 k5 k6
  (try simp only [List.setIfInBounds_toArray, List.set_cons_zero, List.set_cons_succ] at k0 k1 k2 k5 k6)
  have Lk0 := k0.later
  have Fk0 := k0.laterF
  have Qk0 := k0.lt
  have Lk1 := k1.later
  have Fk1 := k1.laterF
  have Qk1 := k1.lt
  have Lk2 := k2.later
  have Fk2 := k2.laterF
  have Qk2 := k2.lt
  have Lk5 := k5.later
  have Fk5 := k5.laterF
  have Qk5 := k5.lt
  have Lk6 := k6.later
  have Fk6 := k6.laterF
  have Qk6 := k6.lt
  have n50 : g4 ≠ w.heap.size + 2 := by omega
  have n60 : g5 ≠ w.heap.size + 2 := by omega
  go_wp2
  refine wp_loop_rounds 4 ?_
  rw [rounds_succ]
  go_wp2
  refine wp_any (w0 := wc) ⟨[21], [], [some 16, some 17, some 18, some 19, some 20, some 21, some 22, some 23, some 24, some 25, some 26, some 27, some 28, some 29, some 30, some 31, some 32, some 33, some 34, some 35, some 36, none], [[], [], [1], [1, 2], [1, 2, 3], [], [5], [5, 6], [5, 6, 7], [1, 2, 3, 4, 5, 6, 7, 8], [], [10], [10, 11], [10, 11, 12], [], [14], [14, 15], [14, 15, 16], [10, 11, 12, 13, 14, 15, 16, 17], [1, 2, 3, 4, 5, 6, 7, 8, 9, 10, 11, 12, 13, 14, 15, 16, 17, 18], [0, 1, 2, 3, 4, 5, 6, 7, 8, 9, 10, 11, 12, 13, 14, 15, 16, 17, 18, 19], [0, 1, 2, 3, 4, 5, 6, 7, 8, 9, 10, 11, 12, 13, 14, 15, 16, 17, 18, 19, 20]], [[], [], [1], [2], [3], [], [5], [6], [7], [4, 8], [], [10], [11], [12], [], [14], [15], [16], [13, 17], [9, 18], [0], []]⟩ (fun _ => [g4]) (by kernel_rfl) (by kernel_rfl) (by (exact zE)) (fun u => by simp only [putD, Act.put, List.setIfInBounds_toArray, List.set_cons_zero, List.set_cons_succ, Nat.zero_add, Nat.reduceAdd]; rfl) ?_
  apply RGW.on (i := 0) rfl
  · exact zG
  · intro γ u W hcur hd
    clear hd
    (try dsimp only)
    exact ⟨rfl, zS⟩
  · exact zC
  · rfl
  dsimp only [nA, cA]
  apply RGW.on (i := 1) rfl
  · exact zG
  · intro γ u W hcur hd
    clear hd
    (try dsimp only)
    exact ⟨rfl, zS⟩
  · exact zC
  · rfl
  dsimp only [nA, cA]
  apply RGW.on (i := 2) rfl
  · exact zG
  · intro γ u W hcur hd
    obtain ⟨⟨h1, -, -⟩, -⟩ := hd
    dsimp only at h1
    (try simp only [h1])
    exact ⟨rfl, zS⟩
  · exact zC
  · rfl
  dsimp only [nA, cA]
  apply RGW.on (i := 3) rfl
  · exact zG
  · intro γ u W hcur hd
    obtain ⟨⟨h2, -, -⟩, -⟩ := hd
    dsimp only at h2
    (try simp only [h2])
    exact ⟨rfl, zS⟩
  · exact zC
  · rfl
  dsimp only [nA, cA]
  apply RGW.on (i := 4) rfl
  · exact zG
  · intro γ u W hcur hd
    obtain ⟨⟨h3, -, -⟩, -⟩ := hd
    dsimp only at h3
    (try simp only [h3])
    exact ⟨rfl, zS⟩
  · exact zC
  · rfl
  dsimp only [nA, cA]
  apply RGW.on (i := 5) rfl
  · exact zG
  · intro γ u W hcur hd
    clear hd
    (try dsimp only)
    exact ⟨rfl, zS⟩
  · exact zC
  · rfl
  dsimp only [nA, cA]
  apply RGW.on (i := 6) rfl
  · exact zG
  · intro γ u W hcur hd
    obtain ⟨⟨h5, -, -⟩, -⟩ := hd
    dsimp only at h5
    (try simp only [h5])
    exact ⟨rfl, zS⟩
  · exact zC
  · rfl
  dsimp only [nA, cA]
  apply RGW.on (i := 7) rfl
  · exact zG
  · intro γ u W hcur hd
    obtain ⟨⟨h6, -, -⟩, -⟩ := hd
    dsimp only at h6
    (try simp only [h6])
    exact ⟨rfl, zS⟩
  · exact zC
  · rfl
  dsimp only [nA, cA]
  apply RGW.on (i := 8) rfl
  · exact zG
  · intro γ u W hcur hd
    obtain ⟨⟨h7, -, -⟩, -⟩ := hd
    dsimp only at h7
    (try simp only [h7])
    exact ⟨rfl, zS⟩
  · exact zC
  · rfl
  dsimp only [nA, cA]
  apply RGW.on (i := 9) rfl
  · exact zG
  · intro γ u W hcur hd
    obtain ⟨⟨h4, -, -⟩, ⟨h8, -, -⟩, -⟩ := hd
    dsimp only at h4 h8
    (try simp only [h4, h8])
    exact ⟨rfl, zS⟩
  · exact zC
  · rfl
  dsimp only [nA, cA]
  apply RGW.on (i := 10) rfl
  · exact zG
  · intro γ u W hcur hd
    clear hd
    (try dsimp only)
    exact ⟨rfl, zS⟩
  · exact zC
  · rfl
  dsimp only [nA, cA]
  apply RGW.on (i := 11) rfl
  · exact zG
  · intro γ u W hcur hd
    obtain ⟨⟨h10, -, -⟩, -⟩ := hd
    dsimp only at h10
    (try simp only [h10])
    exact ⟨rfl, zS⟩
  · exact zC
  · rfl
  dsimp only [nA, cA]
  apply RGW.on (i := 12) rfl
  · exact zG
  · intro γ u W hcur hd
    obtain ⟨⟨h11, -, -⟩, -⟩ := hd
    dsimp only at h11
    (try simp only [h11])
    exact ⟨rfl, zS⟩
  · exact zC
  · rfl
  dsimp only [nA, cA]
  apply RGW.on (i := 13) rfl
  · exact zG
  · intro γ u W hcur hd
    obtain ⟨⟨h12, -, -⟩, -⟩ := hd
    dsimp only at h12
    (try simp only [h12])
    exact ⟨rfl, zS⟩
  · exact zC
  · rfl
  dsimp only [nA, cA]
  apply RGW.on (i := 14) rfl
  · exact zG
  · intro γ u W hcur hd
    clear hd
    (try dsimp only)
    exact ⟨rfl, zS⟩
  · exact zC
  · rfl
  dsimp only [nA, cA]
  apply RGW.on (i := 15) rfl
  · exact zG
  · intro γ u W hcur hd
    obtain ⟨⟨h14, -, -⟩, -⟩ := hd
    dsimp only at h14
    (try simp only [h14])
    exact ⟨rfl, zS⟩
  · exact zC
  · rfl
  dsimp only [nA, cA]
  apply RGW.on (i := 16) rfl
  · exact zG
  · intro γ u W hcur hd
    obtain ⟨⟨h15, -, -⟩, -⟩ := hd
    dsimp only at h15
    (try simp only [h15])
    exact ⟨rfl, zS⟩
  · exact zC
  · rfl
  dsimp only [nA, cA]
  apply RGW.on (i := 17) rfl
  · exact zG
  · intro γ u W hcur hd
    obtain ⟨⟨h16, -, -⟩, -⟩ := hd
    dsimp only at h16
    (try simp only [h16])
    exact ⟨rfl, zS⟩
  · exact zC
  · rfl
  dsimp only [nA, cA]
  apply RGW.on (i := 18) rfl
  · exact zG
  · intro γ u W hcur hd
    obtain ⟨⟨h13, -, -⟩, ⟨h17, -, -⟩, -⟩ := hd
    dsimp only at h13 h17
    (try simp only [h13, h17])
    exact ⟨rfl, zS⟩
  · exact zC
  · rfl
  dsimp only [nA, cA]
  apply RGW.on (i := 19) rfl
  · exact zG
  · intro γ u W hcur hd
    obtain ⟨⟨h9, -, -⟩, ⟨h18, -, -⟩, -⟩ := hd
    dsimp only at h9 h18
    (try simp only [h9, h18])
    exact ⟨rfl, zS⟩
  · exact zC
  · rfl
  dsimp only [nA, cA]
  apply RGW.on (i := 20) rfl
  · exact zG
  · intro γ u W hcur hd
    obtain ⟨⟨h0, -, -⟩, -⟩ := hd
    dsimp only at h0
    (try simp only [h0])
    exact ⟨rfl, zS⟩
  · exact zC
  · rfl
  dsimp only [nA, cA]
  refine RGW.skip (i := 21) rfl rfl ?_
  dsimp only [nA, cA]
  refine RGW.fin (fun γ u wd hwd hd hdis => ?_)
  obtain ⟨⟨h0, -, -⟩, ⟨h1, -, -⟩, ⟨h2, -, -⟩, ⟨h3, -, -⟩, ⟨h4, -, -⟩, ⟨h5, -, -⟩, ⟨h6, -, -⟩, ⟨h7, -, -⟩, ⟨h8, -, -⟩, ⟨h9, -, -⟩, ⟨h10, -, -⟩, ⟨h11, -, -⟩, ⟨h12, -, -⟩, ⟨h13, -, -⟩, ⟨h14, -, -⟩, ⟨h15, -, -⟩, ⟨h16, -, -⟩, ⟨h17, -, -⟩, ⟨h18, -, -⟩, ⟨h19, -, -⟩, ⟨h20, -, -⟩, -⟩ := hd
  dsimp only at h0 h1 h2 h3 h4 h5 h6 h7 h8 h9 h10 h11 h12 h13 h14 h15 h16 h17 h18 h19 h20
  clear hdis
  simp only [h0, h1, h2, h3, h4, h5, h6, h7, h8, h9, h10, h11, h12, h13, h14, h15, h16, h17, h18, h19, h20]
  clear h20 h19 h18 h17 h16 h15 h14 h13 h12 h11 h10 h9 h8 h7 h6 h5 h4 h3 h2 h1 h0
  clear u
  simp only [List.map_cons, List.map_nil]
  apply PlanW.step
  · exact zG
  · rfl
  intro K hK
  go_simp
  refine hK.out _ _ (by (exact zX)) (fun hcur => ?_)
  clear hK K
  try simp only [Act.put, List.setIfInBounds_toArray, List.set_cons_zero, List.set_cons_succ]
  refine PlanW.done ?_
  have hb3 := bl_tt hwd
  go_wp2
  apply absRB5 (w0 := w) (g0 := w.heap.size) (g1 := w.heap.size + 1) (g2 := w.heap.size + 2) (g3 := g4) (g4 := g5)
  iterate 6 (focus exact zL)
  try clear hb3
  try clear Lk0
  try clear Fk0
  try clear Qk0
  try clear Lk1
  try clear Fk1
  try clear Qk1
  try clear Lk2
  try clear Fk2
  try clear Qk2
  try clear Lk5
  try clear Fk5
  try clear Qk5
  try clear Lk6
  try clear Fk6
  try clear Qk6
  try clear hb0
  try clear k0
  try clear k1
  try clear k2
  try clear k5
  try clear k6
  intro wc hb0 k0 k1 k2 k5 k6
  (try simp only [List.setIfInBounds_toArray, List.set_cons_zero, List.set_cons_succ] at k0 k1 k2 k5 k6)
  have Lk0 := k0.later
  have Fk0 := k0.laterF
  have Qk0 := k0.lt
  have Lk1 := k1.later
  have Fk1 := k1.laterF
  have Qk1 := k1.lt
  have Lk2 := k2.later
  have Fk2 := k2.laterF
  have Qk2 := k2.lt
  have Lk5 := k5.later
  have Fk5 := k5.laterF
  have Qk5 := k5.lt
  have Lk6 := k6.later
  have Fk6 := k6.laterF
  have Qk6 := k6.lt
  rw [rounds_succ]
  go_wp2
  refine wp_any (w0 := wc) ⟨[21], [], [some 16, some 17, some 18, some 19, some 20, some 21, some 22, some 23, some 24, some 25, some 26, some 27, some 28, some 29, some 30, some 31, some 32, some 33, some 34, some 35, some 36, none], [[], [], [1], [1, 2], [1, 2, 3], [], [5], [5, 6], [5, 6, 7], [1, 2, 3, 4, 5, 6, 7, 8], [], [10], [10, 11], [10, 11, 12], [], [14], [14, 15], [14, 15, 16], [10, 11, 12, 13, 14, 15, 16, 17], [1, 2, 3, 4, 5, 6, 7, 8, 9, 10, 11, 12, 13, 14, 15, 16, 17, 18], [0, 1, 2, 3, 4, 5, 6, 7, 8, 9, 10, 11, 12, 13, 14, 15, 16, 17, 18, 19], [0, 1, 2, 3, 4, 5, 6, 7, 8, 9, 10, 11, 12, 13, 14, 15, 16, 17, 18, 19, 20]], [[], [], [1], [2], [3], [], [5], [6], [7], [4, 8], [], [10], [11], [12], [], [14], [15], [16], [13, 17], [9, 18], [0], []]⟩ (fun _ => [g4]) (by kernel_rfl) (by kernel_rfl) (by (exact zE)) (fun u => by simp only [putD, Act.put, List.setIfInBounds_toArray, List.set_cons_zero, List.set_cons_succ, Nat.zero_add, Nat.reduceAdd]; rfl) ?_
  apply RGW.on (i := 0) rfl
  · exact zG
  · intro γ u W hcur hd
    clear hd
    (try dsimp only)
    exact ⟨rfl, zS⟩
  · exact zC
  · rfl
  dsimp only [nA, cA]
  apply RGW.on (i := 1) rfl
  · exact zG
  · intro γ u W hcur hd
    clear hd
    (try dsimp only)
    exact ⟨rfl, zS⟩
  · exact zC
  · rfl
  dsimp only [nA, cA]
  apply RGW.on (i := 2) rfl
  · exact zG
  · intro γ u W hcur hd
    obtain ⟨⟨h1, -, -⟩, -⟩ := hd
    dsimp only at h1
    (try simp only [h1])
    exact ⟨rfl, zS⟩
  · exact zC
  · rfl
  dsimp only [nA, cA]
  apply RGW.on (i := 3) rfl
  · exact zG
  · intro γ u W hcur hd
    obtain ⟨⟨h2, -, -⟩, -⟩ := hd
    dsimp only at h2
    (try simp only [h2])
    exact ⟨rfl, zS⟩
  · exact zC
  · rfl
  dsimp only [nA, cA]
  apply RGW.on (i := 4) rfl
  · exact zG
  · intro γ u W hcur hd
    obtain ⟨⟨h3, -, -⟩, -⟩ := hd
    dsimp only at h3
    (try simp only [h3])
    exact ⟨rfl, zS⟩
  · exact zC
  · rfl
  dsimp only [nA, cA]
  apply RGW.on (i := 5) rfl
  · exact zG
  · intro γ u W hcur hd
    clear hd
    (try dsimp only)
    exact ⟨rfl, zS⟩
  · exact zC
  · rfl
  dsimp only [nA, cA]
  apply RGW.on (i := 6) rfl
  · exact zG
  · intro γ u W hcur hd
    obtain ⟨⟨h5, -, -⟩, -⟩ := hd
    dsimp only at h5
    (try simp only [h5])
    exact ⟨rfl, zS⟩
  · exact zC
  · rfl
  dsimp only [nA, cA]
  apply RGW.on (i := 7) rfl
  · exact zG
  · intro γ u W hcur hd
    obtain ⟨⟨h6, -, -⟩, -⟩ := hd
    dsimp only at h6
    (try simp only [h6])
    exact ⟨rfl, zS⟩
  · exact zC
  · rfl
  dsimp only [nA, cA]
  apply RGW.on (i := 8) rfl
  · exact zG
  · intro γ u W hcur hd
    obtain ⟨⟨h7, -, -⟩, -⟩ := hd
    dsimp only at h7
    (try simp only [h7])
    exact ⟨rfl, zS⟩
  · exact zC
  · rfl
  dsimp only [nA, cA]
  apply RGW.on (i := 9) rfl
  · exact zG
  · intro γ u W hcur hd
    obtain ⟨⟨h4, -, -⟩, ⟨h8, -, -⟩, -⟩ := hd
    dsimp only at h4 h8
    (try simp only [h4, h8])
    exact ⟨rfl, zS⟩
  · exact zC
  · rfl
  dsimp only [nA, cA]
  apply RGW.on (i := 10) rfl
  · exact zG
  · intro γ u W hcur hd
    clear hd
    (try dsimp only)
    exact ⟨rfl, zS⟩
  · exact zC
  · rfl
  dsimp only [nA, cA]
  apply RGW.on (i := 11) rfl
  · exact zG
  · intro γ u W hcur hd
    obtain ⟨⟨h10, -, -⟩, -⟩ := hd
    dsimp only at h10
    (try simp only [h10])
    exact ⟨rfl, zS⟩
  · exact zC
  · rfl
  dsimp only [nA, cA]
  apply RGW.on (i := 12) rfl
  · exact zG
  · intro γ u W hcur hd
    obtain ⟨⟨h11, -, -⟩, -⟩ := hd
    dsimp only at h11
    (try simp only [h11])
    exact ⟨rfl, zS⟩
  · exact zC
  · rfl
  dsimp only [nA, cA]
  apply RGW.on (i := 13) rfl
  · exact zG
  · intro γ u W hcur hd
    obtain ⟨⟨h12, -, -⟩, -⟩ := hd
    dsimp only at h12
    (try simp only [h12])
    exact ⟨rfl, zS⟩
  · exact zC
  · rfl
  dsimp only [nA, cA]
  apply RGW.on (i := 14) rfl
  · exact zG
  · intro γ u W hcur hd
    clear hd
    (try dsimp only)
    exact ⟨rfl, zS⟩
  · exact zC
  · rfl
  dsimp only [nA, cA]
  apply RGW.on (i := 15) rfl
  · exact zG
  · intro γ u W hcur hd
    obtain ⟨⟨h14, -, -⟩, -⟩ := hd
    dsimp only at h14
    (try simp only [h14])
    exact ⟨rfl, zS⟩
  · exact zC
  · rfl
  dsimp only [nA, cA]
  apply RGW.on (i := 16) rfl
  · exact zG
  · intro γ u W hcur hd
    obtain ⟨⟨h15, -, -⟩, -⟩ := hd
    dsimp only at h15
    (try simp only [h15])
    exact ⟨rfl, zS⟩
  · exact zC
  · rfl
  dsimp only [nA, cA]
  apply RGW.on (i := 17) rfl
  · exact zG
  · intro γ u W hcur hd
    obtain ⟨⟨h16, -, -⟩, -⟩ := hd
    dsimp only at h16
    (try simp only [h16])
    exact ⟨rfl, zS⟩
  · exact zC
  · rfl
  dsimp only [nA, cA]
  apply RGW.on (i := 18) rfl
  · exact zG
  · intro γ u W hcur hd
    obtain ⟨⟨h13, -, -⟩, ⟨h17, -, -⟩, -⟩ := hd
    dsimp only at h13 h17
    (try simp only [h13, h17])
    exact ⟨rfl, zS⟩
  · exact zC
  · rfl
  dsimp only [nA, cA]
  apply RGW.on (i := 19) rfl
  · exact zG
  · intro γ u W hcur hd
    obtain ⟨⟨h9, -, -⟩, ⟨h18, -, -⟩, -⟩ := hd
    dsimp only at h9 h18
    (try simp only [h9, h18])
    exact ⟨rfl, zS⟩
  · exact zC
  · rfl
  dsimp only [nA, cA]
  apply RGW.on (i := 20) rfl
  · exact zG
  · intro γ u W hcur hd
    obtain ⟨⟨h0, -, -⟩, -⟩ := hd
    dsimp only at h0
    (try simp only [h0])
    exact ⟨rfl, zS⟩
  · exact zC
  · rfl
  dsimp only [nA, cA]
  refine RGW.skip (i := 21) rfl rfl ?_
  dsimp only [nA, cA]
  refine RGW.fin (fun γ u wd hwd hd hdis => ?_)
  obtain ⟨⟨h0, -, -⟩, ⟨h1, -, -⟩, ⟨h2, -, -⟩, ⟨h3, -, -⟩, ⟨h4, -, -⟩, ⟨h5, -, -⟩, ⟨h6, -, -⟩, ⟨h7, -, -⟩, ⟨h8, -, -⟩, ⟨h9, -, -⟩, ⟨h10, -, -⟩, ⟨h11, -, -⟩, ⟨h12, -, -⟩, ⟨h13, -, -⟩, ⟨h14, -, -⟩, ⟨h15, -, -⟩, ⟨h16, -, -⟩, ⟨h17, -, -⟩, ⟨h18, -, -⟩, ⟨h19, -, -⟩, ⟨h20, -, -⟩, -⟩ := hd
  dsimp only at h0 h1 h2 h3 h4 h5 h6 h7 h8 h9 h10 h11 h12 h13 h14 h15 h16 h17 h18 h19 h20
  clear hdis
  simp only [h0, h1, h2, h3, h4, h5, h6, h7, h8, h9, h10, h11, h12, h13, h14, h15, h16, h17, h18, h19, h20]
  clear h20 h19 h18 h17 h16 h15 h14 h13 h12 h11 h10 h9 h8 h7 h6 h5 h4 h3 h2 h1 h0
  clear u
  simp only [List.map_cons, List.map_nil]
  apply PlanW.step
  · exact zG
  · rfl
  intro K hK
  go_simp
  refine hK.out _ _ (by (exact zX)) (fun hcur => ?_)
  clear hK K
  try simp only [Act.put, List.setIfInBounds_toArray, List.set_cons_zero, List.set_cons_succ]
  refine PlanW.done ?_
  have hb3 := bl_tt hwd
  go_wp2
  apply absRB5 (w0 := w) (g0 := w.heap.size) (g1 := w.heap.size + 1) (g2 := w.heap.size + 2) (g3 := g4) (g4 := g5)
  iterate 6 (focus exact zL)
  try clear hb3
  try clear Lk0
  try clear Fk0
  try clear Qk0
  try clear Lk1
  try clear Fk1
  try clear Qk1
  try clear Lk2
  try clear Fk2
  try clear Qk2
  try clear Lk5
  try clear Fk5
  try clear Qk5
  try clear Lk6
  try clear Fk6
  try clear Qk6
  try clear hb0
  try clear k0
  try clear k1
  try clear k2
  try clear k5
  try clear k6
  intro wc hb0 k0 k1 k2 k5 k6
  (try simp only [List.setIfInBounds_toArray, List.set_cons_zero, List.set_cons_succ] at k0 k1 k2 k5 k6)
  have Lk0 := k0.later
  have Fk0 := k0.laterF
  have Qk0 := k0.lt
  have Lk1 := k1.later
  have Fk1 := k1.laterF
  have Qk1 := k1.lt
  have Lk2 := k2.later
  have Fk2 := k2.laterF
  have Qk2 := k2.lt
  have Lk5 := k5.later
  have Fk5 := k5.laterF
  have Qk5 := k5.lt
  have Lk6 := k6.later
  have Fk6 := k6.laterF
  have Qk6 := k6.lt
  rw [rounds_succ]
  go_wp2
  refine wp_any (w0 := wc) ⟨[21], [], [some 16, some 17, some 18, some 19, some 20, some 21, some 22, some 23, some 24, some 25, some 26, some 27, some 28, some 29, some 30, some 31, some 32, some 33, some 34, some 35, some 36, none], [[], [], [1], [1, 2], [1, 2, 3], [], [5], [5, 6], [5, 6, 7], [1, 2, 3, 4, 5, 6, 7, 8], [], [10], [10, 11], [10, 11, 12], [], [14], [14, 15], [14, 15, 16], [10, 11, 12, 13, 14, 15, 16, 17], [1, 2, 3, 4, 5, 6, 7, 8, 9, 10, 11, 12, 13, 14, 15, 16, 17, 18], [0, 1, 2, 3, 4, 5, 6, 7, 8, 9, 10, 11, 12, 13, 14, 15, 16, 17, 18, 19], [0, 1, 2, 3, 4, 5, 6, 7, 8, 9, 10, 11, 12, 13, 14, 15, 16, 17, 18, 19, 20]], [[], [], [1], [2], [3], [], [5], [6], [7], [4, 8], [], [10], [11], [12], [], [14], [15], [16], [13, 17], [9, 18], [0], []]⟩ (fun _ => [g4]) (by kernel_rfl) (by kernel_rfl) (by (exact zE)) (fun u => by simp only [putD, Act.put, List.setIfInBounds_toArray, List.set_cons_zero, List.set_cons_succ, Nat.zero_add, Nat.reduceAdd]; rfl) ?_
  apply RGW.on (i := 0) rfl
  · exact zG
  · intro γ u W hcur hd
    clear hd
    (try dsimp only)
    exact ⟨rfl, zS⟩
  · exact zC
  · rfl
  dsimp only [nA, cA]
  apply RGW.on (i := 1) rfl
  · exact zG
  · intro γ u W hcur hd
    clear hd
    (try dsimp only)
    exact ⟨rfl, zS⟩
  · exact zC
  · rfl
  dsimp only [nA, cA]
  apply RGW.on (i := 2) rfl
  · exact zG
  · intro γ u W hcur hd
    obtain ⟨⟨h1, -, -⟩, -⟩ := hd
    dsimp only at h1
    (try simp only [h1])
    exact ⟨rfl, zS⟩
  · exact zC
  · rfl
  dsimp only [nA, cA]
  apply RGW.on (i := 3) rfl
  · exact zG
  · intro γ u W hcur hd
    obtain ⟨⟨h2, -, -⟩, -⟩ := hd
    dsimp only at h2
    (try simp only [h2])
    exact ⟨rfl, zS⟩
  · exact zC
  · rfl
  dsimp only [nA, cA]
  apply RGW.on (i := 4) rfl
  · exact zG
  · intro γ u W hcur hd
    obtain ⟨⟨h3, -, -⟩, -⟩ := hd
    dsimp only at h3
    (try simp only [h3])
    exact ⟨rfl, zS⟩
  · exact zC
  · rfl
  dsimp only [nA, cA]
  apply RGW.on (i := 5) rfl
  · exact zG
  · intro γ u W hcur hd
    clear hd
    (try dsimp only)
    exact ⟨rfl, zS⟩
  · exact zC
  · rfl
  dsimp only [nA, cA]
  apply RGW.on (i := 6) rfl
  · exact zG
  · intro γ u W hcur hd
    obtain ⟨⟨h5, -, -⟩, -⟩ := hd
    dsimp only at h5
    (try simp only [h5])
    exact ⟨rfl, zS⟩
  · exact zC
  · rfl
  dsimp only [nA, cA]
  apply RGW.on (i := 7) rfl
  · exact zG
  · intro γ u W hcur hd
    obtain ⟨⟨h6, -, -⟩, -⟩ := hd
    dsimp only at h6
    (try simp only [h6])
    exact ⟨rfl, zS⟩
  · exact zC
  · rfl
  dsimp only [nA, cA]
  apply RGW.on (i := 8) rfl
  · exact zG
  · intro γ u W hcur hd
    obtain ⟨⟨h7, -, -⟩, -⟩ := hd
    dsimp only at h7
    (try simp only [h7])
    exact ⟨rfl, zS⟩
  · exact zC
  · rfl
  dsimp only [nA, cA]
  apply RGW.on (i := 9) rfl
  · exact zG
  · intro γ u W hcur hd
    obtain ⟨⟨h4, -, -⟩, ⟨h8, -, -⟩, -⟩ := hd
    dsimp only at h4 h8
    (try simp only [h4, h8])
    exact ⟨rfl, zS⟩
  · exact zC
  · rfl
  dsimp only [nA, cA]
  apply RGW.on (i := 10) rfl
  · exact zG
  · intro γ u W hcur hd
    clear hd
    (try dsimp only)
    exact ⟨rfl, zS⟩
  · exact zC
  · rfl
  dsimp only [nA, cA]
  apply RGW.on (i := 11) rfl
  · exact zG
  · intro γ u W hcur hd
    obtain ⟨⟨h10, -, -⟩, -⟩ := hd
    dsimp only at h10
    (try simp only [h10])
    exact ⟨rfl, zS⟩
  · exact zC
  · rfl
  dsimp only [nA, cA]
  apply RGW.on (i := 12) rfl
  · exact zG
  · intro γ u W hcur hd
    obtain ⟨⟨h11, -, -⟩, -⟩ := hd
    dsimp only at h11
    (try simp only [h11])
    exact ⟨rfl, zS⟩
  · exact zC
  · rfl
  dsimp only [nA, cA]
  apply RGW.on (i := 13) rfl
  · exact zG
  · intro γ u W hcur hd
    obtain ⟨⟨h12, -, -⟩, -⟩ := hd
    dsimp only at h12
    (try simp only [h12])
    exact ⟨rfl, zS⟩
  · exact zC
  · rfl
  dsimp only [nA, cA]
  apply RGW.on (i := 14) rfl
  · exact zG
  · intro γ u W hcur hd
    clear hd
    (try dsimp only)
    exact ⟨rfl, zS⟩
  · exact zC
  · rfl
  dsimp only [nA, cA]
  apply RGW.on (i := 15) rfl
  · exact zG
  · intro γ u W hcur hd
    obtain ⟨⟨h14, -, -⟩, -⟩ := hd
    dsimp only at h14
    (try simp only [h14])
    exact ⟨rfl, zS⟩
  · exact zC
  · rfl
  dsimp only [nA, cA]
  apply RGW.on (i := 16) rfl
  · exact zG
  · intro γ u W hcur hd
    obtain ⟨⟨h15, -, -⟩, -⟩ := hd
    dsimp only at h15
    (try simp only [h15])
    exact ⟨rfl, zS⟩
  · exact zC
  · rfl
  dsimp only [nA, cA]
  apply RGW.on (i := 17) rfl
  · exact zG
  · intro γ u W hcur hd
    obtain ⟨⟨h16, -, -⟩, -⟩ := hd
    dsimp only at h16
    (try simp only [h16])
    exact ⟨rfl, zS⟩
  · exact zC
  · rfl
  dsimp only [nA, cA]
  apply RGW.on (i := 18) rfl
  · exact zG
  · intro γ u W hcur hd
    obtain ⟨⟨h13, -, -⟩, ⟨h17, -, -⟩, -⟩ := hd
    dsimp only at h13 h17
    (try simp only [h13, h17])
    exact ⟨rfl, zS⟩
  · exact zC
  · rfl
  dsimp only [nA, cA]
  apply RGW.on (i := 19) rfl
  · exact zG
  · intro γ u W hcur hd
    obtain ⟨⟨h9, -, -⟩, ⟨h18, -, -⟩, -⟩ := hd
    dsimp only at h9 h18
    (try simp only [h9, h18])
    exact ⟨rfl, zS⟩
  · exact zC
  · rfl
  dsimp only [nA, cA]
  apply RGW.on (i := 20) rfl
  · exact zG
  · intro γ u W hcur hd
    obtain ⟨⟨h0, -, -⟩, -⟩ := hd
    dsimp only at h0
    (try simp only [h0])
    exact ⟨rfl, zS⟩
  · exact zC
  · rfl
  dsimp only [nA, cA]
  refine RGW.skip (i := 21) rfl rfl ?_
  dsimp only [nA, cA]
  refine RGW.fin (fun γ u wd hwd hd hdis => ?_)
  obtain ⟨⟨h0, -, -⟩, ⟨h1, -, -⟩, ⟨h2, -, -⟩, ⟨h3, -, -⟩, ⟨h4, -, -⟩, ⟨h5, -, -⟩, ⟨h6, -, -⟩, ⟨h7, -, -⟩, ⟨h8, -, -⟩, ⟨h9, -, -⟩, ⟨h10, -, -⟩, ⟨h11, -, -⟩, ⟨h12, -, -⟩, ⟨h13, -, -⟩, ⟨h14, -, -⟩, ⟨h15, -, -⟩, ⟨h16, -, -⟩, ⟨h17, -, -⟩, ⟨h18, -, -⟩, ⟨h19, -, -⟩, ⟨h20, -, -⟩, -⟩ := hd
  dsimp only at h0 h1 h2 h3 h4 h5 h6 h7 h8 h9 h10 h11 h12 h13 h14 h15 h16 h17 h18 h19 h20
  clear hdis
  simp only [h0, h1, h2, h3, h4, h5, h6, h7, h8, h9, h10, h11, h12, h13, h14, h15, h16, h17, h18, h19, h20]
  clear h20 h19 h18 h17 h16 h15 h14 h13 h12 h11 h10 h9 h8 h7 h6 h5 h4 h3 h2 h1 h0
  clear u
  simp only [List.map_cons, List.map_nil]
  apply PlanW.step
  · exact zG
  · rfl
  intro K hK
  go_simp
  refine hK.out _ _ (by (exact zX)) (fun hcur => ?_)
  clear hK K
  try simp only [Act.put, List.setIfInBounds_toArray, List.set_cons_zero, List.set_cons_succ]
  refine PlanW.done ?_
  have hb3 := bl_tt hwd
  go_wp2
  apply absRB5 (w0 := w) (g0 := w.heap.size) (g1 := w.heap.size + 1) (g2 := w.heap.size + 2) (g3 := g4) (g4 := g5)
  iterate 6 (focus exact zL)
  try clear hb3
  try clear Lk0
  try clear Fk0
  try clear Qk0
  try clear Lk1
  try clear Fk1
  try clear Qk1
  try clear Lk2
  try clear Fk2
  try clear Qk2
  try clear Lk5
  try clear Fk5
  try clear Qk5
  try clear Lk6
  try clear Fk6
  try clear Qk6
  try clear hb0
  try clear k0
  try clear k1
  try clear k2
  try clear k5
  try clear k6
  intro wc hb0 k0 k1 k2 k5 k6
  (try simp only [List.setIfInBounds_toArray, List.set_cons_zero, List.set_cons_succ] at k0 k1 k2 k5 k6)
  have Lk0 := k0.later
  have Fk0 := k0.laterF
  have Qk0 := k0.lt
  have Lk1 := k1.later
  have Fk1 := k1.laterF
  have Qk1 := k1.lt
  have Lk2 := k2.later
  have Fk2 := k2.laterF
  have Qk2 := k2.lt
  have Lk5 := k5.later
  have Fk5 := k5.laterF
  have Qk5 := k5.lt
  have Lk6 := k6.later
  have Fk6 := k6.laterF
  have Qk6 := k6.lt
  rw [rounds_succ]
  go_wp2_with ((go_at_call 80; (with_reducible refine (r_box ⟨⟨min a.x.lo b.x.lo, max a.x.hi b.x.hi⟩, ⟨min a.y.lo b.y.lo, max a.y.hi b.y.hi⟩, ⟨min a.z.lo b.z.lo, max a.z.hi b.z.hi⟩⟩ _).mono ?_); rintro e w3 ⟨rfl, hb3⟩; replace hb3 := bl_tt hb3))
  apply absPB3 (w0 := w) (g0 := w.heap.size) (g1 := w.heap.size + 1) (g2 := w.heap.size + 2)
  iterate 4 (focus exact zL)
  try clear hb3
  try clear Lk0
  try clear Fk0
  try clear Qk0
  try clear Lk1
  try clear Fk1
  try clear Qk1
  try clear Lk2
  try clear Fk2
  try clear Qk2
  try clear Lk5
  try clear Fk5
  try clear Qk5
  try clear Lk6
  try clear Fk6
  try clear Qk6
  try clear hb0
  try clear k0
  try clear k1
  try clear k2
  intro wf hb0 k0 k1 k2
  (try simp only [List.setIfInBounds_toArray, List.set_cons_zero, List.set_cons_succ] at k0 k1 k2)
  have hr := k2.cell
  refine bodyPost_ret (v := vBx (a.join b)) (by simp [results, Tryz.results99, go_sem, hr, Bx.join, Rg.join]) rfl ⟨rfl, hb0⟩
end Go.Proofs.YtephimmamkafoaaGreat
namespace Go.Proofs.YtephimmamkafoaaGreat
open Go.RowKit Go.Shelf
attribute [local go_sem] bl_al bl_drew bl_drewN bl_refl bx_al bx_drew bx_drewN bx_refl
set_option maxRecDepth 20000
theorem Blk.conv {w : World} {g : Nat} {t : TypeId} {cs cs' : Array Value} (h : Blk w g t cs) (e : cs = cs') : Blk w g t cs' := e ▸ h
set_option maxHeartbeats 8000000 in
theorem r_Voted0 (wd b : Bx) (nb n : Nat) (A A' : Option Addr) (c c' : Nat) (k : Int) (g : Pl → List Int) (ok : Pl → Bool) (w : World)
    (hag : Hid (∀ W, Below w.heap.size w W → ∀ p : Pl, p.in 10000 → Calls Tryz.prog 79 #[vNt wd (.slice A nb c), .slice A' n c', vPl p] W (RetI (g p) W)))
    (hgl : Hid (∀ p, (g p).length ≤ 1000)) (hk1 : 0 ≤ k) (hk2 : k ≤ 1000) (hok : Hid (∀ p, ok p = !decide (((g p).length : Int) + k < (n : Int)))) (hin : Hid (∀ p, p ∈ b.pts → p.in 10000)) (hpl : b.pts.length ≤ 20000) (hb : b.in 10000) :
    Calls Tryz.prog 62 #[vNt wd (.slice A nb c), vBx b, .slice A' n c', .int .i64 k] w
      (Ret (.tuple #[vBx (votesOf ok b.pts).1, .int .i64 (votesOf ok b.pts).2]) w) := by
  obtain ⟨⟨hx1, hx2, hx3, hx4⟩, ⟨hy1, hy2, hy3, hy4⟩, ⟨hz1, hz2, hz3, hz4⟩⟩ := hb
  go_enter Tryz.func62, Tryz.ntmps62
  go_wp2
  apply absB4 (w0 := w) (g0 := w.heap.size) (g1 := w.heap.size + 1) (g2 := w.heap.size + 2) (g3 := w.heap.size + 3)
  iterate 5 (focus exact zL)
  try clear hb3
  try clear hb0
  try clear k0
  try clear k1
  try clear k3
  try clear k4
  intro wa hb0 k0 k1 k3 k4
  (try simp only [List.setIfInBounds_toArray, List.set_cons_zero, List.set_cons_succ] at k0 k1 k3 k4)
  go_loopw [11, 12] (fun cn i wr => ∃ (x : Int) (pre : List Pl), i = .int .i64 x ∧ cn = .int .i64 (votesOf ok pre).2 ∧ b.x.lo ≤ x ∧ x ≤ 10001 ∧ pre ++ R1 b x = b.pts ∧ Below w.heap.size w wr ∧
    Blk wr w.heap.size 28 (aNt wd (.slice A nb c)) ∧ Blk wr (w.heap.size + 1) 25 (aBx b) ∧ Blk wr (w.heap.size + 2) 25 z6 ∧ Blk wr (w.heap.size + 3) 25 (aBx (votesOf ok pre).1)) (fun _ i _ => (b.x.hi + 1 - intOf i).toNat)
  case atStart => exact ⟨b.x.lo, [], rfl, rfl, Int.le_refl _, by omega, rfl, hb0, k0, k1, k3, k4⟩
  case round =>
    clear k0 k1 k3 k4 hb0
    obtain ⟨x, pre, rfl, rfl, hlx, hxb, hpre, hb0, k0, k1, k3, k4⟩ := hrel
    replace hpre := Lib.hid hpre
    have L1 := k1.cell
    by_cases hx : x ≤ b.x.hi
    · go_wp2
      go_loopw [11, 13] (fun cn i wr => ∃ (y : Int) (pre : List Pl), i = .int .i64 y ∧ cn = .int .i64 (votesOf ok pre).2 ∧ b.y.lo ≤ y ∧ y ≤ 10001 ∧ pre ++ (R2 b x y ++ R1 b (x + 1)) = b.pts ∧ Below w.heap.size w wr ∧
        Blk wr w.heap.size 28 (aNt wd (.slice A nb c)) ∧ Blk wr (w.heap.size + 1) 25 (aBx b) ∧ Blk wr (w.heap.size + 2) 25 z6 ∧ Blk wr (w.heap.size + 3) 25 (aBx (votesOf ok pre).1)) (fun _ i _ => (b.y.hi + 1 - intOf i).toNat)
      case atStart => exact ⟨b.y.lo, pre, rfl, rfl, Int.le_refl _, by omega, by rw [← hpre.out, R1_step hx], hb0, k0, k1, k3, k4⟩
      case round =>
        clear k0 k1 k3 k4 hb0 L1 hpre
        obtain ⟨y, pre, rfl, rfl, hly, hyb, hpre, hb0, k0, k1, k3, k4⟩ := hrel
        replace hpre := Lib.hid hpre
        have L1 := k1.cell
        by_cases hy : y ≤ b.y.hi
        · go_wp2
          go_loopw [11, 14] (fun cn i wr => ∃ (z : Int) (pre : List Pl), i = .int .i64 z ∧ cn = .int .i64 (votesOf ok pre).2 ∧ b.z.lo ≤ z ∧ z ≤ 10001 ∧ pre ++ (R3 b x y z ++ (R2 b x (y + 1) ++ R1 b (x + 1))) = b.pts ∧ Below w.heap.size w wr ∧
            Blk wr w.heap.size 28 (aNt wd (.slice A nb c)) ∧ Blk wr (w.heap.size + 1) 25 (aBx b) ∧ Blk wr (w.heap.size + 2) 25 z6 ∧ Blk wr (w.heap.size + 3) 25 (aBx (votesOf ok pre).1)) (fun _ i _ => (b.z.hi + 1 - intOf i).toNat)
          case atStart => exact ⟨b.z.lo, pre, rfl, rfl, Int.le_refl _, by omega, by rw [← hpre.out, R2_step hy, List.append_assoc], hb0, k0, k1, k3, k4⟩
          case round =>
            clear k0 k1 k3 k4 hb0 L1 hpre
            obtain ⟨z, pre, rfl, rfl, hlz, hzb, hpre, hb0, k0, k1, k3, k4⟩ := hrel
            replace hpre := Lib.hid hpre
            by_cases hz : z ≤ b.z.hi
            · have hst := Lib.hid (votesOf_snoc ok pre ⟨x, y, z⟩)
              have hq : Hid (pre ++ [⟨x, y, z⟩] ++ (R3 b x y (z + 1) ++ (R2 b x (y + 1) ++ R1 b (x + 1))) = b.pts) := by refine Lib.hid ?_; rw [← hpre.out, R3_step hz]; simp
              have hpi := hin.out ⟨x, y, z⟩ (by rw [← hq.out]; simp)
              have hcnt : (votesOf ok pre).2 ≤ 20000 := by
                have h1 := votesOf_le ok pre
                have h2 : pre.length ≤ b.pts.length := by rw [← hpre.out]; simp
                omega
              have hcp := Lib.hid fun (W : World) (hb : Below w.heap.size w W) => hag.out W hb ⟨x, y, z⟩ hpi
              have hl := hgl.out ⟨x, y, z⟩
              have hsv := hok.out ⟨x, y, z⟩
              replace hpi := Lib.hid hpi
              rw [voteF, hsv] at hst
              generalize votesOf ok pre = s at *
              obtain ⟨o, m⟩ := s
              dsimp only at k4 hst hcnt
              generalize g ⟨x, y, z⟩ = G at *
              have Lk0 := k0.later
              have Fk0 := k0.laterF
              have Qk0 := k0.lt
              have Lk1 := k1.later
              have Fk1 := k1.laterF
              have Qk1 := k1.lt
              have Lk3 := k3.later
              have Fk3 := k3.laterF
              have Qk3 := k3.lt
              have Lk4 := k4.later
              have Fk4 := k4.laterF
              have Qk4 := k4.lt
              go_upto_region 13 with fail
              apply absB5 (w0 := w) (g0 := w.heap.size) (g1 := w.heap.size + 1) (g2 := w.heap.size + 2) (g3 := w.heap.size + 3) (g4 := wr.heap.size)
              iterate 6 (focus exact zL)
              try clear hb3
              try clear Lk0
              try clear Fk0
              try clear Qk0
              try clear Lk1
              try clear Fk1
              try clear Qk1
              try clear Lk3
              try clear Fk3
              try clear Qk3
              try clear Lk4
              try clear Fk4
              try clear Qk4
              try clear hb0
              try clear k0
              try clear k1
              try clear k3
              try clear k4
              try clear k5
              intro wb hb0 k0 k1 k3 k4 k5
              (try simp only [List.setIfInBounds_toArray, List.set_cons_zero, List.set_cons_succ] at k0 k1 k3 k4 k5)
              have Lk0 := k0.later
              have Fk0 := k0.laterF
              have Qk0 := k0.lt
              have Lk1 := k1.later
              have Fk1 := k1.laterF
              have Qk1 := k1.lt
              have Lk3 := k3.later
              have Fk3 := k3.laterF
              have Qk3 := k3.lt
              have Lk4 := k4.later
              have Fk4 := k4.laterF
              have Qk4 := k4.lt
              have Lk5 := k5.later
              have Fk5 := k5.laterF
              have Qk5 := k5.lt
              by_cases hsk : (G.length : Int) + k < (n : Int)
              · have hsk' : decide ((G.length : Int) + k < (n : Int)) = true := by simpa using hsk
                have hst' : Hid (votesOf ok (pre ++ [⟨x, y, z⟩]) = (o, m)) := by rw [hst.out, hsk']; exact Lib.hid rfl
                clear hst
                go_wp2_with (go_at_call 79; (with_reducible refine (hcp.out _ (bl_tr hb0 (by (exact zE)))).mono ?_); rintro e w3 ⟨Ax, cx, rfl, hb3, -⟩; replace hb3 := bl_tt hb3)
                go_roundw
                case rel => exact ⟨z + 1, pre ++ [⟨x, y, z⟩], by go_num, by rw [hst'.out], by omega, by omega, by rw [← hq.out], by (exact zE), by (exact zK), by (exact zK), by (exact zK), by rw [hst'.out]; (exact zK)⟩
                case measure => simp [intOf]; omega
              · have hsk' : decide ((G.length : Int) + k < (n : Int)) = false := by simpa using hsk
                have hst' : Hid (votesOf ok (pre ++ [⟨x, y, z⟩]) = (if m = 0 then (⟨x, y, z⟩ : Pl).one else o.join (⟨x, y, z⟩ : Pl).one, m + 1)) := by rw [hst.out, hsk']; exact Lib.hid rfl
                clear hst
                go_upto_region 14 with (go_at_call 79; (with_reducible refine (hcp.out _ (bl_tr hb0 (by (exact zE)))).mono ?_); rintro e w3 ⟨Ax, cx, rfl, hb3, -⟩; replace hb3 := bl_tt hb3)
                apply absB4 (w0 := w) (g0 := w.heap.size) (g1 := w.heap.size + 1) (g2 := w.heap.size + 2) (g3 := w.heap.size + 3)
                iterate 5 (focus exact zL)
                try clear hb3
                try clear hb0
                try clear k0
                try clear k1
                try clear k3
                try clear k4
                intro wy hb0 k0 k1 k3 k4
                (try simp only [List.setIfInBounds_toArray, List.set_cons_zero, List.set_cons_succ] at k0 k1 k3 k4)
                have Lk0 := k0.later
                have Fk0 := k0.laterF
                have Qk0 := k0.lt
                have Lk1 := k1.later
                have Fk1 := k1.laterF
                have Qk1 := k1.lt
                have Lk3 := k3.later
                have Fk3 := k3.laterF
                have Qk3 := k3.lt
                have Lk4 := k4.later
                have Fk4 := k4.laterF
                have Qk4 := k4.lt
                go_upto_region 15 with fail
                have hq4 := k4.lt
                apply absB5 (w0 := w) (g0 := w.heap.size) (g1 := w.heap.size + 1) (g2 := w.heap.size + 2) (g3 := w.heap.size + 3) (g4 := wy.heap.size)
                iterate 6 (focus exact zL)
                try clear hb3
                try clear Lk0
                try clear Fk0
                try clear Qk0
                try clear Lk1
                try clear Fk1
                try clear Qk1
                try clear Lk3
                try clear Fk3
                try clear Qk3
                try clear Lk4
                try clear Fk4
                try clear Qk4
                try clear hb0
                try clear k0
                try clear k1
                try clear k3
                try clear k4
                try clear k6
                intro wt hb0 k0 k1 k3 k4 k6
                (try simp only [List.setIfInBounds_toArray, List.set_cons_zero, List.set_cons_succ] at k0 k1 k3 k4 k6)
                have Lk0 := k0.later
                have Fk0 := k0.laterF
                have Qk0 := k0.lt
                have Lk1 := k1.later
                have Fk1 := k1.laterF
                have Qk1 := k1.lt
                have Lk3 := k3.later
                have Fk3 := k3.laterF
                have Qk3 := k3.lt
                have Lk4 := k4.later
                have Fk4 := k4.laterF
                have Qk4 := k4.lt
                have Lk6 := k6.later
                have Fk6 := k6.laterF
                have Qk6 := k6.lt
                by_cases hm0 : m = 0
                · subst hm0
                  go_wp2
                  go_roundw
                  case rel => exact ⟨z + 1, pre ++ [⟨x, y, z⟩], by go_num, by rw [hst'.out]; go_num, by omega, by omega, by rw [← hq.out], by (exact zE), by (exact zK), by (exact zK), by (exact zK), by rw [hst'.out]; refine Blk.conv (by (exact zK)) ?_; simp⟩
                  case measure => simp [intOf]; omega
                · have hm0' : decide (0 < (m : Int)) = true := by simp; omega
                  go_upto_region 17 with (go_at_call 99; (with_reducible refine (r_around o (⟨x, y, z⟩ : Pl).one _).mono ?_); rintro e w3 ⟨rfl, hb3⟩; replace hb3 := bl_tt hb3)
                  apply absB5 (w0 := w) (g0 := w.heap.size) (g1 := w.heap.size + 1) (g2 := w.heap.size + 2) (g3 := w.heap.size + 3) (g4 := wy.heap.size)
                  iterate 6 (focus exact zL)
                  try clear hb3
                  try clear Lk0
                  try clear Fk0
                  try clear Qk0
                  try clear Lk1
                  try clear Fk1
                  try clear Qk1
                  try clear Lk3
                  try clear Fk3
                  try clear Qk3
                  try clear Lk4
                  try clear Fk4
                  try clear Qk4
                  try clear Lk6
                  try clear Fk6
                  try clear Qk6
                  try clear hb0
                  try clear k0
                  try clear k1
                  try clear k3
                  try clear k4
                  try clear k6
                  intro wu hb0 k0 k1 k3 k4 k6
                  (try simp only [List.setIfInBounds_toArray, List.set_cons_zero, List.set_cons_succ] at k0 k1 k3 k4 k6)
                  have Lk0 := k0.later
                  have Fk0 := k0.laterF
                  have Qk0 := k0.lt
                  have Lk1 := k1.later
                  have Fk1 := k1.laterF
                  have Qk1 := k1.lt
                  have Lk3 := k3.later
                  have Fk3 := k3.laterF
                  have Qk3 := k3.lt
                  have Lk4 := k4.later
                  have Fk4 := k4.laterF
                  have Qk4 := k4.lt
                  have Lk6 := k6.later
                  have Fk6 := k6.laterF
                  have Qk6 := k6.lt
                  go_wp2
                  go_roundw
                  case rel => exact ⟨z + 1, pre ++ [⟨x, y, z⟩], by go_num, by rw [hst'.out]; go_num, by omega, by omega, by rw [← hq.out], by (exact zE), by (exact zK), by (exact zK), by (exact zK), by rw [hst'.out, if_neg hm0]; refine Blk.conv (by (exact zK)) ?_; simp⟩
                  case measure => simp [intOf]; omega
            · have L1 := k1.cell
              go_wp2
              go_roundw
              case rel => exact ⟨y + 1, pre, by go_num, rfl, by omega, by omega, by rw [← hpre.out, R3_end (by omega)]; simp, hb0, k0, k1, k3, k4⟩
              case measure => simp [intOf]; omega
        · go_wp2
          go_roundw
          case rel => exact ⟨x + 1, pre, by go_num, rfl, by omega, by omega, by rw [← hpre.out, R2_end (by omega)]; simp, hb0, k0, k1, k3, k4⟩
          case measure => simp [intOf]; omega
    · have L4 := k4.cell
      have hp' : pre = b.pts := by have := hpre.out; rw [R1_end (by omega), List.append_nil] at this; exact this
      subst hp'
      generalize votesOf ok b.pts = s at *
      obtain ⟨o, m⟩ := s
      dsimp only at k4 L4 ⊢
      have L3 := k3.cell
      have F3 := k3.frozen
      go_wp2
      apply absPB1 (w0 := w) (g0 := w.heap.size + 2)
      iterate 2 (focus exact zL)
      try clear hb3
      try clear hb0
      try clear k3
      intro wz hb0 k3
      (try simp only [List.setIfInBounds_toArray, List.set_cons_zero, List.set_cons_succ] at k3)
      have hr := k3.cell
      exact bodyPost_ret (v := .tuple #[vBx o, .int .i64 m]) (by simp [results, Tryz.results62, go_sem, hr]) rfl ⟨rfl, hb0⟩
end Go.Proofs.YtephimmamkafoaaGreat
namespace Go.Proofs.YtephimmamkafoaaGreat
theorem bits_test (f : Nat → Bool) : ∀ (n i : Nat), (bitsTo f n).testBit i = (decide (i < n) && f i)
  | 0, i => by simp [bitsTo]
  | n + 1, i => by
    rw [bitsTo, Nat.testBit_or, bits_test f n i]
    by_cases h : f n = true
    · rw [if_pos h, Nat.testBit_two_pow]
      by_cases e : n = i
      · subst e
        simp [h]
      · have : decide (i < n + 1) = decide (i < n) := by rw [decide_eq_decide]; omega
        simp [e, this]
    · rw [if_neg h, Nat.zero_testBit, Bool.or_false]
      by_cases e : n = i
      · subst e
        simp at h
        simp [h]
      · have : decide (i < n + 1) = decide (i < n) := by rw [decide_eq_decide]; omega
        rw [this]
theorem cnt_below (f : Nat → Bool) (n : Nat) : ∀ m, n ≤ m → (List.range m).countP (fun i => decide (i < n) && f i) = (List.range n).countP f
  | 0, h => by
    have : n = 0 := by omega
    subst this
    rfl
  | m + 1, h => by
    by_cases e : n = m + 1
    · subst e
      refine List.countP_congr fun i hi => ?_
      have := List.mem_range.1 hi
      simp [this]
    · rw [List.range_succ, List.countP_append, cnt_below f n m (by omega)]
      simp
      omega
theorem popc_bits (f : Nat → Bool) {n : Nat} (h : n ≤ 8) : popc (bitsTo f n) = (List.range n).countP f := by
  unfold popc
  simp only [bits_test]
  exact cnt_below f n 8 h
theorem pickL_cnt (f : Nat → Bool) : ∀ n, (pickL f n).length = (List.range n).countP f
  | 0 => rfl
  | n + 1 => by
    rw [pickL, List.length_append, pickL_cnt f n, List.range_succ, List.countP_append]
    by_cases h : f n = true <;> simp [h]
theorem idxs_pick (s : Nat) (are : Bool) : ∀ n, idxs s are n = pickL (fun i => s.testBit i == are) n
  | 0 => rfl
  | n + 1 => by rw [idxs, pickL, idxs_pick s are n]
theorem agr_wrong (bs : List Bc) (p : Pl) (l : List Rd) {k : Nat} (h : k < l.length) : agrAt bs p l k = !wrongB bs p l k := by
  unfold agrAt wrongB
  rw [List.getElem?_eq_getElem h]
  simp
def agrL (bs : List Bc) (l : List Rd) (p : Pl) : List Int := pickL (agrAt bs p l) l.length
theorem agrL_len (bs : List Bc) (l : List Rd) (p : Pl) : (agrL bs l p).length + (List.range l.length).countP (wrongB bs p l) = l.length := by
  rw [agrL, pickL_cnt]
  have h1 : (List.range l.length).countP (agrAt bs p l) = (List.range l.length).countP (fun i => !wrongB bs p l i) := List.countP_congr fun i hi => by rw [agr_wrong bs p l (List.mem_range.1 hi)]
  have h2 := List.length_eq_countP_add_countP (wrongB bs p l) (l := List.range l.length)
  rw [List.length_range] at h2
  have h3 : (List.range l.length).countP (fun i => decide (¬ wrongB bs p l i = true)) = (List.range l.length).countP (fun i => !wrongB bs p l i) := List.countP_congr fun i _ => by simp
  rw [h1, ← h3]
  omega
/-- The reference's test for a vote is the program's. -/
theorem okB_ref (bs : List Bc) (l : List Rd) (k : Int) (p : Pl) (h : l.length ≤ 8) : okB bs l k p = !decide (((agrL bs l p).length : Int) + k < (l.length : Int)) := by
  unfold okB
  rw [popc_bits _ h]
  have := agrL_len bs l p
  rw [Bool.eq_iff_iff]
  simp
  omega
theorem wrongL_len (bs : List Bc) (l : List Rd) (p : Pl) : (agrL bs l p).length + (wrongL bs l p).length = l.length := by
  have := agrL_len bs l p
  rw [wrongL, idxs_pick, pickL_cnt]
  have e : (List.range l.length).countP (fun i => (bitsTo (wrongB bs p l) l.length).testBit i == true) = (List.range l.length).countP (wrongB bs p l) := List.countP_congr fun i hi => by
    rw [bits_test]
    simp [List.mem_range.1 hi]
  rw [e]
  exact this
end Go.Proofs.YtephimmamkafoaaGreat
namespace Go.Proofs.YtephimmamkafoaaGreat
open Go.RowKit Go.Shelf
attribute [local go_sem] bl_al bl_drew bl_drewN bl_refl bx_al bx_drew bx_drewN bx_refl
set_option maxRecDepth 20000
def refReads (nb : Nat) (l : List Rd) : Int × Int := if 8 < l.length then (0, 8) else eachS (fun _ r => rdErr nb r) l 0
set_option maxHeartbeats 8000000 in
theorem r_CheckReadings (wd : Bx) (nb : Nat) (l : List Rd) (s : Option Addr) (A' : Option Addr) (c c' : Nat) (w : World) (hl : Sl cRd 4 w A' l) (hll : l.length ≤ 1000) (hnb : nb ≤ 1000) :
    Calls Tryz.prog 96 #[vNt wd (.slice s nb c), .slice A' l.length c'] w (Ret (.tuple #[.int .i64 (refReads nb l).1, .int .i64 (refReads nb l).2]) w) := by
  have Hl := Lib.hid hl
  obtain ⟨n, Hn⟩ : ∃ n, Hid (l.length = n) := ⟨_, rfl⟩
  have hs1 : Hid (8 < n → refReads nb l = (0, 8)) := fun h => by rw [refReads, Hn.out, if_pos h]
  have hs2 : Hid (¬ 8 < n → refReads nb l = eachS (fun _ r => rdErr nb r) l 0) := fun h => by rw [refReads, Hn.out, if_neg h]
  rw [Hn.out] at hll ⊢
  clear hl
  by_cases h8 : 8 < n
  · have e := Lib.hid (hs1.out h8)
    have h8' : decide ((8 : Int) < (n : Int)) = true := by simp; omega
    clear h8
    go_enter Tryz.func96, Tryz.ntmps96
    go_wp2
    go_ret2
    exact ⟨by rw [e.out] <;> rfl, by (exact zE)⟩
  have e := Lib.hid (hs2.out h8)
  have h8' : decide ((8 : Int) < (n : Int)) = false := by simp; omega
  clear h8 hs1 hs2
  go_enter Tryz.func96, Tryz.ntmps96
  go_upto_region 3 with fail
  apply absB1 (w0 := w) (g0 := w.heap.size)
  iterate 2 (focus exact zL)
  try clear hb3
  try clear hb0
  try clear k0
  intro wa hb0 k0
  (try simp only [List.setIfInBounds_toArray, List.set_cons_zero, List.set_cons_succ] at k0)
  have Lk0 := k0.later
  have Fk0 := k0.laterF
  have Qk0 := k0.lt
  go_wp2
  go_loopw [6] (fun i wr => ∃ k : Nat, k ≤ n ∧ i = .int .i64 k ∧ Below wa.heap.size wa wr ∧ eachS (fun _ r => rdErr nb r) l 0 = eachS (fun _ r => rdErr nb r) (l.drop k) k) (fun i _ => n - (intOf i).toNat)
  case atStart => exact ⟨0, Nat.zero_le _, rfl, Below.refl _ _, rfl⟩
  case round =>
    obtain ⟨k, hk, rfl, hb, hi⟩ := hrel
    replace hi := Lib.hid hi
    by_cases hlt : k < n
    · have hx : l[k]? = some (l[k]'(by rw [Hn.out]; exact hlt)) := List.getElem?_eq_getElem _
      generalize l[k]'(by rw [Hn.out]; exact hlt) = x at hx
      obtain ⟨b, off, hA, hc⟩ := Hl.out k x hx
      have hd := Lib.hid (eachS_drop (fun _ r => rdErr nb r) l k x hx)
      replace hx := Lib.hid hx
      have c0 : wr.cell? ⟨b, off + k * 4, none⟩ = some (.int .i64 x.kind) := kcell (bl_tr hb0 hb) (hc 0 _ rfl)
      have c1 : wr.cell? ⟨b, off + k * 4 + 1, none⟩ = some (.int .i64 x.idx) := kcell (bl_tr hb0 hb) (hc 1 _ rfl)
      have c2 : wr.cell? ⟨b, off + k * 4 + 2, none⟩ = some (.int .i64 x.v.lo) := kcell (bl_tr hb0 hb) (hc 2 _ rfl)
      have c3 : wr.cell? ⟨b, off + k * 4 + 3, none⟩ = some (.int .i64 x.v.hi) := kcell (bl_tr hb0 hb) (hc 3 _ rfl)
      clear hc
      subst hA
      go_upto_region 7 with fail
      have k0 := k0.below hb
      have hb0' := hb0
      have hb0 := hb
      apply absB2 (w0 := wa) (g0 := w.heap.size) (g1 := wr.heap.size)
      iterate 3 (focus exact zL)
      try clear hb3
      try clear hb0
      try clear k0
      try clear k9
      intro wb hb0 k0 k9
      (try simp only [List.setIfInBounds_toArray, List.set_cons_zero, List.set_cons_succ] at k0 k9)
      have Lk0 := k0.later
      have Fk0 := k0.laterF
      have Qk0 := k0.lt
      have Lk9 := k9.later
      have Fk9 := k9.laterF
      have Qk9 := k9.lt
      by_cases h1 : x.kind = 1
      · have hre : rdErr nb x = fstE [unl (inR x.kind 0 1) 15, unl (inR x.idx 0 2) 6, unl (inR x.v.lo (-30000) 30000 && inR x.v.hi (-30000) 30000) 2, unl (decide (x.v.lo ≤ x.v.hi)) 9] := by
          unfold rdErr rdErr.insR
          simp only [if_pos h1]
        have h1' : (x.kind == 1) = true := by simp [h1]
        replace h1 := Lib.hid h1
        obtain ⟨bk, h⟩ : ∃ b', inR x.kind 0 1 = b' := ⟨_, rfl⟩
        have hck := Lib.hid fun W : World => h ▸ r_Within x.kind 0 1 W
        rw [h] at hre
        clear h
        obtain ⟨bi, h⟩ : ∃ b', inR x.idx 0 2 = b' := ⟨_, rfl⟩
        have hci := Lib.hid fun W : World => h ▸ r_Within x.idx 0 2 W
        rw [h] at hre
        clear h
        obtain ⟨b1, h⟩ : ∃ b', inR x.v.lo (-30000) 30000 = b' := ⟨_, rfl⟩
        have hc1 := Lib.hid fun W : World => h ▸ r_Within x.v.lo (-30000) 30000 W
        rw [h] at hre
        clear h
        obtain ⟨b2, h⟩ : ∃ b', inR x.v.hi (-30000) 30000 = b' := ⟨_, rfl⟩
        have hc2 := Lib.hid fun W : World => h ▸ r_Within x.v.hi (-30000) 30000 W
        rw [h] at hre
        clear h
        replace hre := Lib.hid hre
        cases bk
        case false =>
          go_wp2_with (go_at_call 78; (first | (with_reducible refine (hck.out _).mono ?_) | (with_reducible refine (hci.out _).mono ?_) | (with_reducible refine (hc1.out _).mono ?_) | (with_reducible refine (hc2.out _).mono ?_)); rintro e w3 ⟨rfl, rfl⟩)
          go_ret2
          exact ⟨by rw [e.out, hi.out, hd.out, hre.out] <;> rfl, bl_tr hb0' hb0⟩
        cases bi
        case false =>
          go_wp2_with (go_at_call 78; (first | (with_reducible refine (hck.out _).mono ?_) | (with_reducible refine (hci.out _).mono ?_) | (with_reducible refine (hc1.out _).mono ?_) | (with_reducible refine (hc2.out _).mono ?_)); rintro e w3 ⟨rfl, rfl⟩)
          go_ret2
          exact ⟨by rw [e.out, hi.out, hd.out, hre.out] <;> rfl, bl_tr hb0' hb0⟩
        cases b1
        case false =>
          go_wp2_with (go_at_call 78; (first | (with_reducible refine (hck.out _).mono ?_) | (with_reducible refine (hci.out _).mono ?_) | (with_reducible refine (hc1.out _).mono ?_) | (with_reducible refine (hc2.out _).mono ?_)); rintro e w3 ⟨rfl, rfl⟩)
          go_ret2
          exact ⟨by rw [e.out, hi.out, hd.out, hre.out] <;> rfl, bl_tr hb0' hb0⟩
        cases b2
        case false =>
          go_wp2_with (go_at_call 78; (first | (with_reducible refine (hck.out _).mono ?_) | (with_reducible refine (hci.out _).mono ?_) | (with_reducible refine (hc1.out _).mono ?_) | (with_reducible refine (hc2.out _).mono ?_)); rintro e w3 ⟨rfl, rfl⟩)
          go_ret2
          exact ⟨by rw [e.out, hi.out, hd.out, hre.out] <;> rfl, bl_tr hb0' hb0⟩
        cases hbo : decide (x.v.lo ≤ x.v.hi)
        case false =>
          have e1 : decide (x.v.hi < x.v.lo) = true := by have := of_decide_eq_false hbo; simp; omega
          rw [hbo] at hre
          clear hbo
          go_wp2_with (go_at_call 78; (first | (with_reducible refine (hck.out _).mono ?_) | (with_reducible refine (hci.out _).mono ?_) | (with_reducible refine (hc1.out _).mono ?_) | (with_reducible refine (hc2.out _).mono ?_)); rintro e w3 ⟨rfl, rfl⟩)
          go_ret2
          exact ⟨by rw [e.out, hi.out, hd.out, hre.out] <;> rfl, bl_tr hb0' hb0⟩
        have e1 : decide (x.v.hi < x.v.lo) = false := by have := of_decide_eq_true hbo; simp; omega
        rw [hbo] at hre
        clear hbo
        go_wp2_with (go_at_call 78; (first | (with_reducible refine (hck.out _).mono ?_) | (with_reducible refine (hci.out _).mono ?_) | (with_reducible refine (hc1.out _).mono ?_) | (with_reducible refine (hc2.out _).mono ?_)); rintro e w3 ⟨rfl, rfl⟩)
        go_roundw
        case rel => exact ⟨k + 1, by omega, by go_num, hb0, by rw [hi.out, hd.out, hre.out] <;> rfl⟩
        case measure => simp [intOf]; omega
      · have hre : rdErr nb x = fstE [unl (inR x.kind 0 1) 15, unl (inR x.idx 0 ((nb : Int) - 1)) 6, unl (inR x.v.lo 0 30000 && inR x.v.hi 0 30000) 2, unl (decide (x.v.lo ≤ x.v.hi)) 9] := by
          unfold rdErr rdErr.insR
          simp only [if_neg h1]
        have h1' : (x.kind == 1) = false := by simp [h1]
        replace h1 := Lib.hid h1
        obtain ⟨bk, h⟩ : ∃ b', inR x.kind 0 1 = b' := ⟨_, rfl⟩
        have hck := Lib.hid fun W : World => h ▸ r_Within x.kind 0 1 W
        rw [h] at hre
        clear h
        obtain ⟨bi, h⟩ : ∃ b', inR x.idx 0 ((nb : Int) - 1) = b' := ⟨_, rfl⟩
        have hci := Lib.hid fun W : World => h ▸ r_Within x.idx 0 ((nb : Int) - 1) W
        rw [h] at hre
        clear h
        obtain ⟨b1, h⟩ : ∃ b', inR x.v.lo 0 30000 = b' := ⟨_, rfl⟩
        have hc1 := Lib.hid fun W : World => h ▸ r_Within x.v.lo 0 30000 W
        rw [h] at hre
        clear h
        obtain ⟨b2, h⟩ : ∃ b', inR x.v.hi 0 30000 = b' := ⟨_, rfl⟩
        have hc2 := Lib.hid fun W : World => h ▸ r_Within x.v.hi 0 30000 W
        rw [h] at hre
        clear h
        replace hre := Lib.hid hre
        cases bk
        case false =>
          go_wp2_with (go_at_call 78; (first | (with_reducible refine (hck.out _).mono ?_) | (with_reducible refine (hci.out _).mono ?_) | (with_reducible refine (hc1.out _).mono ?_) | (with_reducible refine (hc2.out _).mono ?_)); rintro e w3 ⟨rfl, rfl⟩)
          go_ret2
          exact ⟨by rw [e.out, hi.out, hd.out, hre.out] <;> rfl, bl_tr hb0' hb0⟩
        cases bi
        case false =>
          go_wp2_with (go_at_call 78; (first | (with_reducible refine (hck.out _).mono ?_) | (with_reducible refine (hci.out _).mono ?_) | (with_reducible refine (hc1.out _).mono ?_) | (with_reducible refine (hc2.out _).mono ?_)); rintro e w3 ⟨rfl, rfl⟩)
          go_ret2
          exact ⟨by rw [e.out, hi.out, hd.out, hre.out] <;> rfl, bl_tr hb0' hb0⟩
        cases b1
        case false =>
          go_wp2_with (go_at_call 78; (first | (with_reducible refine (hck.out _).mono ?_) | (with_reducible refine (hci.out _).mono ?_) | (with_reducible refine (hc1.out _).mono ?_) | (with_reducible refine (hc2.out _).mono ?_)); rintro e w3 ⟨rfl, rfl⟩)
          go_ret2
          exact ⟨by rw [e.out, hi.out, hd.out, hre.out] <;> rfl, bl_tr hb0' hb0⟩
        cases b2
        case false =>
          go_wp2_with (go_at_call 78; (first | (with_reducible refine (hck.out _).mono ?_) | (with_reducible refine (hci.out _).mono ?_) | (with_reducible refine (hc1.out _).mono ?_) | (with_reducible refine (hc2.out _).mono ?_)); rintro e w3 ⟨rfl, rfl⟩)
          go_ret2
          exact ⟨by rw [e.out, hi.out, hd.out, hre.out] <;> rfl, bl_tr hb0' hb0⟩
        cases hbo : decide (x.v.lo ≤ x.v.hi)
        case false =>
          have e1 : decide (x.v.hi < x.v.lo) = true := by have := of_decide_eq_false hbo; simp; omega
          rw [hbo] at hre
          clear hbo
          go_wp2_with (go_at_call 78; (first | (with_reducible refine (hck.out _).mono ?_) | (with_reducible refine (hci.out _).mono ?_) | (with_reducible refine (hc1.out _).mono ?_) | (with_reducible refine (hc2.out _).mono ?_)); rintro e w3 ⟨rfl, rfl⟩)
          go_ret2
          exact ⟨by rw [e.out, hi.out, hd.out, hre.out] <;> rfl, bl_tr hb0' hb0⟩
        have e1 : decide (x.v.hi < x.v.lo) = false := by have := of_decide_eq_true hbo; simp; omega
        rw [hbo] at hre
        clear hbo
        go_wp2_with (go_at_call 78; (first | (with_reducible refine (hck.out _).mono ?_) | (with_reducible refine (hci.out _).mono ?_) | (with_reducible refine (hc1.out _).mono ?_) | (with_reducible refine (hc2.out _).mono ?_)); rintro e w3 ⟨rfl, rfl⟩)
        go_roundw
        case rel => exact ⟨k + 1, by omega, by go_num, hb0, by rw [hi.out, hd.out, hre.out] <;> rfl⟩
        case measure => simp [intOf]; omega
    · go_wp2
      go_ret2
      have : k = l.length := by have := Hn.out; omega
      exact ⟨by rw [e.out, hi.out, this]; simp [eachS], bl_tr hb0 hb⟩
/-- The reference's errors of readings, and of a vote, behind a valid net. -/
theorem refReads_eq {n : Nt} {l : List Rd} (h : netErr n = 0) : refReads n.bs.length l = readsChk n l := by
  unfold refReads readsChk readsE
  by_cases h8 : 8 < l.length
  · have h8' : ¬ ((l.length : Int) ≤ 8) := by omega
    simp [h, fstE, unl, h8, h8']
  · have h8' : ((l.length : Int) ≤ 8) := by omega
    simp [h, fstE, unl, h8, h8']
end Go.Proofs.YtephimmamkafoaaGreat
