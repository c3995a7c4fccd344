/-
  Walk: the indexes of the bits of a number that are as asked for.
  Walks: the errors of a vote; the readings with which a position agrees.
  Plain laws: what valid nets and readings are.
  Walks: the vote of a box and the fix of a box, with all errors.
  The order of lists of numbers.
  Walks: the library's comparison of numbers, and of lists of numbers.
-/
import Derived.Test.YtephimmamkafoaaGreatU3
import Derived.WalkKit
import Derived.Laws.BitsAllLaws
import Derived.Test.YtephimmamkafoaaGreatU8
import Derived.Test.YtephimmamkafoaaGreatU9
import Derived.Test.YtephimmamkafoaaGreatU5
set_option linter.unusedSimpArgs false
set_option linter.unusedVariables false
namespace Go.Proofs.YtephimmamkafoaaGreat
open Go.RowKit
attribute [local go_sem] bl_al bl_drew bl_drewN bl_refl
set_option maxRecDepth 20000
def idxs (set : Nat) (are : Bool) : Nat → List Int
  | 0 => []
  | k + 1 => idxs set are k ++ if set.testBit k == are then [(k : Int)] else []
/-- A slice of the call's own that holds these numbers. -/
def RetI (L : List Int) (w : World) (e : Ending) (w' : World) : Prop :=
  ∃ A c, e = .returned (.slice A L.length c) ∧ Below w.heap.size w w' ∧ w'.ownsRow w.heap.size 3 1 (.slice A L.length c) L.length (L.map (.int .i64))
theorem info3 : (Tryz.prog.info? 3).map (fun i => (i.zero, i.size, i.bytes)) = some (some (.int .i64 0), 1, 8) := by kernel_rfl
theorem idxs_len (set : Nat) (are : Bool) : ∀ k, (idxs set are k).length ≤ k
  | 0 => Nat.le_refl 0
  | k + 1 => by
    unfold idxs
    have := idxs_len set are k
    split <;> simp <;> omega
theorem bit_test (set k : Nat) (hs : set < 2 ^ 62) : (bits .and .u64 ((set : Int) / 2 ^ k) 1 == 1) = set.testBit k := by
  have e : ((set : Int) / 2 ^ k) = ((set / 2 ^ k : Nat) : Int) := by simp
  have h1 : set / 2 ^ k ≤ set := Nat.div_le_self _ _
  have h2 : (2 : Nat) ^ 62 = 4611686018427387904 := by decide
  have h3 := u64_and_nat (set / 2 ^ k) 1 (by omega) (by omega)
  rw [e, show (1 : Int) = ((1 : Nat) : Int) from rfl, h3, Nat.and_one_is_mod, Nat.testBit_eq_decide_div_mod_eq]
  by_cases h : set / 2 ^ k % 2 = 1
  · rw [h]; rfl
  · have : set / 2 ^ k % 2 = 0 := by omega
    rw [this]; rfl
theorem idxs_hit {set : Nat} {are : Bool} {k : Nat} (h : (set.testBit k == are) = true) : idxs set are (k + 1) = idxs set are k ++ [(k : Int)] := by rw [idxs, if_pos h]
theorem idxs_miss {set : Nat} {are : Bool} {k : Nat} (h : (set.testBit k == are) = false) : idxs set are (k + 1) = idxs set are k := by rw [idxs, if_neg (by rw [h]; decide), List.append_nil]
theorem own_ge {w : World} {base n : Nat} {e : TypeId} {size : Nat} {v : Value} {xs : List Value} (h : w.ownsRow base e size v n xs) : ∀ k, v.ownBlock = some k → base ≤ k := fun k hk => by
  rcases h.2 with ⟨e, _⟩ | ⟨g, cap, cur, e, hg, _⟩
  · rw [e] at hk; simp [Value.ownBlock] at hk
  · rw [e] at hk; simp [Value.ownBlock] at hk; omega
theorem own_below {W W' : World} {b n : Nat} {e : TypeId} {size : Nat} {v : Value} {xs : List Value} (h : W.ownsRow b e size v n xs) (hb : Below W.heap.size W W') : W'.ownsRow b e size v n xs := by
  refine ⟨h.1, ?_⟩
  rcases h.2 with h2 | ⟨g, cap, cur, e1, e2, e3, e4⟩
  · exact .inl h2
  · exact .inr ⟨g, cap, cur, e1, e2, (hb.block g (Array.getElem?_eq_some_iff.1 e3).1).trans e3, e4⟩
theorem own_mono {W : World} {b b' n : Nat} {e : TypeId} {size : Nat} {v : Value} {xs : List Value} (hb : b ≤ b') (h : W.ownsRow b' e size v n xs) : W.ownsRow b e size v n xs := by
  refine ⟨h.1, ?_⟩
  rcases h.2 with h2 | ⟨g, cap, cur, e1, e2, e4⟩
  · exact .inl h2
  · exact .inr ⟨g, cap, cur, e1, Nat.le_trans hb e2, e4⟩
theorem RetI.of {L : List Int} {w w' : World} {v : Value} (hb : Below w.heap.size w w') (h : w'.ownsRow w.heap.size 3 1 v L.length (L.map (.int .i64))) : RetI L w (.returned v) w' := by
  rcases h.2 with ⟨e, hn⟩ | ⟨g, cap, cur, e, h2⟩
  · refine ⟨none, 0, ?_, hb, ?_⟩
    · rw [e, hn]
    · rw [hn]; rw [e, hn] at h; exact h
  · exact ⟨some ⟨g, 0, none⟩, cap, by rw [e], hb, by rw [e] at h; exact h⟩
set_option maxHeartbeats 4000000 in
theorem c_indexes (set n : Nat) (are : Bool) (w : World) (hs : set < 2 ^ 62) (hn : n ≤ 62) : Calls Tryz.prog 72 #[.int .u64 (set : Nat), .int .i64 (n : Nat), .bool are] w (RetI (idxs set are n) w) := by
  obtain ⟨i0, hi, hz0, hz1, hz2⟩ := info_parts info3
  go_enter Tryz.func72, Tryz.ntmps72
  go_wp2
  go_loopw [7, 10] (fun v i wr => ∃ k : Nat, k ≤ n ∧ i = .int .i64 k ∧ Below w.heap.size w wr ∧ wr.ownsRow w.heap.size 3 1 v (idxs set are k).length ((idxs set are k).map (.int .i64))) (fun _ i _ => n - (intOf i).toNat)
  case atStart => exact ⟨0, Nat.zero_le _, rfl, Below.refl _ _, World.ownsRow_nil _ _ _ _⟩
  case round =>
    obtain ⟨k, hk, rfl, hb, hown⟩ := hrel
    by_cases hlt : k < n
    · have hbt := bit_test set k hs
      have hlen := idxs_len set are k
      have hsz := hb.size
      cases hT : set.testBit k == are
      · have hT' : ((bits .and .u64 ((set : Int) / 2 ^ k) 1 == 1) == are) = false := by rw [hbt]; exact hT
        have hm := Lib.hid (idxs_miss hT)
        clear hbt hT
        go_wp2
        go_roundw
        case rel => exact ⟨k + 1, by omega, by go_num, hb, by rw [hm.out]; exact hown⟩
        case measure => simp [intOf]; omega
      · have hT' : ((bits .and .u64 ((set : Int) / 2 ^ k) 1 == 1) == are) = true := by rw [hbt]; exact hT
        have hm := Lib.hid (idxs_hit hT)
        clear hbt hT
        replace hown := Lib.hid hown
        go_wp2_with (at_builtin; refine wpList_append_own _ rfl _ _ 78 rfl w.heap.size 3 i0 (.int .i64 0) 1 8 Tryz.underlying78 hi hz0 hz1 hz2 rfl (by decide) _ _ _ rfl (hown.out.alloc _) ⟨wr.heap.size, 0, none⟩ 1 1 [.int .i64 k] rfl rfl ?c1 ?c2 ?c3 ?c4 ?c5 ?_)
        case c1 =>
          intro j u hj
          match j, hj with
          | 0, hj => simp at hj; subst hj; simp [Addr.add]
        case c2 => intro u hu; simp at hu; subst hu; rfl
        case c3 => unfold maxLen; omega
        case c4 => omega
        case c5 => simp; omega
        intro v' w1 hown' hgrow _
        have hb1 : Below w.heap.size w w1 := (bl_al _ hb).grown hgrow (by simp; omega) (own_ge hown.out)
        clear hgrow hown
        replace hown' := Lib.hid hown'
        go_wp2
        go_roundw
        case rel => exact ⟨k + 1, by omega, by go_num, hb1, by rw [hm.out]; simpa using hown'.out⟩
        case measure => simp [intOf]; omega
    · go_wp2
      go_ret
      have : k = n := by omega
      subst this
      exact RetI.of hb hown
end Go.Proofs.YtephimmamkafoaaGreat
namespace Go.Proofs.YtephimmamkafoaaGreat
open Go.RowKit Go.Shelf
attribute [local go_sem] bl_al bl_drew bl_drewN bl_refl bx_al bx_drew bx_drewN bx_refl
set_option maxRecDepth 20000
def voteE (n : Nt) (v : Vt) : Int := fstE [readsErr n v.rs, unl (inR v.wrong 0 v.rs.length) 2]
set_option maxHeartbeats 4000000 in
theorem c_voteErr (n : Nt) (v : Vt) (A A' : Option Addr) (c c' : Nat) (w : World) (hn : NtIn n A c w) (hl : Sl cRd 4 w A' v.rs) (hll : v.rs.length ≤ 1000) (hlb : n.bs.length ≤ 1000) :
    Calls Tryz.prog 53 #[vNt n.world (.slice A n.bs.length c), .agg #[.slice A' v.rs.length c', .int .i64 v.wrong]] w (Ret (.int .i64 (voteE n v)) w) := by
  have hcr := Lib.hid fun (W : World) (hb : Below w.heap.size w W) => c_readingsErr n v.rs A A' c c' W (hn.below hb) (hl.below hb) hll hlb
  have hr : Hid (voteE n v = fstE [readsErr n v.rs, unl (inR v.wrong 0 v.rs.length) 2]) := rfl
  clear hn hl
  generalize n.bs.length = nl at *
  generalize v.rs.length = ll at *
  go_enter Tryz.func53, Tryz.ntmps53
  go_wp2
  apply absB2 (w0 := w) (g0 := w.heap.size) (g1 := w.heap.size + 1)
  iterate 3 (focus exact zL)
  try clear hb3
  try clear hb0
  try clear k0
  try clear k1
  intro wa hb0 k0 k1
  (try simp only [List.setIfInBounds_toArray, List.set_cons_zero, List.set_cons_succ] at k0 k1)
  have Lk0 := k0.later
  have Fk0 := k0.laterF
  have Qk0 := k0.lt
  have Lk1 := k1.later
  have Fk1 := k1.laterF
  have Qk1 := k1.lt
  refine wp_any (w0 := wa) ⟨[], [], [some 5, some 6, some 7, some 8, some 9, some 10, some 11, some 12, some 13, some 14, some 15, some 16, some 17, some 4], [[], [], [1], [0, 1, 2], [], [4], [], [6], [6, 7], [0, 1, 2, 3, 4, 5, 6, 7, 8], [0, 1, 2, 3, 4, 5, 6, 7, 8, 9], [0, 1, 2, 3, 4, 5, 6, 7, 8, 9, 10], [0, 1, 2, 3, 4, 5, 6, 7, 8, 9, 10, 11], [0, 1, 2, 3, 4, 5, 6, 7, 8, 9, 10, 11, 12]], [[], [], [1], [0, 2], [], [4], [], [6], [7], [5, 8], [9], [3, 10], [11], [11, 12]]⟩ (fun _ => []) (by kernel_rfl) (by kernel_rfl) (by (exact zE)) (fun u => by simp only [putD, Act.put, List.setIfInBounds_toArray, List.set_cons_zero, List.set_cons_succ, Nat.zero_add, Nat.reduceAdd]; rfl) ?_
  apply RGW.on (i := 0) rfl
  · exact zG
  · intro γ u W hcur hd
    clear hd
    (try dsimp only)
    exact ⟨rfl, zS⟩
  · exact zC
  · rfl
  dsimp only [nA, cA]
  apply RGW.on (i := 1) rfl
  · exact zG
  · intro γ u W hcur hd
    clear hd
    (try dsimp only)
    exact ⟨rfl, zS⟩
  · exact zC
  · rfl
  dsimp only [nA, cA]
  apply RGW.on (i := 2) rfl
  · exact zG
  · intro γ u W hcur hd
    obtain ⟨⟨h1, -, -⟩, -⟩ := hd
    dsimp only at h1
    (try simp only [h1])
    exact ⟨rfl, zS⟩
  · exact zC
  · rfl
  dsimp only [nA, cA]
  apply RGW.call (i := 3) rfl
  · exact zG
  · intro γ u W hcur hd
    obtain ⟨⟨h0, -, -⟩, ⟨h2, -, -⟩, -⟩ := hd
    dsimp only at h0 h2
    (try simp only [h0, h2])
    refine ⟨rfl, fun K hK => ?_⟩
    go_simp
    (go_at_call 85; (with_reducible refine (hcr.out _ (bl_tr hb0 (by (exact zE)))).mono ?_); rintro e w3 ⟨rfl, hb3⟩; replace hb3 := bl_tt hb3)
    (try dsimp only)
    exact hK.out _ _ rfl (by (exact zE))
  · exact zC
  · rfl
  dsimp only [nA, cA]
  apply RGW.on (i := 4) rfl
  · exact zG
  · intro γ u W hcur hd
    clear hd
    (try dsimp only)
    exact ⟨rfl, zS⟩
  · exact zC
  · rfl
  dsimp only [nA, cA]
  apply RGW.on (i := 5) rfl
  · exact zG
  · intro γ u W hcur hd
    obtain ⟨⟨h4, -, -⟩, -⟩ := hd
    dsimp only at h4
    (try simp only [h4])
    exact ⟨rfl, zS⟩
  · exact zC
  · rfl
  dsimp only [nA, cA]
  apply RGW.on (i := 6) rfl
  · exact zG
  · intro γ u W hcur hd
    clear hd
    (try dsimp only)
    exact ⟨rfl, zS⟩
  · exact zC
  · rfl
  dsimp only [nA, cA]
  apply RGW.on (i := 7) rfl
  · exact zG
  · intro γ u W hcur hd
    obtain ⟨⟨h6, -, -⟩, -⟩ := hd
    dsimp only at h6
    (try simp only [h6])
    exact ⟨rfl, zS⟩
  · exact zC
  · rfl
  dsimp only [nA, cA]
  apply RGW.on (i := 8) rfl
  · exact zG
  · intro γ u W hcur hd
    obtain ⟨⟨h7, -, -⟩, -⟩ := hd
    dsimp only at h7
    (try simp only [h7])
    exact ⟨rfl, zS⟩
  · exact zC
  · rfl
  dsimp only [nA, cA]
  apply RGW.call (i := 9) rfl
  · exact zG
  · intro γ u W hcur hd
    obtain ⟨⟨h5, -, -⟩, ⟨h8, -, -⟩, -⟩ := hd
    dsimp only at h5 h8
    (try simp only [h5, h8])
    refine ⟨rfl, fun K hK => ?_⟩
    go_simp
    (go_at_call 75; (with_reducible refine (c_within _ _ _ _).mono ?_); rintro e w3 ⟨rfl, rfl⟩)
    (try dsimp only)
    exact hK.out _ _ rfl (by (exact zE))
  · exact zC
  · rfl
  dsimp only [nA, cA]
  apply RGW.call (i := 10) rfl
  · exact zG
  · intro γ u W hcur hd
    obtain ⟨⟨h9, -, -⟩, -⟩ := hd
    dsimp only at h9
    (try simp only [h9])
    refine ⟨rfl, fun K hK => ?_⟩
    go_simp
    (go_at_call 49; (with_reducible refine (c_unless _ _ _).mono ?_); rintro e w3 ⟨rfl, rfl⟩)
    (try dsimp only)
    exact hK.out _ _ rfl (by (exact zE))
  · exact zC
  · rfl
  dsimp only [nA, cA]
  apply RGW.bslice (i := 11) rfl
  · exact zG
  · intro γ u W hcur hd
    obtain ⟨⟨h3, -, -⟩, ⟨h10, -, -⟩, -⟩ := hd
    dsimp only at h3 h10
    (try simp only [h3, h10])
    refine ⟨rfl, fun K hK => ?_⟩
    go_simp
    exact hK.out _ _ rfl rfl
  · exact zC
  · rfl
  · rfl
  dsimp only [nA, cA]
  apply RGW.call (i := 12) rfl
  · exact zG
  · intro γ u W hcur hd
    obtain ⟨⟨h11, r11, -⟩, -⟩ := hd
    dsimp only at h11 r11
    have L11 := r11.cell
    (try simp only [h11])
    refine ⟨rfl, fun K hK => ?_⟩
    go_simp
    (go_at_call 48; (with_reducible refine (c_first2 (by assumption)).mono ?_); rintro e w3 ⟨rfl, rfl⟩)
    (try dsimp only)
    exact hK.out _ _ rfl (by (exact zE))
  · exact zC
  · rfl
  dsimp only [nA, cA]
  apply RGW.on (i := 13) rfl
  · exact zG
  · intro γ u W hcur hd
    obtain ⟨⟨h11, r11, -⟩, ⟨h12, -, -⟩, -⟩ := hd
    dsimp only at h11 h12 r11
    have L11 := r11.cell
    (try simp only [h11, h12])
    exact ⟨rfl, zS⟩
  · exact zC
  · rfl
  dsimp only [nA, cA]
  refine RGW.fin (fun γ u wb hwb hd hdis => ?_)
  obtain ⟨⟨h0, -, -⟩, ⟨h1, -, -⟩, ⟨h2, -, -⟩, ⟨h3, -, -⟩, ⟨h4, -, -⟩, ⟨h5, -, -⟩, ⟨h6, -, -⟩, ⟨h7, -, -⟩, ⟨h8, -, -⟩, ⟨h9, -, -⟩, ⟨h10, -, -⟩, ⟨h11, r11, b11⟩, ⟨h12, -, -⟩, ⟨h13, -, -⟩, -⟩ := hd
  dsimp only at h0 h1 h2 h3 h4 h5 h6 h7 h8 h9 h10 h11 h12 h13 r11 b11
  clear hdis
  simp only [h0, h1, h2, h3, h4, h5, h6, h7, h8, h9, h10, h11, h12, h13]
  clear h13 h12 h11 h10 h9 h8 h7 h6 h5 h4 h3 h2 h1 h0
  replace b11 := b11 _ (List.mem_singleton.2 rfl)
  generalize hγ11 : (γ 11).n = g11 at *
  clear hγ11
  clear u
  simp only [List.map_nil]
  refine PlanW.done ?_
  have hb3 := bl_tt hwb
  have hb1 := hb3 _ hb0
  clear hcr
  go_wp2
  go_ret
  exact ⟨by rw [hr.out] <;> rfl, hb1⟩
end Go.Proofs.YtephimmamkafoaaGreat
namespace Go.Proofs.YtephimmamkafoaaGreat
open Go.RowKit
theorem eachS_zero {α : Type} {err : Nat → α → Int} : ∀ {l : List α} {k : Nat}, (eachS err l k).2 = 0 → ∀ (i : Nat) (x : α), l[i]? = some x → err (k + i) x = 0
  | [], _, _, i, x, h => by simp at h
  | y :: l, k, h0, i, x, h => by
    by_cases e : err k y = 0
    · rw [eachS, if_pos e] at h0
      cases i with
      | zero =>
        simp at h
        subst h
        exact e
      | succ i =>
        have := eachS_zero h0 i x (by simpa using h)
        rw [← this]
        congr 1
        omega
    · rw [eachS, if_neg e] at h0
      exact absurd h0 e
theorem bc_at {n : Nt} (h : netErr n = 0) (k : Nat) (x : Bc) (hx : n.bs[k]? = some x) : x.pl.in 10000 := by
  have h1 := world_zero h
  unfold netErr netChk at h
  rw [if_pos h1] at h
  have h2 := eachS_zero h k x hx
  unfold bcErr at h2
  simp only [fst_cons, unl_zero (show (2 : Int) ≠ 0 by decide), unl_zero (show (4 : Int) ≠ 0 by decide), unl_zero (show (5 : Int) ≠ 0 by decide)] at h2
  have h3 := h2.2.2.1
  unfold Pl.co szd at h3
  simp only [List.any_cons, List.any_nil, Bool.or_false, Bool.not_or, Bool.not_not, Bool.and_eq_true, inR_iff] at h3
  exact ⟨h3.1, h3.2.1, h3.2.2⟩
theorem rd_ok {n : Nt} (h : netErr n = 0) {r : Rd} (hr : rdErr n.bs.length r = 0) : r.ok n.bs := by
  unfold rdErr at hr
  simp only [fst_cons, unl_zero (show (2 : Int) ≠ 0 by decide), unl_zero (show (15 : Int) ≠ 0 by decide), unl_zero (show (6 : Int) ≠ 0 by decide), unl_zero (show (9 : Int) ≠ 0 by decide)] at hr
  obtain ⟨h1, h2, h3, h4, -⟩ := hr
  rw [inR_iff] at h1
  unfold rdErr.insR at h3
  simp only [Bool.and_eq_true, inR_iff] at h3
  refine ⟨?_, fun hk => ?_, fun hk => ?_⟩
  · by_cases hk : r.kind = 1
    · rw [if_pos hk] at h3
      exact ⟨h3.1.1, h3.1.2, h3.2.1, h3.2.2⟩
    · rw [if_neg hk] at h3
      refine ⟨?_, ?_, ?_, ?_⟩ <;> omega
  · rw [if_pos hk, inR_iff] at h2
    omega
  · rw [if_neg hk, inR_iff] at h2
    have hlt : r.idx.toNat < n.bs.length := by omega
    exact ⟨r.idx.toNat, n.bs[r.idx.toNat], by omega, List.getElem?_eq_getElem hlt, bc_at h _ _ (List.getElem?_eq_getElem hlt)⟩
theorem reads_net {n : Nt} {l : List Rd} (h : readsErr n l = 0) : netErr n = 0 ∧ l.length ≤ 8 := by
  unfold readsErr readsChk at h
  by_cases he : readsE n l = 0
  · unfold readsE at he
    simp only [fst_cons, unl_zero (show (8 : Int) ≠ 0 by decide), decide_eq_true_eq] at he
    exact ⟨he.1, by omega⟩
  · rw [if_neg he] at h
    exact absurd h he
theorem reads_ok {n : Nt} {l : List Rd} (h : readsErr n l = 0) : netErr n = 0 ∧ l.length ≤ 8 ∧ ∀ r ∈ l, r.ok n.bs := by
  obtain ⟨h1, h2⟩ := reads_net h
  refine ⟨h1, h2, fun r hr => ?_⟩
  obtain ⟨i, hi, rfl⟩ := List.getElem_of_mem hr
  have he : readsE n l = 0 := by
    unfold readsE
    simp only [fst_cons, unl_zero (show (8 : Int) ≠ 0 by decide), decide_eq_true_eq]
    exact ⟨h1, by omega, rfl⟩
  unfold readsErr readsChk at h
  rw [if_pos he] at h
  exact rd_ok h1 (eachS_zero h i _ (List.getElem?_eq_getElem hi))
/-- The vote of a box: errors first. -/
def votedE (n : Nt) (b : Bx) (v : Vt) : Int := fstE [boxErr n b, voteE n v]
theorem voted_ok {n : Nt} {b : Bx} {v : Vt} (h : votedE n b v = 0) : b.ok ∧ v.rs.length ≤ 8 ∧ ∀ r ∈ v.rs, r.ok n.bs := by
  unfold votedE voteE at h
  simp only [fst_cons] at h
  obtain ⟨h1, ⟨h2, -⟩, -⟩ := h
  obtain ⟨-, h5, h6⟩ := reads_ok h2
  exact ⟨box_ok h1, h5, h6⟩
end Go.Proofs.YtephimmamkafoaaGreat
namespace Go.Proofs.YtephimmamkafoaaGreat
open Go.RowKit Go.Shelf
attribute [local go_sem] bl_al bl_drew bl_drewN bl_refl bx_al bx_drew bx_drewN bx_refl
set_option maxRecDepth 20000
def votesB (n : Nt) (b : Bx) (v : Vt) : Bx × Nat := votesOf (okB n.bs v.rs v.wrong) b.pts
def votedS (n : Nt) (b : Bx) (v : Vt) : Bx × Int × Int :=
  if votedE n b v = 0 then (if b.size ≤ 20000 then (if (votesB n b v).2 = 0 then (bx0, 0, 12) else ((votesB n b v).1, ((votesB n b v).2 : Int), 0)) else (bx0, 0, 8)) else (bx0, 0, votedE n b v)
abbrev vVt (A : Option Addr) (n c : Nat) (k : Int) : Value := .agg #[.slice A n c, .int .i64 k]
set_option maxHeartbeats 4000000 in
theorem c_VotedIn (n : Nt) (b : Bx) (v : Vt) (A A' : Option Addr) (c c' : Nat) (w : World) (hn : NtIn n A c w) (hl : Sl cRd 4 w A' v.rs) (hll : v.rs.length ≤ 1000) (hlb : n.bs.length ≤ 1000) :
    Calls Tryz.prog 40 #[vNt n.world (.slice A n.bs.length c), vBx b, vVt A' v.rs.length c' v.wrong] w
      (Ret (.tuple #[vBx (votedS n b v).1, .int .i64 (votedS n b v).2.1, .int .i64 (votedS n b v).2.2]) w) := by
  have hco := Lib.hid fun (W : World) (hb : Below w.heap.size w W) => c_openBox n b A c W (hn.below hb)
  have hcv := Lib.hid fun (W : World) (hb : Below w.heap.size w W) => c_voteErr n v A A' c c' W (hn.below hb) (hl.below hb) hll hlb
  have hcc := Lib.hid fun (W : World) (hb : Below w.heap.size w W) (h : votedE n b v = 0) (hs : b.size ≤ 20000) => c_vote n.world b n.bs A A' c c' v W (hn.sl.below hb) hlb (hl.below hb) (voted_ok h).2.1 (voted_ok h).1 hs (voted_ok h).2.2
  have hok := Lib.hid fun h : votedE n b v = 0 => (voted_ok h).1
  have hme : Hid (votedE n b v = fstE [boxErr n b, voteE n v]) := rfl
  have hs1 : Hid (votedE n b v ≠ 0 → votedS n b v = (bx0, 0, votedE n b v)) := fun h => by rw [votedS, if_neg h]
  have hs2 : Hid (votedE n b v = 0 → ¬ b.size ≤ 20000 → votedS n b v = (bx0, 0, 8)) := fun h h' => by rw [votedS, if_pos h, if_neg h']
  have hs3 : Hid (votedE n b v = 0 → b.size ≤ 20000 → votedS n b v = if (votesB n b v).2 = 0 then (bx0, 0, 12) else ((votesB n b v).1, ((votesB n b v).2 : Int), 0)) := fun h h' => by rw [votedS, if_pos h, if_pos h']
  replace hcc : Hid _ := hcc
  change Hid (∀ W, _ → _ → _ → Calls Tryz.prog 90 _ W (Ret (.tuple #[vBx (votesB n b v).1, .int .i64 (votesB n b v).2]) W)) at hcc
  clear hn hl
  generalize n.bs.length = nl at *
  generalize v.rs.length = ll at *
  go_enter Tryz.func40, Tryz.ntmps40
  go_wp2_with fail
  refine Calls.mono (hco.out _ ?_) ?_
  · solve_by_elim (maxDepth := 60) only [bl_al, bl_drew, bl_drewN, bl_refl, *]
  rintro e w3 ⟨rfl, hb3⟩
  replace hb3 := bl_tt hb3
  apply absX3 (w0 := w) (w := w3) (g0 := w.heap.size) (g1 := w.heap.size + 2) (g2 := w.heap.size + 3)
  iterate 4 (focus exact zL)
  try clear hb3
  try clear hb0
  try clear k0
  try clear k2
  try clear k3
  intro wa hb0 k0 k2 k3
  (try simp only [List.setIfInBounds_toArray, List.set_cons_zero, List.set_cons_succ] at k0 k2 k3)
  have Lk0 := k0.later
  have Fk0 := k0.laterF
  have Qk0 := k0.lt
  have Lk2 := k2.later
  have Fk2 := k2.laterF
  have Qk2 := k2.lt
  have Lk3 := k3.later
  have Fk3 := k3.laterF
  have Qk3 := k3.lt
  go_upto_region 2 with fail
  apply absB5 (w0 := w) (g0 := w.heap.size) (g1 := w.heap.size + 2) (g2 := w.heap.size + 3) (g3 := wa.heap.size) (g4 := wa.heap.size + 1)
  iterate 6 (focus exact zL)
  try clear hb3
  try clear Lk0
  try clear Fk0
  try clear Qk0
  try clear Lk2
  try clear Fk2
  try clear Qk2
  try clear Lk3
  try clear Fk3
  try clear Qk3
  try clear hb0
  try clear k0
  try clear k2
  try clear k3
  try clear k5
  try clear k6
  intro wb hb0 k0 k2 k3 k5 k6
  (try simp only [List.setIfInBounds_toArray, List.set_cons_zero, List.set_cons_succ] at k0 k2 k3 k5 k6)
  have Lk0 := k0.later
  have Fk0 := k0.laterF
  have Qk0 := k0.lt
  have Lk2 := k2.later
  have Fk2 := k2.laterF
  have Qk2 := k2.lt
  have Lk3 := k3.later
  have Fk3 := k3.laterF
  have Qk3 := k3.lt
  have Lk5 := k5.later
  have Fk5 := k5.laterF
  have Qk5 := k5.lt
  have Lk6 := k6.later
  have Fk6 := k6.laterF
  have Qk6 := k6.lt
  go_upto_region 3 with (first | (go_at_call 53; (with_reducible refine (hcv.out _ (bl_tr hb0 (by (exact zE)))).mono ?_); rintro e w3 ⟨rfl, hb3⟩; replace hb3 := bl_tt hb3) | (go_at_call 48; (with_reducible refine (c_first2 (by (exact zK))).mono ?_); rintro e w3 ⟨rfl, rfl⟩))
  apply absB5 (w0 := w) (g0 := w.heap.size) (g1 := w.heap.size + 2) (g2 := w.heap.size + 3) (g3 := wa.heap.size) (g4 := wa.heap.size + 1)
  iterate 6 (focus exact zL)
  try clear hb3
  try clear Lk0
  try clear Fk0
  try clear Qk0
  try clear Lk2
  try clear Fk2
  try clear Qk2
  try clear Lk3
  try clear Fk3
  try clear Qk3
  try clear Lk5
  try clear Fk5
  try clear Qk5
  try clear Lk6
  try clear Fk6
  try clear Qk6
  try clear hb0
  try clear k0
  try clear k2
  try clear k3
  try clear k5
  try clear k6
  intro wc hb0 k0 k2 k3 k5 k6
  (try simp only [List.setIfInBounds_toArray, List.set_cons_zero, List.set_cons_succ] at k0 k2 k3 k5 k6)
  have Lk0 := k0.later
  have Fk0 := k0.laterF
  have Qk0 := k0.lt
  have Lk2 := k2.later
  have Fk2 := k2.laterF
  have Qk2 := k2.lt
  have Lk3 := k3.later
  have Fk3 := k3.laterF
  have Qk3 := k3.lt
  have Lk5 := k5.later
  have Fk5 := k5.laterF
  have Qk5 := k5.lt
  have Lk6 := k6.later
  have Fk6 := k6.laterF
  have Qk6 := k6.lt
  rw [← hme.out]
  by_cases h0 : votedE n b v = 0
  · have h0' : (votedE n b v != 0) = false := by simp [h0]
    have hbo := hok.out h0
    have hcs := Lib.hid fun W : World => c_search b W hbo
    by_cases hsz : b.size ≤ 20000
    · have hcc' := Lib.hid fun (W : World) (hb : Below w.heap.size w W) => hcc.out W hb h0 hsz
      have hs := Lib.hid (hs3.out h0 hsz)
      have hsz' : Hid (unl (decide (b.size ≤ 20000)) 8 = 0) := by simp [unl, hsz]; exact Lib.hid trivial
      rw [hsz'.out] at hcs
      replace h0 := Lib.hid h0
      clear hs1 hs2 hs3 hcc hco hcv hok hme
      generalize votesB n b v = s at *
      obtain ⟨o, m⟩ := s
      dsimp only at hs hcc'
      go_upto_region 6 with (go_at_call 86; (with_reducible refine (hcs.out _).mono ?_); rintro e w3 ⟨rfl, hb3⟩; replace hb3 := bl_tt hb3)
      apply absB5 (w0 := w) (g0 := w.heap.size) (g1 := w.heap.size + 2) (g2 := w.heap.size + 3) (g3 := wa.heap.size) (g4 := wa.heap.size + 1)
      iterate 6 (focus exact zL)
      try clear hb3
      try clear Lk0
      try clear Fk0
      try clear Qk0
      try clear Lk2
      try clear Fk2
      try clear Qk2
      try clear Lk3
      try clear Fk3
      try clear Qk3
      try clear Lk5
      try clear Fk5
      try clear Qk5
      try clear Lk6
      try clear Fk6
      try clear Qk6
      try clear hb0
      try clear k0
      try clear k2
      try clear k3
      try clear k5
      try clear k6
      intro wd hb0 k0 k2 k3 k5 k6
      (try simp only [List.setIfInBounds_toArray, List.set_cons_zero, List.set_cons_succ] at k0 k2 k3 k5 k6)
      have Lk0 := k0.later
      have Fk0 := k0.laterF
      have Qk0 := k0.lt
      have Lk2 := k2.later
      have Fk2 := k2.laterF
      have Qk2 := k2.lt
      have Lk3 := k3.later
      have Fk3 := k3.laterF
      have Qk3 := k3.lt
      have Lk5 := k5.later
      have Fk5 := k5.laterF
      have Qk5 := k5.lt
      have Lk6 := k6.later
      have Fk6 := k6.laterF
      have Qk6 := k6.lt
      go_upto_region 9 with (go_at_call 90; (with_reducible refine (hcc'.out _ (bl_tr hb0 (by (exact zE)))).mono ?_); rintro e w3 ⟨rfl, hb3⟩; replace hb3 := bl_tt hb3)
      apply absB6 (w0 := w) (g0 := w.heap.size) (g1 := w.heap.size + 2) (g2 := w.heap.size + 3) (g3 := wa.heap.size) (g4 := wa.heap.size + 1) (g5 := w3.heap.size)
      iterate 7 (focus exact zL)
      try clear hb3
      try clear Lk0
      try clear Fk0
      try clear Qk0
      try clear Lk2
      try clear Fk2
      try clear Qk2
      try clear Lk3
      try clear Fk3
      try clear Qk3
      try clear Lk5
      try clear Fk5
      try clear Qk5
      try clear Lk6
      try clear Fk6
      try clear Qk6
      try clear hb0
      try clear k0
      try clear k2
      try clear k3
      try clear k5
      try clear k6
      try clear k8
      intro we hb0 k0 k2 k3 k5 k6 k8
      (try simp only [List.setIfInBounds_toArray, List.set_cons_zero, List.set_cons_succ] at k0 k2 k3 k5 k6 k8)
      have Lk0 := k0.later
      have Fk0 := k0.laterF
      have Qk0 := k0.lt
      have Lk2 := k2.later
      have Fk2 := k2.laterF
      have Qk2 := k2.lt
      have Lk3 := k3.later
      have Fk3 := k3.laterF
      have Qk3 := k3.lt
      have Lk5 := k5.later
      have Fk5 := k5.laterF
      have Qk5 := k5.lt
      have Lk6 := k6.later
      have Fk6 := k6.laterF
      have Qk6 := k6.lt
      have Lk8 := k8.later
      have Fk8 := k8.laterF
      have Qk8 := k8.lt
      by_cases hm0 : m = 0
      · have hm0' : decide ((m : Int) = 0) = true := by simp [hm0]
        have hs' : Hid (votedS n b v = (bx0, 0, 12)) := by rw [hs.out, if_pos hm0]; exact Lib.hid rfl
        clear hs
        go_wp2
        apply absPB1 (w0 := w) (g0 := w.heap.size + 3)
        iterate 2 (focus exact zL)
        try clear hb3
        try clear hb0
        try clear k3
        intro wz hb0 k3
        (try simp only [List.setIfInBounds_toArray, List.set_cons_zero, List.set_cons_succ] at k3)
        have hr := k3.cell
        refine bodyPost_ret (v := .tuple #[vBx bx0, .int .i64 0, .int .i64 12]) (by simp [results, Tryz.results40, go_sem, hr, bx0]) rfl ⟨by rw [hs'.out] <;> rfl, hb0⟩
      · have hm0' : decide ((m : Int) = 0) = false := by simp [hm0]
        have hs' : Hid (votedS n b v = (o, (m : Int), 0)) := by rw [hs.out, if_neg hm0]; exact Lib.hid rfl
        clear hs
        go_wp2_with ((go_at_call 59; (with_reducible refine (c_box o _).mono ?_); rintro e w3 ⟨rfl, hb3⟩; replace hb3 := bl_tt hb3))
        apply absPB1 (w0 := w) (g0 := w.heap.size + 3)
        iterate 2 (focus exact zL)
        try clear hb3
        try clear hb0
        try clear k3
        intro wz hb0 k3
        (try simp only [List.setIfInBounds_toArray, List.set_cons_zero, List.set_cons_succ] at k3)
        have hr := k3.cell
        refine bodyPost_ret (v := .tuple #[vBx o, .int .i64 m, .int .i64 0]) (by simp [results, Tryz.results40, go_sem, hr, bx0]) rfl ⟨by rw [hs'.out] <;> rfl, hb0⟩
    · have hs := Lib.hid (hs2.out h0 (by omega))
      have hsz' : Hid (unl (decide (b.size ≤ 20000)) 8 = 8) := by simp [unl, hsz]; exact Lib.hid trivial
      rw [hsz'.out] at hcs
      replace h0 := Lib.hid h0
      clear hs1 hs2 hs3 hcc hco hcv hok hme
      go_wp2_with (go_at_call 86; (with_reducible refine (hcs.out _).mono ?_); rintro e w3 ⟨rfl, hb3⟩; replace hb3 := bl_tt hb3)
      apply absPB1 (w0 := w) (g0 := w.heap.size + 3)
      iterate 2 (focus exact zL)
      try clear hb3
      try clear hb0
      try clear k3
      intro wz hb0 k3
      (try simp only [List.setIfInBounds_toArray, List.set_cons_zero, List.set_cons_succ] at k3)
      have hr := k3.cell
      refine bodyPost_ret (v := .tuple #[vBx bx0, .int .i64 0, .int .i64 8]) (by simp [results, Tryz.results40, go_sem, hr, bx0]) rfl ⟨by rw [hs.out] <;> rfl, hb0⟩
  · have h0' : (votedE n b v != 0) = true := by simp [h0]
    have hs := Lib.hid (hs1.out h0)
    replace h0 := Lib.hid h0
    clear hs1 hs2 hs3 hcc hco hcv hok hme
    go_wp2
    apply absPB1 (w0 := w) (g0 := w.heap.size + 3)
    iterate 2 (focus exact zL)
    try clear hb3
    try clear hb0
    try clear k3
    intro wz hb0 k3
    (try simp only [List.setIfInBounds_toArray, List.set_cons_zero, List.set_cons_succ] at k3)
    have hr := k3.cell
    refine bodyPost_ret (v := .tuple #[vBx bx0, .int .i64 0, .int .i64 (votedE n b v)]) (by simp [results, Tryz.results40, go_sem, hr, bx0]) rfl ⟨by rw [hs.out] <;> rfl, hb0⟩
end Go.Proofs.YtephimmamkafoaaGreat
namespace Go.Proofs.YtephimmamkafoaaGreat
def lexB : List Int → List Int → Bool
  | [], [] => false
  | [], _ :: _ => true
  | _ :: _, [] => false
  | x :: a, y :: b => if x = y then lexB a b else decide (x < y)
end Go.Proofs.YtephimmamkafoaaGreat
namespace Go.Proofs.YtephimmamkafoaaGreat
open Go.RowKit
attribute [local go_sem] bl_al bl_drew bl_drewN bl_refl
set_option maxRecDepth 20000
def cmpI (x y : Int) : Int := if x < y then -1 else if y < x then 1 else 0
def cmpL : List Int → List Int → Int
  | [], [] => 0
  | [], _ :: _ => -1
  | _ :: _, [] => 1
  | x :: a, y :: b => if x = y then cmpL a b else cmpI x y
theorem cmpL_lt : ∀ a b : List Int, decide (cmpL a b < 0) = lexB a b
  | [], [] => rfl
  | [], _ :: _ => rfl
  | _ :: _, [] => rfl
  | x :: a, y :: b => by
    unfold cmpL lexB
    by_cases h : x = y
    · rw [if_pos h, if_pos h]; exact cmpL_lt a b
    · rw [if_neg h, if_neg h]
      unfold cmpI
      by_cases h1 : x < y
      · simp [h1]
      · have h2 : y < x := by omega
        simp [h1, h2]
theorem c_isNaN (x : Int) (w : World) : Calls Tryz.prog 124 #[.int .i64 x] w (Same (.bool false) w) := by
  go_enter Tryz.func124, Tryz.ntmps124
  go_wp2
  go_ret
  exact ⟨by simp, rfl⟩
theorem c_cmp (x y : Int) (w : World) : Calls Tryz.prog 105 #[.int .i64 x, .int .i64 y] w (Same (.int .i64 (cmpI x y)) w) := by
  by_cases h1 : x < y
  · have e : cmpI x y = -1 := by rw [cmpI, if_pos h1]
    have e1 : decide (x < y) = true := by simp [h1]
    rw [e]
    clear h1
    go_enter Tryz.func105, Tryz.ntmps105
    go_wp2_with (go_at_call 124; (with_reducible refine (c_isNaN _ _).mono ?_); rintro e w3 ⟨rfl, rfl⟩)
    go_ret
    exact ⟨rfl, rfl⟩
  · have e1 : decide (x < y) = false := by simp [h1]
    by_cases h2 : y < x
    · have e : cmpI x y = 1 := by rw [cmpI, if_neg h1, if_pos h2]
      have e2 : decide (y < x) = true := by simp [h2]
      rw [e]
      clear h1 h2
      go_enter Tryz.func105, Tryz.ntmps105
      go_wp2_with (go_at_call 124; (with_reducible refine (c_isNaN _ _).mono ?_); rintro e w3 ⟨rfl, rfl⟩)
      go_ret
      exact ⟨rfl, rfl⟩
    · have e : cmpI x y = 0 := by rw [cmpI, if_neg h1, if_neg h2]
      have e2 : decide (y < x) = false := by simp [h2]
      rw [e]
      clear h1 h2
      go_enter Tryz.func105, Tryz.ntmps105
      go_wp2_with (go_at_call 124; (with_reducible refine (c_isNaN _ _).mono ?_); rintro e w3 ⟨rfl, rfl⟩)
      go_ret
      exact ⟨rfl, rfl⟩
theorem cmpL_drop {a b : List Int} {k : Nat} {x y : Int} (hx : a[k]? = some x) (hy : b[k]? = some y) : cmpL (a.drop k) (b.drop k) = if x = y then cmpL (a.drop (k + 1)) (b.drop (k + 1)) else cmpI x y := by
  have h1 := (List.getElem?_eq_some_iff.1 hx).1
  have h2 := (List.getElem?_eq_some_iff.1 hy).1
  rw [List.drop_eq_getElem_cons h1, List.drop_eq_getElem_cons h2, (List.getElem?_eq_some_iff.1 hx).2, (List.getElem?_eq_some_iff.1 hy).2, cmpL]
theorem cmpL_end {a b : List Int} {k : Nat} (hk1 : k ≤ a.length) (hk2 : k ≤ b.length) (h : a.length ≤ k) : cmpL (a.drop k) (b.drop k) = if a.length < b.length then -1 else 0 := by
  rw [List.drop_of_length_le h]
  by_cases h2 : b.length ≤ k
  · rw [List.drop_of_length_le h2, cmpL, if_neg (by omega)]
  · rw [List.drop_eq_getElem_cons (by omega : k < b.length), cmpL, if_pos (by omega)]
theorem cmpL_long {a b : List Int} {k : Nat} {x : Int} (hx : a[k]? = some x) (h : b.length ≤ k) : cmpL (a.drop k) (b.drop k) = 1 := by
  rw [List.drop_of_length_le h, List.drop_eq_getElem_cons (List.getElem?_eq_some_iff.1 hx).1, cmpL]
set_option maxHeartbeats 4000000 in
theorem c_Compare (a b : List Int) (A B : Option Addr) (c d : Nat) (w : World) (ha : Sl cI 1 w A a) (hb : Sl cI 1 w B b) (h1 : a.length ≤ 1000) (h2 : b.length ≤ 1000) :
    Calls Tryz.prog 88 #[.slice A a.length c, .slice B b.length d] w (Ret (.int .i64 (cmpL a b)) w) := by
  have Ha := Lib.hid ha
  have Hb := Lib.hid hb
  clear ha hb
  have hend := Lib.hid (fun k => cmpL_end (a := a) (b := b) (k := k))
  have hlong := Lib.hid (fun k x => cmpL_long (a := a) (b := b) (k := k) (x := x))
  obtain ⟨n, Hn⟩ : ∃ n, Hid (a.length = n) := ⟨_, rfl⟩
  obtain ⟨m, Hm⟩ : ∃ n, Hid (b.length = n) := ⟨_, rfl⟩
  rw [Hn.out] at h1 hend ⊢
  rw [Hm.out] at h2 hend hlong ⊢
  go_enter Tryz.func88, Tryz.ntmps88
  go_wp2
  go_loopw [11] (fun i wr => ∃ k : Nat, k ≤ n ∧ k ≤ m ∧ i = .int .i64 k ∧ Below w.heap.size w wr ∧ cmpL a b = cmpL (a.drop k) (b.drop k)) (fun i _ => n - (intOf i).toNat)
  case atStart => exact ⟨0, Nat.zero_le _, Nat.zero_le _, rfl, Below.refl _ _, rfl⟩
  case round =>
    obtain ⟨k, hk, hk2, rfl, hbw, hi⟩ := hrel
    replace hi := Lib.hid hi
    by_cases hlt : k < n
    · have hx : a[k]? = some (a[k]'(by rw [Hn.out]; exact hlt)) := List.getElem?_eq_getElem _
      generalize a[k]'(by rw [Hn.out]; exact hlt) = x at hx
      obtain ⟨ba, oa, hA, hca⟩ := Ha.out k x hx
      have c0 : wr.cell? ⟨ba, oa + k, none⟩ = some (.int .i64 x) := by have := kcell hbw (hca 0 _ rfl); simpa using this
      clear hca
      subst hA
      by_cases hlt2 : k < m
      · have hy : b[k]? = some (b[k]'(by rw [Hm.out]; exact hlt2)) := List.getElem?_eq_getElem _
        generalize b[k]'(by rw [Hm.out]; exact hlt2) = y at hy
        obtain ⟨bb, ob, hB, hcb⟩ := Hb.out k y hy
        have c1 : wr.cell? ⟨bb, ob + k, none⟩ = some (.int .i64 y) := by have := kcell hbw (hcb 0 _ rfl); simpa using this
        have hd := Lib.hid (cmpL_drop hx hy)
        clear hcb hx hy hend hlong
        subst hB
        by_cases hxy : x = y
        · have h' : Hid (cmpL a b = cmpL (a.drop (k + 1)) (b.drop (k + 1))) := Lib.hid (by rw [hi.out, hd.out, if_pos hxy])
          have e : cmpI x y = 0 := by rw [hxy, cmpI, if_neg (Int.lt_irrefl y), if_neg (Int.lt_irrefl y)]
          have hc := Lib.hid fun W : World => e ▸ c_cmp x y W
          clear hxy hd hi e
          go_wp2_with (go_at_call 105; (with_reducible refine (hc.out _).mono ?_); rintro e w3 ⟨rfl, rfl⟩)
          go_roundw
          case rel => exact ⟨k + 1, by omega, by omega, by go_num, hbw, h'.out⟩
          case measure => simp [intOf]; omega
        · have h' : Hid (cmpL a b = cmpI x y) := Lib.hid (by rw [hi.out, hd.out, if_neg hxy])
          have e : (cmpI x y != 0) = true := by
            unfold cmpI
            by_cases h : x < y
            · simp [h]
            · have : y < x := by omega
              simp [h, this]
          have hc := Lib.hid fun W : World => c_cmp x y W
          generalize cmpI x y = z at *
          clear hxy hd hi
          go_wp2_with (go_at_call 105; (with_reducible refine (hc.out _).mono ?_); rintro e w3 ⟨rfl, rfl⟩)
          go_ret
          exact ⟨by rw [h'.out] <;> rfl, hbw⟩
      · have h' : Hid (cmpL a b = 1) := Lib.hid (by rw [hi.out]; exact hlong.out k x hx (by omega))
        clear hend hlong hi hx
        go_wp2
        go_ret
        exact ⟨by rw [h'.out] <;> rfl, hbw⟩
    · have h' : Hid (cmpL a b = if n < m then -1 else 0) := Lib.hid (by rw [hi.out]; exact hend.out k (by omega) (by omega) (by omega))
      clear hend hlong hi
      by_cases hnm : n < m
      · have h2' : Hid (cmpL a b = -1) := Lib.hid (by rw [h'.out, if_pos hnm])
        have e : decide (n < m) = true := by simp [hnm]
        clear h' hnm
        go_wp2
        go_ret
        exact ⟨by rw [h2'.out] <;> rfl, hbw⟩
      · have h2' : Hid (cmpL a b = 0) := Lib.hid (by rw [h'.out, if_neg hnm])
        have e : decide (n < m) = false := by simp; omega
        clear h' hnm
        go_wp2
        go_ret
        exact ⟨by rw [h2'.out] <;> rfl, hbw⟩
end Go.Proofs.YtephimmamkafoaaGreat
