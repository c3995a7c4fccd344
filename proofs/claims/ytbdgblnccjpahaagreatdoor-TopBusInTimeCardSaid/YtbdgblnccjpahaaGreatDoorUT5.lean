/-
  Walks: the ranges of ticks at which a source is silent.
  Walks: a string of numbers with a sign between, read.
  Walk: strings.Cut at a separator of one byte.
  Walks: strings joined; numbers as strings with a sign between.
-/
import Derived.Test.YtbdgblnccjpahaaGreatDoorUT4
import Derived.Laws.EntriesVeiled
import Derived.Test.YtbdgblnccjpahaaGreatDoorUT3
import Derived.Sort.CutIn
import Derived.Test.YtbdgblnccjpahaaGreatDoorUT1
import Derived.Laws.Strings2
import Derived.Lib.ItoaLen
import Derived.Lib.JoinLaws
set_option linter.unusedSimpArgs false
set_option linter.unusedVariables false
namespace Go.Proofs.YtbdgblnccjpahaaGreatDoor
open Go.RowKit Go.Shelf
attribute [local go_sem] bl_al bl_drew bl_drewN bl_refl bx_al bx_drew bx_drewN bx_refl
set_option maxRecDepth 20000
theorem c_sil1 (x : Int) (w : World) : Calls Tryz.prog 70 #[.int .i64 x] w (Same (.bool (tickB x)) w) := by
  go_enter Tryz.func70, Tryz.ntmps70
  go_wp2_with (go_at_call 71; (with_reducible refine (c_within _ _ _ _).mono ?_); rintro e w3 ⟨rfl, rfl⟩)
  go_ret
  exact ⟨rfl, rfl⟩
set_option maxHeartbeats 2000000 in
theorem c_sil2 (k x la : Int) (B1 B2 : Nat) (t : TypeId) (w : World) (k1 : Blk w B1 t #[.func (.func 70) #[] #[]]) (k2 : Blk w B2 3 #[.int .i64 la]) :
    Calls Tryz.prog 73 #[.int .i64 k, .int .i64 x, .pointer (some ⟨B1, 0, none⟩), .pointer (some ⟨B2, 0, none⟩)] w
      (fun e w' => e = .returned (.int .i64 (fstE [unl (tickB x) 2, unl (decide (la < x)) 9])) ∧ BX [B2] w w' ∧ Blk w' B2 3 #[.int .i64 x]) := by
  go_enter Tryz.func73, Tryz.ntmps73
  go_upto_region 1 with fail
  first
  | apply absB2 (w0 := w) (g0 := B1) (g1 := B2)
  | apply absTB2 (w0 := w) (g0 := B1) (g1 := B2)
  | apply absIB2 (w0 := w) (g0 := B1) (g1 := B2)
  iterate 3 (focus exact zL)
  try clear hb3
  try clear hb0
  try clear k1
  try clear k2
  intro wa hb0 k1 k2
  (try simp only [List.setIfInBounds_toArray, List.set_cons_zero, List.set_cons_succ] at k1 k2)
  have Lk1 := k1.later
  have Fk1 := k1.laterF
  have Qk1 := k1.lt
  have Lk2 := k2.later
  have Fk2 := k2.laterF
  have Qk2 := k2.lt
  refine wp_any (w0 := wa) ⟨[], [], [some 8, some 9, some 10, some 11, some 12, some 13, some 14, some 15, some 16, some 17, some 7], [[], [], [0, 1], [0, 1, 2], [], [], [4, 5], [0, 1, 2, 3, 4, 5, 6], [0, 1, 2, 3, 4, 5, 6, 7], [0, 1, 2, 3, 4, 5, 6, 7, 8], [0, 1, 2, 3, 4, 5, 6, 7, 8, 9]], [[], [], [0, 1], [2], [], [], [4, 5], [6], [3, 7], [8], [8, 9]]⟩ (fun _ => []) (by kernel_rfl) (by kernel_rfl) (by (exact zE)) (fun u => by simp only [putD, Act.put, List.setIfInBounds_toArray, List.set_cons_zero, List.set_cons_succ, Nat.zero_add, Nat.reduceAdd]; rfl) ?_
  apply RGW.on (i := 0) rfl
  · exact zG
  · intro γ u W hcur hd
    clear hd
    (try dsimp only)
    exact ⟨rfl, zS⟩
  · exact zC
  · rfl
  dsimp only [nA, cA]
  apply RGW.on (i := 1) rfl
  · exact zG
  · intro γ u W hcur hd
    clear hd
    (try dsimp only)
    exact ⟨rfl, zS⟩
  · exact zC
  · rfl
  dsimp only [nA, cA]
  apply RGW.call (i := 2) rfl
  · exact zG
  · intro γ u W hcur hd
    obtain ⟨⟨h0, -, -⟩, ⟨h1, -, -⟩, -⟩ := hd
    dsimp only at h0 h1
    (try simp only [h0, h1])
    refine ⟨rfl, fun K hK => ?_⟩
    go_simp
    first
    | (go_at_call 70; (with_reducible refine (c_sil1 _ _).mono ?_); rintro e w3 ⟨rfl, rfl⟩)
    | (go_at_call 58; (with_reducible refine (c_unless _ _ _).mono ?_); rintro e w3 ⟨rfl, rfl⟩)
    | (go_at_call 74; (with_reducible refine (c_first2 (by (exact zK))).mono ?_); rintro e w3 ⟨rfl, rfl⟩)
    (try dsimp only)
    exact hK.out _ _ rfl (by (exact zE))
  · exact zC
  · rfl
  dsimp only [nA, cA]
  apply RGW.call (i := 3) rfl
  · exact zG
  · intro γ u W hcur hd
    obtain ⟨⟨h2, -, -⟩, -⟩ := hd
    dsimp only at h2
    (try simp only [h2])
    refine ⟨rfl, fun K hK => ?_⟩
    go_simp
    first
    | (go_at_call 70; (with_reducible refine (c_sil1 _ _).mono ?_); rintro e w3 ⟨rfl, rfl⟩)
    | (go_at_call 58; (with_reducible refine (c_unless _ _ _).mono ?_); rintro e w3 ⟨rfl, rfl⟩)
    | (go_at_call 74; (with_reducible refine (c_first2 (by (exact zK))).mono ?_); rintro e w3 ⟨rfl, rfl⟩)
    (try dsimp only)
    exact hK.out _ _ rfl (by (exact zE))
  · exact zC
  · rfl
  dsimp only [nA, cA]
  apply RGW.on (i := 4) rfl
  · exact zG
  · intro γ u W hcur hd
    clear hd
    (try dsimp only)
    exact ⟨rfl, zS⟩
  · exact zC
  · rfl
  dsimp only [nA, cA]
  apply RGW.on (i := 5) rfl
  · exact zG
  · intro γ u W hcur hd
    clear hd
    (try dsimp only)
    exact ⟨rfl, zS⟩
  · exact zC
  · rfl
  dsimp only [nA, cA]
  apply RGW.on (i := 6) rfl
  · exact zG
  · intro γ u W hcur hd
    obtain ⟨⟨h4, -, -⟩, ⟨h5, -, -⟩, -⟩ := hd
    dsimp only at h4 h5
    (try simp only [h4, h5])
    exact ⟨rfl, zS⟩
  · exact zC
  · rfl
  dsimp only [nA, cA]
  apply RGW.call (i := 7) rfl
  · exact zG
  · intro γ u W hcur hd
    obtain ⟨⟨h6, -, -⟩, -⟩ := hd
    dsimp only at h6
    (try simp only [h6])
    refine ⟨rfl, fun K hK => ?_⟩
    go_simp
    first
    | (go_at_call 70; (with_reducible refine (c_sil1 _ _).mono ?_); rintro e w3 ⟨rfl, rfl⟩)
    | (go_at_call 58; (with_reducible refine (c_unless _ _ _).mono ?_); rintro e w3 ⟨rfl, rfl⟩)
    | (go_at_call 74; (with_reducible refine (c_first2 (by (exact zK))).mono ?_); rintro e w3 ⟨rfl, rfl⟩)
    (try dsimp only)
    exact hK.out _ _ rfl (by (exact zE))
  · exact zC
  · rfl
  dsimp only [nA, cA]
  apply RGW.bslice (i := 8) rfl
  · exact zG
  · intro γ u W hcur hd
    obtain ⟨⟨h3, -, -⟩, ⟨h7, -, -⟩, -⟩ := hd
    dsimp only at h3 h7
    (try simp only [h3, h7])
    refine ⟨rfl, fun K hK => ?_⟩
    go_simp
    exact hK.out _ _ rfl rfl
  · exact zC
  · rfl
  · rfl
  dsimp only [nA, cA]
  apply RGW.call (i := 9) rfl
  · exact zG
  · intro γ u W hcur hd
    obtain ⟨⟨h8, r8, -⟩, -⟩ := hd
    dsimp only at h8 r8
    have L8 := r8.cell
    (try simp only [h8])
    refine ⟨rfl, fun K hK => ?_⟩
    go_simp
    first
    | (go_at_call 70; (with_reducible refine (c_sil1 _ _).mono ?_); rintro e w3 ⟨rfl, rfl⟩)
    | (go_at_call 58; (with_reducible refine (c_unless _ _ _).mono ?_); rintro e w3 ⟨rfl, rfl⟩)
    | (go_at_call 74; (with_reducible refine (c_first2 (by (exact zK))).mono ?_); rintro e w3 ⟨rfl, rfl⟩)
    (try dsimp only)
    exact hK.out _ _ rfl (by (exact zE))
  · first
    | exact zC
    | intro γ γ' hg
      try dsimp only
      have e8 := hg 8 (by decide)
      simp only [e8]
  · rfl
  dsimp only [nA, cA]
  apply RGW.on (i := 10) rfl
  · exact zG
  · intro γ u W hcur hd
    obtain ⟨⟨h8, r8, -⟩, ⟨h9, -, -⟩, -⟩ := hd
    dsimp only at h8 h9 r8
    have L8 := r8.cell
    (try simp only [h8, h9])
    exact ⟨rfl, zS⟩
  · first
    | exact zC
    | intro γ γ' hg
      try dsimp only
      have e8 := hg 8 (by decide)
      simp only [e8]
  · rfl
  dsimp only [nA, cA]
  refine RGW.fin (fun γ u wb hwb hd hdis => ?_)
  obtain ⟨⟨h0, -, -⟩, ⟨h1, -, -⟩, ⟨h2, -, -⟩, ⟨h3, -, -⟩, ⟨h4, -, -⟩, ⟨h5, -, -⟩, ⟨h6, -, -⟩, ⟨h7, -, -⟩, ⟨h8, r8, b8⟩, ⟨h9, -, -⟩, ⟨h10, -, -⟩, -⟩ := hd
  dsimp only at h0 h1 h2 h3 h4 h5 h6 h7 h8 h9 h10 r8 b8
  clear hdis
  simp only [h0, h1, h2, h3, h4, h5, h6, h7, h8, h9, h10]
  clear h10 h9 h8 h7 h6 h5 h4 h3 h2 h1 h0
  replace b8 := b8 _ (List.mem_singleton.2 rfl)
  generalize hγ8 : (γ 8).n = g8 at *
  clear hγ8
  clear u
  simp only [List.map_nil]
  refine PlanW.done ?_
  have hb3 := bl_tt hwb
  have hbw := hb3 _ hb0
  replace k2 := k2.below hwb
  have L2 := k2.cell
  have F2 := k2.frozen
  go_wp2
  go_ret
  exact ⟨rfl, bx_set (.inl (by simp)) _ (bx_bl _ hbw), k2.set1 (by simp)⟩
theorem infoR : (Tryz.prog.info? 48).map (fun i => (i.zero, i.size, i.bytes)) = some (some (.agg #[.int .i64 0, .int .i64 0]), 2, 16) := by kernel_rfl
theorem Blk.grown {w w' : World} {g : Nat} {t : TypeId} {cs : Array Value} {row : Option Nat} (h : Blk w g t cs) (hg : w.grownBy w' row) (hne : some g ≠ row) : Blk w' g t cs := (hg.block g h.lt hne).trans h
theorem ne_own {w : World} {base n g : Nat} {e : TypeId} {size : Nat} {v : Value} {xs : List Value} (h : w.ownsRow base e size v n xs) (hg : g < base) : some g ≠ v.ownBlock := fun e => by
  have := own_ge h g e.symm
  omega
theorem own_slice {w : World} {base n : Nat} {e : TypeId} {size : Nat} {v : Value} {xs : List Value} (h : w.ownsRow base e size v n xs) : ∃ A c, v = .slice A n c := by
  rcases h.2 with ⟨e, hn⟩ | ⟨g, cap, cur, e, _⟩
  · exact ⟨none, 0, by rw [e, hn]⟩
  · exact ⟨_, _, e⟩
theorem own_set {w : World} {base n g i : Nat} {e : TypeId} {size : Nat} {v : Value} {xs : List Value} (u : Value) (h : w.ownsRow base e size v n xs) (hg : g < base) : (w.setCell ⟨g, i, none⟩ u).ownsRow base e size v n xs :=
  own_bx h (bx_set (X := [g]) (.inl (by simp)) u (bx_refl _ _)) (by simp; omega)
set_option maxHeartbeats 4000000 in
theorem c_sil3 (to f lo hi : Int) (L : List Rg) (v : Value) (Bs Bf Bo base D : Nat) (w : World) (ks : Blk w Bs 48 #[.int .i64 lo, .int .i64 hi]) (kf : Blk w Bf 3 #[.int .i64 f]) (ko : Blk w Bo 44 #[v])
    (hown : w.ownsRow base 48 2 v L.length (L.flatMap cRg)) (h1 : Bs < base) (h2 : Bf < base) (h3 : Bo < base) (hos : Bs ≠ Bo) (hof : Bf ≠ Bo) (hD : D ≤ Bo) (hL : L.length ≤ 1000) (hbase : base ≤ w.heap.size) :
    Calls Tryz.prog 75 #[.int .i64 to, .pointer (some ⟨Bs, 0, none⟩), .pointer (some ⟨Bf, 0, none⟩), .pointer (some ⟨Bo, 0, none⟩)] w
      (fun e w' => (∃ u, e = .returned u) ∧ Below D w w' ∧ Blk w' Bs 48 #[.int .i64 lo, .int .i64 hi] ∧ Blk w' Bf 3 #[.int .i64 f] ∧
        ∃ v', Blk w' Bo 44 #[v'] ∧ w'.ownsRow base 48 2 v' (L ++ silOne f to hi).length ((L ++ silOne f to hi).flatMap cRg)) := by
  obtain ⟨i0, hi0, hz0, hz1, hz2⟩ := info_parts infoR
  have Hown := Lib.hid hown
  clear hown
  have Ls := ks.cell
  have Lf := kf.cell
  have Lo := ko.cell
  have hyes : Hid (f ≤ min to hi → silOne f to hi = [⟨f, min to hi⟩]) := fun h => by rw [silOne, if_pos h]
  have hno : Hid (¬ f ≤ min to hi → silOne f to hi = []) := fun h => by rw [silOne, if_neg h]
  obtain ⟨m, hm⟩ : ∃ m, min to hi = m := ⟨_, rfl⟩
  rw [hm] at hyes hno
  by_cases hfm : f ≤ m
  · have hv := Lib.hid (hyes.out hfm)
    clear hyes hno
    have hfl : Hid ((cRg ⟨f, m⟩) = [.int .i64 f, .int .i64 m]) := rfl
    go_enter Tryz.func75, Tryz.ntmps75
    go_wp2_with (at_builtin; refine wpList_append_own _ rfl _ _ 44 rfl base 48 i0 (.agg #[.int .i64 0, .int .i64 0]) 2 16 Tryz.underlying44 hi0 hz0 hz1 hz2 rfl (by decide) v L.length _ rfl (Hown.out.alloc _) ⟨w.heap.size, 0, none⟩ 1 1 [.int .i64 f, .int .i64 m] rfl rfl ?c1 ?c2 ?c3 ?c4 ?c5 ?_)
    case c1 =>
      intro j u hj
      match j, hj with
      | 0, hj => simp at hj; subst hj; simp [Addr.add]
      | 1, hj => simp at hj; subst hj; simp [Addr.add]
    case c2 => intro u hu; simp at hu; rcases hu with rfl | rfl <;> rfl
    case c3 => unfold maxLen; omega
    case c4 => omega
    case c5 => simp; omega
    intro v' w1 hown' hgrow _
    obtain ⟨A', c', rfl⟩ := own_slice hown'
    have hno := ne_own Hown.out h1
    have hnf := ne_own Hown.out h2
    have hnb := ne_own Hown.out h3
    have hge := own_ge Hown.out
    have ks1 := (ks.alloc (.cells #[.int .i64 f, .int .i64 m] 48)).grown hgrow hno
    have kf1 := (kf.alloc (.cells #[.int .i64 f, .int .i64 m] 48)).grown hgrow hnf
    have ko1 := (ko.alloc (.cells #[.int .i64 f, .int .i64 m] 48)).grown hgrow hnb
    have hb1 : Below D w w1 := (((Below.refl D w).alloc (by omega) _).grown hgrow (by simp; omega) (fun k hk => by have := hge k hk; omega))
    have hown2 : w1.ownsRow base 48 2 (.slice A' (L.length + 1) c') (L ++ silOne f to hi).length ((L ++ silOne f to hi).flatMap cRg) := by
      rw [hv.out]
      simpa [hfl.out] using hown'
    replace hown2 := Lib.hid hown2
    clear hown' hgrow hno hnf hnb hge Ls Lf Lo ks kf ko Hown
    have Lo := ko1.cell
    have Fo := ko1.frozen
    go_wp2
    go_end0
    exact ⟨⟨_, rfl⟩, hb1.setCell (by exact hD) _, ks1.other hos _, kf1.other hof _, _, ko1.set1 (by simp), own_set _ hown2.out h3⟩
  · have hv := Lib.hid (hno.out hfm)
    clear hyes hno
    go_enter Tryz.func75, Tryz.ntmps75
    go_wp2
    go_end0
    exact ⟨⟨_, rfl⟩, Below.refl _ _, ks, kf, v, ko, by rw [hv.out]; simpa using Hown.out⟩
def frK (l : List Int) (t lo : Int) : Nat → Int
  | 0 => lo
  | k + 1 => max (frK l t lo k) (l.getD k 0 + t + 1)
def accK (l : List Int) (t lo hi : Int) : Nat → List Rg
  | 0 => []
  | k + 1 => accK l t lo hi k ++ silOne (frK l t lo k) (l.getD k 0 - 1) hi
theorem sil_acc (l : List Int) (t lo hi : Int) : ∀ k, k ≤ l.length → silFrom hi t l lo = accK l t lo hi k ++ silFrom hi t (l.drop k) (frK l t lo k)
  | 0, _ => rfl
  | k + 1, h => by
    rw [sil_acc l t lo hi k (by omega), List.drop_eq_getElem_cons (by omega : k < l.length), silFrom, accK, frK]
    simp [List.getElem?_eq_getElem (by omega : k < l.length), List.append_assoc]
theorem sil_end (l : List Int) (t lo hi : Int) : silFrom hi t l lo = accK l t lo hi l.length ++ silOne (frK l t lo l.length) hi hi := by
  rw [sil_acc l t lo hi l.length (Nat.le_refl _), List.drop_length]
  rfl
theorem frK_bd {l : List Int} {t lo : Int} (hl : ∀ n ∈ l, 0 ≤ n ∧ n ≤ 1000000000000) (ht : 0 ≤ t ∧ t ≤ 1000000000000) (h0 : 0 ≤ lo ∧ lo ≤ 1000000000000) : ∀ k, k ≤ l.length → 0 ≤ frK l t lo k ∧ frK l t lo k ≤ 3000000000000
  | 0, _ => by
    unfold frK
    omega
  | k + 1, h => by
    have := frK_bd hl ht h0 k (by omega)
    have e : l.getD k 0 = l[k]'(by omega) := by simp [List.getElem?_eq_getElem (by omega : k < l.length)]
    have := hl _ (List.getElem_mem (by omega : k < l.length))
    rw [frK, e]
    omega
theorem accK_len (l : List Int) (t lo hi : Int) : ∀ k, (accK l t lo hi k).length ≤ k
  | 0 => Nat.le_refl 0
  | k + 1 => by
    have := accK_len l t lo hi k
    have h1 : (silOne (frK l t lo k) (l.getD k 0 - 1) hi).length ≤ 1 := by
      unfold silOne
      split <;> simp
    rw [accK, List.length_append]
    omega
theorem heard_ok {l : List Int} (h : heardE l = 0) : ∀ n ∈ l, 0 ≤ n ∧ n ≤ 1000000000000 := fun n hn => by
  obtain ⟨j, hj, rfl⟩ := List.getElem_of_mem hn
  have := eachS_ok _ l 0 h j l[j] (List.getElem?_eq_getElem hj)
  simp only [fst_cons, unl_zero (show (2 : Int) ≠ 0 by decide)] at this
  exact inR_iff.1 this.1
/-- A slice of the call's own, and an error. -/
def RetP {α : Type} (cs : α → List Value) (e : TypeId) (sz : Nat) (L : List α) (x : Int) (w : World) (en : Ending) (w' : World) : Prop :=
  ∃ A c, en = .returned (.tuple #[.slice A L.length c, .int .i64 x]) ∧ Below w.heap.size w w' ∧ w'.ownsRow w.heap.size e sz (.slice A L.length c) L.length (L.flatMap cs)
def silR (l : List Int) (s : Rg) (t : Int) : List Rg := if silE l s t = 0 then silS l s t else []
set_option maxHeartbeats 8000000 in
theorem c_SilentIn (l : List Int) (s : Rg) (t : Int) (A : Option Addr) (c : Nat) (w : World) (hs : Sl cI 1 w A l) (hl : l.length ≤ 1000) :
    Calls Tryz.prog 23 #[.slice A l.length c, vRg s, .int .i64 t] w (RetP cRg 48 2 (silR l s t) (silE l s t) w) := by
  obtain ⟨lo, hi⟩ := s
  have Hs := Lib.hid hs
  have hE : Hid (silE l ⟨lo, hi⟩ t = fstE [unl (decide ((l.length : Int) ≤ 60)) 8, heardE l, unl (tickB lo && tickB hi) 2, unl (decide (lo ≤ hi)) 9, unl (tickB t) 2]) := rfl
  have hR0 : Hid (silE l ⟨lo, hi⟩ t ≠ 0 → silR l ⟨lo, hi⟩ t = []) := fun h => by rw [silR, if_neg h]
  have hR1 : Hid (silE l ⟨lo, hi⟩ t = 0 → silR l ⟨lo, hi⟩ t = accK l t lo hi l.length ++ silOne (frK l t lo l.length) hi hi) := fun h => by rw [silR, if_pos h, silS, sil_end]
  have hok : Hid (silE l ⟨lo, hi⟩ t = 0 → (∀ n ∈ l, 0 ≤ n ∧ n ≤ 1000000000000) ∧ (0 ≤ t ∧ t ≤ 1000000000000) ∧ (0 ≤ lo ∧ lo ≤ 1000000000000) ∧ l.length ≤ 60) := fun h => by
    rw [hE.out] at h
    simp only [fst_cons, unl_zero (show (2 : Int) ≠ 0 by decide), unl_zero (show (8 : Int) ≠ 0 by decide), unl_zero (show (9 : Int) ≠ 0 by decide), Bool.and_eq_true, decide_eq_true_eq, tickB, inR_iff] at h
    exact ⟨heard_ok h.2.1, h.2.2.2.2.1, h.2.2.1.1, by omega⟩
  by_cases h60 : l.length ≤ 60
  · have h60' : Hid (unl (decide ((l.length : Int) ≤ 60)) 8 = 0) := Lib.hid (by rw [unl_zero (by decide)]; simp; omega)
    have hE2 : Hid (silE l ⟨lo, hi⟩ t = fstE [heardE l, unl (tickB lo && tickB hi) 2, unl (decide (lo ≤ hi)) 9, unl (tickB t) 2]) := Lib.hid (by rw [hE.out, h60'.out]; rfl)
    clear hE h60' hs
    have hev := Lib.hid fun (B1 B2 : Nat) (ty : TypeId) (W : World) (hb : Below w.heap.size w W) (k1 : Blk W B1 ty #[.func (.func 70) #[] #[]]) (k2 : Blk W B2 3 #[.int .i64 (-1)]) (h2 : w.heap.size ≤ B2) (h12 : B1 ≠ B2) =>
      c_eachJI 73 #[.pointer (some ⟨B1, 0, none⟩), .pointer (some ⟨B2, 0, none⟩)] (fun k n => fstE [unl (tickB n) 2, unl (decide (prevI l k < n)) 9]) (fun k W => Blk W B2 3 #[.int .i64 (prevI l k)]) [B2] A l c W (by omega)
        (enters_of Tryz.func73 (by kernel_rfl) rfl) (fun k X Y h hb => h.below hb)
        (fun k x hx W' hb' hk => (c_sil2 k x (prevI l k) B1 B2 ty W' (k1.keep (by simpa using h12) hb') hk).mono fun e W2 ⟨e1, e2, e3⟩ => ⟨e1, e2, fun _ => by
          have : prevI l (k + 1) = x := by simp [prevI, hx]
          rw [this]
          exact e3⟩)
        (fun W' hb' => sl_new Hs.out ((bx_bl [B2] hb).trans hb') (by simpa using h2)) k2
    have hev2 : Hid ((eachS (fun k n => fstE [unl (tickB n) 2, unl (decide (prevI l k < n)) 9]) l 0).2 = heardE l) := rfl
    obtain ⟨n, Hn⟩ : ∃ n, Hid (l.length = n) := ⟨_, rfl⟩
    have hl60 : Hid (decide ((60 : Int) < n) = false) := Lib.hid (by rw [← Hn.out]; simp; omega)
    rw [Hn.out] at hev hl h60 ⊢
    rw [Hn.out] at hR1 hok
    have hx60 := hl60.out
    have hfin := Lib.hid fun k (h : silE l ⟨lo, hi⟩ t = 0) (hk : k ≤ n) => frK_bd (hok.out h).1 (hok.out h).2.1 (hok.out h).2.2.1 k (by rw [Hn.out]; exact hk)
    have hacl := Lib.hid fun k => accK_len l t lo hi k
    cases hA : tickB lo
    all_goals
      rw [hA] at hE2
      simp only [Bool.false_and, Bool.true_and] at hE2
      go_enter Tryz.func23, Tryz.ntmps23
      go_upto_region 5 with fail
      first
      | apply absB3 (w0 := w) (g0 := w.heap.size) (g1 := w.heap.size + 1) (g2 := w.heap.size + 2)
      | apply absTB3 (w0 := w) (g0 := w.heap.size) (g1 := w.heap.size + 1) (g2 := w.heap.size + 2)
      | apply absIB3 (w0 := w) (g0 := w.heap.size) (g1 := w.heap.size + 1) (g2 := w.heap.size + 2)
      iterate 4 (focus exact zL)
      try clear hb3
      try clear hb0
      try clear k0
      try clear k1
      try clear k2
      intro wa hb0 k0 k1 k2
      (try simp only [List.setIfInBounds_toArray, List.set_cons_zero, List.set_cons_succ] at k0 k1 k2)
      go_wp2_with fail
      refine (hev.out (w.heap.size + 1) (w.heap.size + 2) 126 wa hb0 k1 k2 (by omega) (by omega)).mono ?_
      rintro e w3 ⟨rfl, hbx, -⟩
      rw [hev2.out]
      replace hb0 := bx_below hb0 hbx (by simp)
      replace k0 := k0.keep (by simp) hbx
      replace k1 := k1.keep (by simp) hbx
      clear k2 hbx hev hev2
      have Lk0 := k0.later
      have Fk0 := k0.laterF
      have Qk0 := k0.lt
      have Lk1 := k1.later
      have Fk1 := k1.laterF
      have Qk1 := k1.lt
      go_upto_region 6 with fail
      refine wp_any (w0 := w3) ⟨[24], [], [some 26, some 27, some 28, some 29, some 30, some 31, some 32, some 33, some 34, some 35, some 36, some 37, some 38, some 39, some 40, some 41, some 42, some 43, some 44, some 45, some 46, some 47, some 48, some 49, none], [[], [], [], [2], [1, 2, 3], [1, 2, 3, 4], [1, 2, 3, 4, 5], [1, 2, 3, 4, 5], [1, 2, 3, 4, 5, 7], [1, 2, 3, 4, 5, 6, 7, 8], [1, 2, 3, 4, 5, 6, 7, 8, 9], [1, 2, 3, 4, 5, 6, 7, 8, 9, 10], [], [12], [], [14], [12, 13, 14, 15], [1, 2, 3, 4, 5, 6, 7, 8, 9, 10, 11, 12, 13, 14, 15, 16], [], [], [1, 2, 3, 4, 5, 6, 7, 8, 9, 10, 11, 12, 13, 14, 15, 16, 17, 18, 19], [1, 2, 3, 4, 5, 6, 7, 8, 9, 10, 11, 12, 13, 14, 15, 16, 17, 18, 19, 20], [0, 1, 2, 3, 4, 5, 6, 7, 8, 9, 10, 11, 12, 13, 14, 15, 16, 17, 18, 19, 20, 21], [0, 1, 2, 3, 4, 5, 6, 7, 8, 9, 10, 11, 12, 13, 14, 15, 16, 17, 18, 19, 20, 21, 22], [0, 1, 2, 3, 4, 5, 6, 7, 8, 9, 10, 11, 12, 13, 14, 15, 16, 17, 18, 19, 20, 21, 22, 23]], [[], [], [], [2], [1, 3], [4], [5], [5], [5, 7], [5, 6, 8], [5, 9], [10], [], [12], [], [14], [13, 15], [16], [], [], [18, 19], [20], [0, 11, 17, 21], [22], []]⟩ (fun _ => []) (by kernel_rfl) (by kernel_rfl) (by (exact zE)) (fun u => by simp only [putD, Act.put, List.setIfInBounds_toArray, List.set_cons_zero, List.set_cons_succ, Nat.zero_add, Nat.reduceAdd]; rfl) ?_
      apply RGW.on (i := 0) rfl
      · exact zG
      · intro γ u W hcur hd
        clear hd
        (try dsimp only)
        exact ⟨rfl, zS⟩
      · exact zC
      · rfl
      dsimp only [nA, cA]
      apply RGW.on (i := 1) rfl
      · exact zG
      · intro γ u W hcur hd
        clear hd
        (try dsimp only)
        exact ⟨rfl, zS⟩
      · exact zC
      · rfl
      dsimp only [nA, cA]
      apply RGW.on (i := 2) rfl
      · exact zG
      · intro γ u W hcur hd
        clear hd
        (try dsimp only)
        exact ⟨rfl, zS⟩
      · exact zC
      · rfl
      dsimp only [nA, cA]
      apply RGW.on (i := 3) rfl
      · exact zG
      · intro γ u W hcur hd
        obtain ⟨⟨h2, -, -⟩, -⟩ := hd
        dsimp only at h2
        (try simp only [h2])
        exact ⟨rfl, zS⟩
      · exact zC
      · rfl
      dsimp only [nA, cA]
      apply RGW.call (i := 4) rfl
      · exact zG
      · intro γ u W hcur hd
        obtain ⟨⟨h1, -, -⟩, ⟨h3, -, -⟩, -⟩ := hd
        dsimp only at h1 h3
        (try simp only [h1, h3])
        refine ⟨rfl, fun K hK => ?_⟩
        go_simp
        first
        | (go_at_call 70; (with_reducible refine (c_sil1 _ _).mono ?_); rintro e w3 ⟨rfl, rfl⟩)
        | (go_at_call 58; (with_reducible refine (c_unless _ _ _).mono ?_); rintro e w3 ⟨rfl, rfl⟩)
        | (go_at_call 74; (with_reducible refine (c_first4 (by (exact zK))).mono ?_); rintro e w3 ⟨rfl, rfl⟩)
        (try dsimp only)
        exact hK.out _ _ rfl (by (exact zE))
      · exact zC
      · rfl
      dsimp only [nA, cA]
      apply RGW.on (i := 5) rfl
      · exact zG
      · intro γ u W hcur hd
        obtain ⟨⟨h4, -, -⟩, -⟩ := hd
        dsimp only at h4
        (try simp only [h4])
        exact ⟨rfl, zS⟩
      · exact zC
      · rfl
      dsimp only [nA, cA]
      first
      | apply RGW.on (i := 6) rfl
        · exact zG
        · intro γ u W hcur hd
          obtain ⟨⟨h5, -, -⟩, -⟩ := hd
          dsimp only at h5
          (try simp only [h5])
          refine ⟨?_, ?_⟩
          · (simp [Region.wanted, yielded, undef, *]; done)
          exact zS
        · exact zC
        · rfl
      | apply RGW.off (i := 6) rfl
        · exact zG
        · intro γ u W hcur hd
          obtain ⟨⟨h5, -, -⟩, -⟩ := hd
          dsimp only at h5
          (try simp only [h5])
          simp [Region.wanted, yielded, undef, *]
        · rfl
      dsimp only [nA, cA]
      first
      | apply RGW.on (i := 7) rfl
        · exact zG
        · intro γ u W hcur hd
          obtain ⟨⟨h5, -, -⟩, -⟩ := hd
          dsimp only at h5
          (try simp only [h5])
          refine ⟨?_, ?_⟩
          · (simp [Region.wanted, yielded, undef, *]; done)
          exact zS
        · exact zC
        · rfl
      | apply RGW.off (i := 7) rfl
        · exact zG
        · intro γ u W hcur hd
          obtain ⟨⟨h5, -, -⟩, -⟩ := hd
          dsimp only at h5
          (try simp only [h5])
          simp [Region.wanted, yielded, undef, *]
        · rfl
      dsimp only [nA, cA]
      first
      | apply RGW.on (i := 8) rfl
        · exact zG
        · intro γ u W hcur hd
          obtain ⟨⟨h5, -, -⟩, ⟨h7, -, -⟩, -⟩ := hd
          dsimp only at h5 h7
          (try simp only [h5, h7])
          refine ⟨?_, ?_⟩
          · (simp [Region.wanted, yielded, undef, *]; done)
          exact zS
        · exact zC
        · rfl
      | apply RGW.off (i := 8) rfl
        · exact zG
        · intro γ u W hcur hd
          obtain ⟨⟨h5, -, -⟩, ⟨h7, -, -⟩, -⟩ := hd
          dsimp only at h5 h7
          (try simp only [h5, h7])
          simp [Region.wanted, yielded, undef, *]
        · rfl
      dsimp only [nA, cA]
      first
      | apply RGW.call (i := 9) rfl
        · exact zG
        · intro γ u W hcur hd
          obtain ⟨⟨h5, -, -⟩, ⟨h6, -, -⟩, ⟨h8, -, -⟩, -⟩ := hd
          dsimp only at h5 h6 h8
          (try simp only [h5, h6, h8])
          refine ⟨?_, fun K hK => ?_⟩
          · (simp [Region.wanted, yielded, undef, *]; done)
          go_simp
          first
          | (go_at_call 70; (with_reducible refine (c_sil1 _ _).mono ?_); rintro e w3 ⟨rfl, rfl⟩)
          | (go_at_call 58; (with_reducible refine (c_unless _ _ _).mono ?_); rintro e w3 ⟨rfl, rfl⟩)
          | (go_at_call 74; (with_reducible refine (c_first4 (by (exact zK))).mono ?_); rintro e w3 ⟨rfl, rfl⟩)
          (try dsimp only)
          exact hK.out _ _ rfl (by (exact zE))
        · exact zC
        · rfl
      | apply RGW.off (i := 9) rfl
        · exact zG
        · intro γ u W hcur hd
          obtain ⟨⟨h5, -, -⟩, ⟨h6, -, -⟩, ⟨h8, -, -⟩, -⟩ := hd
          dsimp only at h5 h6 h8
          (try simp only [h5, h6, h8])
          simp [Region.wanted, yielded, undef, *]
        · rfl
      dsimp only [nA, cA]
      apply RGW.on (i := 10) rfl
      · exact zG
      · intro γ u W hcur hd
        obtain ⟨⟨h5, -, -⟩, ⟨h9, -, -⟩, -⟩ := hd
        dsimp only at h5 h9
        (try simp only [h5, h9])
        exact ⟨rfl, zS⟩
      · exact zC
      · rfl
      dsimp only [nA, cA]
      apply RGW.call (i := 11) rfl
      · exact zG
      · intro γ u W hcur hd
        obtain ⟨⟨h10, -, -⟩, -⟩ := hd
        dsimp only at h10
        (try simp only [h10])
        refine ⟨rfl, fun K hK => ?_⟩
        go_simp
        first
        | (go_at_call 70; (with_reducible refine (c_sil1 _ _).mono ?_); rintro e w3 ⟨rfl, rfl⟩)
        | (go_at_call 58; (with_reducible refine (c_unless _ _ _).mono ?_); rintro e w3 ⟨rfl, rfl⟩)
        | (go_at_call 74; (with_reducible refine (c_first4 (by (exact zK))).mono ?_); rintro e w3 ⟨rfl, rfl⟩)
        (try dsimp only)
        exact hK.out _ _ rfl (by (exact zE))
      · exact zC
      · rfl
      dsimp only [nA, cA]
      apply RGW.on (i := 12) rfl
      · exact zG
      · intro γ u W hcur hd
        clear hd
        (try dsimp only)
        exact ⟨rfl, zS⟩
      · exact zC
      · rfl
      dsimp only [nA, cA]
      apply RGW.on (i := 13) rfl
      · exact zG
      · intro γ u W hcur hd
        obtain ⟨⟨h12, -, -⟩, -⟩ := hd
        dsimp only at h12
        (try simp only [h12])
        exact ⟨rfl, zS⟩
      · exact zC
      · rfl
      dsimp only [nA, cA]
      apply RGW.on (i := 14) rfl
      · exact zG
      · intro γ u W hcur hd
        clear hd
        (try dsimp only)
        exact ⟨rfl, zS⟩
      · exact zC
      · rfl
      dsimp only [nA, cA]
      apply RGW.on (i := 15) rfl
      · exact zG
      · intro γ u W hcur hd
        obtain ⟨⟨h14, -, -⟩, -⟩ := hd
        dsimp only at h14
        (try simp only [h14])
        exact ⟨rfl, zS⟩
      · exact zC
      · rfl
      dsimp only [nA, cA]
      apply RGW.on (i := 16) rfl
      · exact zG
      · intro γ u W hcur hd
        obtain ⟨⟨h13, -, -⟩, ⟨h15, -, -⟩, -⟩ := hd
        dsimp only at h13 h15
        (try simp only [h13, h15])
        exact ⟨rfl, zS⟩
      · exact zC
      · rfl
      dsimp only [nA, cA]
      apply RGW.call (i := 17) rfl
      · exact zG
      · intro γ u W hcur hd
        obtain ⟨⟨h16, -, -⟩, -⟩ := hd
        dsimp only at h16
        (try simp only [h16])
        refine ⟨rfl, fun K hK => ?_⟩
        go_simp
        first
        | (go_at_call 70; (with_reducible refine (c_sil1 _ _).mono ?_); rintro e w3 ⟨rfl, rfl⟩)
        | (go_at_call 58; (with_reducible refine (c_unless _ _ _).mono ?_); rintro e w3 ⟨rfl, rfl⟩)
        | (go_at_call 74; (with_reducible refine (c_first4 (by (exact zK))).mono ?_); rintro e w3 ⟨rfl, rfl⟩)
        (try dsimp only)
        exact hK.out _ _ rfl (by (exact zE))
      · exact zC
      · rfl
      dsimp only [nA, cA]
      apply RGW.on (i := 18) rfl
      · exact zG
      · intro γ u W hcur hd
        clear hd
        (try dsimp only)
        exact ⟨rfl, zS⟩
      · exact zC
      · rfl
      dsimp only [nA, cA]
      apply RGW.on (i := 19) rfl
      · exact zG
      · intro γ u W hcur hd
        clear hd
        (try dsimp only)
        exact ⟨rfl, zS⟩
      · exact zC
      · rfl
      dsimp only [nA, cA]
      apply RGW.call (i := 20) rfl
      · exact zG
      · intro γ u W hcur hd
        obtain ⟨⟨h18, -, -⟩, ⟨h19, -, -⟩, -⟩ := hd
        dsimp only at h18 h19
        (try simp only [h18, h19])
        refine ⟨rfl, fun K hK => ?_⟩
        go_simp
        first
        | (go_at_call 70; (with_reducible refine (c_sil1 _ _).mono ?_); rintro e w3 ⟨rfl, rfl⟩)
        | (go_at_call 58; (with_reducible refine (c_unless _ _ _).mono ?_); rintro e w3 ⟨rfl, rfl⟩)
        | (go_at_call 74; (with_reducible refine (c_first4 (by (exact zK))).mono ?_); rintro e w3 ⟨rfl, rfl⟩)
        (try dsimp only)
        exact hK.out _ _ rfl (by (exact zE))
      · exact zC
      · rfl
      dsimp only [nA, cA]
      apply RGW.call (i := 21) rfl
      · exact zG
      · intro γ u W hcur hd
        obtain ⟨⟨h20, -, -⟩, -⟩ := hd
        dsimp only at h20
        (try simp only [h20])
        refine ⟨rfl, fun K hK => ?_⟩
        go_simp
        first
        | (go_at_call 70; (with_reducible refine (c_sil1 _ _).mono ?_); rintro e w3 ⟨rfl, rfl⟩)
        | (go_at_call 58; (with_reducible refine (c_unless _ _ _).mono ?_); rintro e w3 ⟨rfl, rfl⟩)
        | (go_at_call 74; (with_reducible refine (c_first4 (by (exact zK))).mono ?_); rintro e w3 ⟨rfl, rfl⟩)
        (try dsimp only)
        exact hK.out _ _ rfl (by (exact zE))
      · exact zC
      · rfl
      dsimp only [nA, cA]
      apply RGW.bslice (i := 22) rfl
      · exact zG
      · intro γ u W hcur hd
        obtain ⟨⟨h0, -, -⟩, ⟨h11, -, -⟩, ⟨h17, -, -⟩, ⟨h21, -, -⟩, -⟩ := hd
        dsimp only at h0 h11 h17 h21
        (try simp only [h0, h11, h17, h21])
        refine ⟨rfl, fun K hK => ?_⟩
        go_simp
        exact hK.out _ _ rfl rfl
      · exact zC
      · rfl
      · rfl
      dsimp only [nA, cA]
      apply RGW.call (i := 23) rfl
      · exact zG
      · intro γ u W hcur hd
        obtain ⟨⟨h22, r22, -⟩, -⟩ := hd
        dsimp only at h22 r22
        have L22 := r22.cell
        (try simp only [h22])
        refine ⟨rfl, fun K hK => ?_⟩
        go_simp
        first
        | (go_at_call 70; (with_reducible refine (c_sil1 _ _).mono ?_); rintro e w3 ⟨rfl, rfl⟩)
        | (go_at_call 58; (with_reducible refine (c_unless _ _ _).mono ?_); rintro e w3 ⟨rfl, rfl⟩)
        | (go_at_call 74; (with_reducible refine (c_first4 (by (exact zK))).mono ?_); rintro e w3 ⟨rfl, rfl⟩)
        (try dsimp only)
        exact hK.out _ _ rfl (by (exact zE))
      · first
        | exact zC
        | intro γ γ' hg
          try dsimp only
          have e22 := hg 22 (by decide)
          simp only [e22]
      · rfl
      dsimp only [nA, cA]
      refine RGW.skip (i := 24) rfl rfl ?_
      dsimp only [nA, cA]
      refine RGW.fin (fun γ u wb hwb hd hdis => ?_)
      obtain ⟨⟨h0, -, -⟩, ⟨h1, -, -⟩, ⟨h2, -, -⟩, ⟨h3, -, -⟩, ⟨h4, -, -⟩, ⟨h5, -, -⟩, ⟨h6, -, -⟩, ⟨h7, -, -⟩, ⟨h8, -, -⟩, ⟨h9, -, -⟩, ⟨h10, -, -⟩, ⟨h11, -, -⟩, ⟨h12, -, -⟩, ⟨h13, -, -⟩, ⟨h14, -, -⟩, ⟨h15, -, -⟩, ⟨h16, -, -⟩, ⟨h17, -, -⟩, ⟨h18, -, -⟩, ⟨h19, -, -⟩, ⟨h20, -, -⟩, ⟨h21, -, -⟩, ⟨h22, r22, b22⟩, ⟨h23, -, -⟩, -⟩ := hd
      dsimp only at h0 h1 h2 h3 h4 h5 h6 h7 h8 h9 h10 h11 h12 h13 h14 h15 h16 h17 h18 h19 h20 h21 h22 h23 r22 b22
      clear hdis
      simp only [h0, h1, h2, h3, h4, h5, h6, h7, h8, h9, h10, h11, h12, h13, h14, h15, h16, h17, h18, h19, h20, h21, h22, h23]
      clear h23 h22 h21 h20 h19 h18 h17 h16 h15 h14 h13 h12 h11 h10 h9 h8 h7 h6 h5 h4 h3 h2 h1 h0
      replace b22 := b22 _ (List.mem_singleton.2 rfl)
      generalize hγ22 : (γ 22).n = g22 at *
      clear hγ22
      clear u
      simp only [List.map_cons, List.map_nil]
      apply PlanW.step
      · exact zG
      · rfl
      intro K hK
      go_simp
      refine hK.out _ _ (by with_reducible first | assumption | exact bx_refl _ _) (fun hcur => ?_)
      clear hK K
      try simp only [Act.put, List.setIfInBounds_toArray, List.set_cons_zero, List.set_cons_succ]
      refine PlanW.done ?_
      have hb3 := bl_tt hwb
      rw [← hE2.out]
      have hbw := hb3 _ hb0
      replace k0 := k0.below hwb
      clear k1 Lk0 Lk1 Fk0 Fk1 Qk0 Qk1 hwb hb3 hE2
      have L0 := k0.later
      have hq1 := k0.lt
      generalize silE l ⟨lo, hi⟩ t = E at *
      by_cases h0 : E = 0
      · have h0' : (E != 0) = false := by simp [h0]
        have hR := Lib.hid (hR1.out h0)
        obtain ⟨hok1, ⟨ht1, ht2⟩, ⟨hlo1, hlo2⟩, -⟩ := hok.out h0
        replace hok1 := Lib.hid hok1
        have hfr := Lib.hid fun k hk => hfin.out k h0 hk
        replace h0 := Lib.hid h0
        clear hR0 hR1 hok hfin
        go_upto_region 12 with fail
        clear hb0
        have hb0 := hbw
        first
        | apply absB3 (w0 := w) (g0 := w.heap.size) (g1 := wb.heap.size) (g2 := wb.heap.size + 1)
        | apply absTB3 (w0 := w) (g0 := w.heap.size) (g1 := wb.heap.size) (g2 := wb.heap.size + 1)
        | apply absIB3 (w0 := w) (g0 := w.heap.size) (g1 := wb.heap.size) (g2 := wb.heap.size + 1)
        iterate 4 (focus exact zL)
        try clear hb3
        try clear hb0
        try clear k0
        try clear k3
        try clear k4
        intro wc hb0 k0 k3 k4
        (try simp only [List.setIfInBounds_toArray, List.set_cons_zero, List.set_cons_succ] at k0 k3 k4)
        have hq0 := hbw.size
        have hq4 := k4.lt
        clear L0
        go_wp2
        go_loopw [58] (fun i wr => ∃ k : Nat, k ≤ n ∧ i = .int .i64 k ∧ Below w.heap.size w wr ∧ Blk wr w.heap.size 48 #[.int .i64 lo, .int .i64 hi] ∧ Blk wr (wb.heap.size + 1) 3 #[.int .i64 (frK l t lo k)] ∧ wc.heap.size ≤ wr.heap.size ∧
          ∃ v, Blk wr wb.heap.size 44 #[v] ∧ wr.ownsRow wc.heap.size 48 2 v (accK l t lo hi k).length ((accK l t lo hi k).flatMap cRg)) (fun i _ => n - (intOf i).toNat)
        case atStart => exact ⟨0, Nat.zero_le _, rfl, hb0, k0, k4, Nat.le_refl _, _, k3, World.ownsRow_nil _ _ _ _⟩
        case round =>
          clear k0 k3 k4 hb0
          obtain ⟨k, hk, rfl, hb0, ks, kf, hwr, v, ko, hown⟩ := hrel
          have hkb := hfr.out k hk
          have hka := hacl.out k
          by_cases hlt : k < n
          · have hx : l[k]? = some (l[k]'(by rw [Hn.out]; exact hlt)) := List.getElem?_eq_getElem _
            generalize l[k]'(by rw [Hn.out]; exact hlt) = x at hx
            have hxb := hok1.out x (List.mem_of_getElem? hx)
            have hf1 : Hid (frK l t lo (k + 1) = max (frK l t lo k) (x + t + 1)) := Lib.hid (by rw [frK]; simp [hx])
            have ha1 : Hid (accK l t lo hi (k + 1) = accK l t lo hi k ++ silOne (frK l t lo k) (x - 1) hi) := Lib.hid (by rw [accK]; simp [hx])
            obtain ⟨b, off, rfl, hc⟩ := (Hs.out.below hb0) k x hx
            have c0 : wr.cell? ⟨b, off + k, none⟩ = some (.int .i64 x) := by simpa using hc 0 _ rfl
            have hcall := Lib.hid (c_sil3 (x - 1) (frK l t lo k) lo hi (accK l t lo hi k) v w.heap.size (wb.heap.size + 1) wb.heap.size wc.heap.size w.heap.size wr ks kf ko hown (by omega) (by omega) (by omega) (by omega) (by omega) (by omega) (by omega) hwr)
            generalize frK l t lo k = fk at *
            clear hc hx ks kf ko hown
            go_wp2_with fail
            refine hcall.out.mono ?_
            rintro e w4 ⟨⟨u, rfl⟩, hb4, ks, kf, v', ko, hown⟩
            have hb5 : Below w.heap.size w w4 := hb0.trans hb4
            have hs4 := hb4.size
            have Lf := kf.cell
            have Ff := kf.frozen
            replace hown := Lib.hid hown
            clear c0 hb4 hcall
            go_wp2
            go_roundw
            case rel => exact ⟨k + 1, by omega, by go_num, hb5.setCell (by simp; omega) _, ks.other (by simp; omega) _, by rw [hf1.out]; exact kf.set1 (by simp), by simp [World.setCell]; omega, v', ko.other (by simp) _, by rw [ha1.out]; exact own_set _ hown.out (by omega)⟩
            case measure => simp [intOf]; omega
          · have : k = n := by omega
            subst this
            have Ls := ks.cell
            have hcall := Lib.hid (c_sil3 hi (frK l t lo k) lo hi (accK l t lo hi k) v w.heap.size (wb.heap.size + 1) wb.heap.size wc.heap.size w.heap.size wr ks kf ko hown (by omega) (by omega) (by omega) (by omega) (by omega) (by omega) (by omega) hwr)
            generalize silOne (frK l t lo k) hi hi = so at *
            clear ks kf ko hown
            go_wp2_with fail
            refine hcall.out.mono ?_
            rintro e w4 ⟨⟨u, rfl⟩, hb4, ks, kf, v', ko, hown⟩
            obtain ⟨A', c', rfl⟩ := own_slice hown
            have hb5 : Below w.heap.size w w4 := hb0.trans hb4
            have Lo := ko.cell
            replace hown := Lib.hid hown
            clear hb4 hcall
            go_wp2
            go_ret2
            exact ⟨A', c', by rw [hR.out, h0.out, List.length_append] <;> rfl, hb5, by rw [hR.out]; exact own_mono (by omega) hown.out⟩
      · have h0' : (E != 0) = true := by simp [h0]
        have hR := Lib.hid (hR0.out h0)
        replace h0 := Lib.hid h0
        go_wp2
        go_ret2
        exact ⟨none, 0, by rw [hR.out] <;> rfl, hbw, by rw [hR.out]; exact World.ownsRow_nil _ _ _ _⟩
  · have hE60 : Hid (silE l ⟨lo, hi⟩ t = 8) := Lib.hid (by rw [hE.out]; simp [fstE, unl]; omega)
    have h0 : silE l ⟨lo, hi⟩ t ≠ 0 := by rw [hE60.out]; decide
    have hR := Lib.hid (hR0.out h0)
    have h60' : decide ((60 : Int) < (l.length : Int)) = true := by simp; omega
    clear hE hR0 hR1 hok h0
    generalize l.length = n at *
    go_enter Tryz.func23, Tryz.ntmps23
    go_wp2
    go_ret2
    exact ⟨none, 0, by rw [hR.out, hE60.out] <;> rfl, by solve_by_elim (maxDepth := 60) only [bl_al, bl_drew, bl_drewN, bl_refl, *], by rw [hR.out]; exact World.ownsRow_nil _ _ _ _⟩
end Go.Proofs.YtbdgblnccjpahaaGreatDoor
namespace Go.Proofs.YtbdgblnccjpahaaGreatDoor
open Go.RowKit Go.Shelf
attribute [local go_sem] bl_al bl_drew bl_drewN bl_refl bx_al bx_drew bx_drewN bx_refl Oper.semAt_some
set_option maxRecDepth 20000
/-- The numbers that all these strings are. -/
def natsOk (l : List (List UInt8)) : Bool := l.all fun p => (natS p).isSome
def natsV (l : List (List UInt8)) : List Int := l.map fun p => (((natS p).getD 0 : Nat) : Int)
theorem natsOk_snoc (l : List (List UInt8)) (p : List UInt8) : natsOk (l ++ [p]) = (natsOk l && (natS p).isSome) := by simp [natsOk, List.all_append]
theorem natsV_snoc (l : List (List UInt8)) (p : List UInt8) : natsV (l ++ [p]) = natsV l ++ [(((natS p).getD 0 : Nat) : Int)] := by simp [natsV]
theorem natsV_len (l : List (List UInt8)) : (natsV l).length = l.length := by simp [natsV]
theorem natsOk_prefix {a b : List (List UInt8)} (h : a <+: b) (hb : natsOk a = false) : natsOk b = false := by
  obtain ⟨r, rfl⟩ := h
  unfold natsOk at hb ⊢
  rw [List.all_append, hb]
  rfl
set_option maxHeartbeats 8000000 in
theorem c_split (l : List UInt8) (c : UInt8) (w : World) (hl : l.length ≤ 100000) (hE : Env w) :
    Calls Tryz.prog 61 #[.string ⟨l.toArray⟩, .string ⟨#[c]⟩] w (fun e w' => Below w.heap.size w w' ∧
      (natsOk (splitC c l) = false → e = .returned (.tuple #[.slice none 0 0, .bool false])) ∧
      (natsOk (splitC c l) = true → ∃ A2 c2, e = .returned (.tuple #[.slice A2 (splitC c l).length c2, .bool true]) ∧ w'.ownsRow w.heap.size 3 1 (.slice A2 (splitC c l).length c2) (splitC c l).length ((natsV (splitC c l)).map (.int .i64)))) := by
  obtain ⟨i0, hi, hz0, hz1, hz2⟩ := info_parts infoI
  have HE := Lib.hid fun W (hb : Below w.heap.size w W) => hE.below hb
  have hlen := splitC_len c l
  have hmem := Lib.hid (splitC_mem c l)
  have hit := Lib.hid fun g D X W hD k0 k1 k2 hX => split_iter l c g D X W hD (by omega) k0 k1 k2 hX
  have hcS := Lib.hid fun W => c_SplitSeq ⟨l.toArray⟩ ⟨#[c]⟩ W
  clear hE
  obtain ⟨xs, hxs⟩ : ∃ xs, Hid (splitC c l = xs) := ⟨_, rfl⟩
  rw [hxs.out] at hlen hmem hit ⊢
  have hxl : xs.length ≤ 100001 := by omega
  clear hlen
  refine calls_marks Tryz.func61 rfl ?_
  simp only [Tryz.ntmps61, List.size_toArray, List.length_cons, List.length_nil, Nat.reduceAdd, Nat.reduceSub, Array.replicate_succ, Array.replicate_zero, List.push_toArray, List.append_toArray, List.nil_append, List.cons_append]
  go_upto_region 2 with fail
  have k4 := Blk.new w 23 #[.slice none 0 0]
  have k5 := Blk.new (w.alloc (.cells #[.slice none 0 0] 23)) 4 #[.bool false]
  have k6 := Blk.new ((w.alloc (.cells #[.slice none 0 0] 23)).alloc (.cells #[.bool false] 4)) 23 #[.slice none 0 0]
  simp only [World.size_alloc] at k5 k6
  replace k4 := (k4.alloc (.cells #[.bool false] 4)).alloc (.cells #[.slice none 0 0] 23)
  replace k5 := k5.alloc (.cells #[.slice none 0 0] 23)
  have hb0 := bl_al (.cells #[.slice none 0 0] 23) (bl_al (.cells #[.bool false] 4) (bl_al (.cells #[.slice none 0 0] 23) (bl_refl w)))
  have hsz : (((w.alloc (.cells #[.slice none 0 0] 23)).alloc (.cells #[.bool false] 4)).alloc (.cells #[.slice none 0 0] 23)).heap.size = w.heap.size + 3 := by simp
  generalize ((w.alloc (.cells #[.slice none 0 0] 23)).alloc (.cells #[.bool false] 4)).alloc (.cells #[.slice none 0 0] 23) = wA at *
  go_wp2_with fail
  refine (hcS.out wA).mono ?_
  rintro e w3 ⟨rfl, hb1, q0, q1, q2⟩
  rw [hsz] at q0 q1 q2 ⊢
  replace hb0 := bl_tr hb0 hb1
  replace k4 := k4.below hb1
  replace k5 := k5.below hb1
  replace k6 := k6.below hb1
  have hq2 := q2.lt
  clear hb1 hsz hcS
  obtain ⟨D, hD⟩ : ∃ D, w3.heap.size = D := ⟨_, rfl⟩
  have hDw : w.heap.size ≤ D := by omega
  rw [hD] at hq2
  have hit' := hit.out (w.heap.size + 3) D [w.heap.size, w.heap.size + 1, w.heap.size + 2] w3 hD q0 q1 q2 (by simp; omega)
  simp only [Nat.add_assoc, Nat.reduceAdd] at k6
  go_wp2
  refine wp_range4 (gf := 155) (lb := #[.pointer (some ⟨w.heap.size + 3 + 1, 0, none⟩), .pointer (some ⟨w.heap.size + 3, 0, none⟩), .pointer (some ⟨w.heap.size + 3 + 2, 0, none⟩)]) ?hg (enters_of Tryz.func155 (by kernel_rfl) rfl) (Enc := EncP) (xs := xs) [w.heap.size, w.heap.size + 1, w.heap.size + 2] [w.heap.size + 3] (by rw [hD]; exact hit') ?hps (by rw [hD]; simp; omega) (by rw [hD]; simp; omega)
    (fun pre W => natsOk pre = true ∧ (Below w.heap.size w W ∧ D ≤ W.heap.size) ∧ Blk W w.heap.size 23 #[.slice none 0 0] ∧ Blk W (w.heap.size + 1) 4 #[.bool false] ∧ ∃ v, Blk W (w.heap.size + 2) 23 #[v] ∧ W.ownsRow D 3 1 v pre.length ((natsV pre).map (.int .i64)))
    (fun c pre W => c = .ret ∧ natsOk pre = false ∧ Below w.heap.size w W ∧ Blk W w.heap.size 23 #[.slice none 0 0] ∧ Blk W (w.heap.size + 1) 4 #[.bool false])
    ?hI ?hIY ?hIx ?hIxY ?h0 ?round ?done ?stop
  case hg => rfl
  case hps => rintro x args W rfl; rfl
  case hI =>
    rintro s A B ⟨h1, ⟨h2, h3⟩, h4, h5, v, h6, h7⟩ hc
    rw [hD] at hc
    exact ⟨h1, ⟨hc.belowOf hDw h2, Nat.le_trans h3 hc.size⟩, hc.blk h4, hc.blk h5, v, hc.blk h6, CK.own h7 hc⟩
  case hIY =>
    rintro s A B ⟨h1, ⟨h2, h3⟩, h4, h5, v, h6, h7⟩ hb
    exact ⟨h1, ⟨bx_below h2 hb (by simp), Nat.le_trans h3 hb.size⟩, h4.keep (by simp) hb, h5.keep (by simp) hb, v, h6.keep (by simp) hb, own_bxT h7 hb (fun k hk => by have := own_ge h7 k hk; simp; omega)⟩
  case hIx =>
    rintro c s A B ⟨h1, h2, h3, h4, h5⟩ hc
    rw [hD] at hc
    exact ⟨h1, h2, hc.belowOf hDw h3, hc.blk h4, hc.blk h5⟩
  case hIxY =>
    rintro c s A B ⟨h1, h2, h3, h4, h5⟩ hb
    exact ⟨h1, h2, bx_below h3 hb (by simp), h4.keep (by simp) hb, h5.keep (by simp) hb⟩
  case h0 => exact ⟨rfl, ⟨hb0, by omega⟩, k4, k5, _, k6, World.ownsRow_nil _ _ _ _⟩
  case round =>
    rintro ln pre x args W ⟨h1, ⟨hb0, hWD⟩, k4, k5, v, k6, ho⟩ hpre rfl
    obtain ⟨vA, vc, rfl⟩ := own_slice ho
    have hpl : pre.length ≤ 100000 := by
      obtain ⟨r, hr⟩ := hpre
      have := congrArg List.length hr
      simp at this
      omega
    have hxm : x.length ≤ l.length := hmem.out x (by obtain ⟨r, hr⟩ := hpre; rw [← hr]; simp)
    replace ho := Lib.hid ho
    clear hit'
    gi_wp2
    refine ⟨RN.refl _ _ _, fun W2 hc => ?_⟩
    rw [hD] at hc ⊢
    replace hb0 := hc.belowOf hDw hb0
    replace k4 := hc.blk k4
    replace k5 := hc.blk k5
    replace k6 := hc.blk k6
    replace ho := Lib.hid (CK.own ho.out hc)
    replace hWD := Nat.le_trans hWD hc.size
    clear hc
    have hnum := Lib.hid (c_number ⟨x.toArray⟩ (by show x.length ≤ 1000000; omega) W2 (HE.out W2 hb0))
    obtain ⟨nx, hnx⟩ : ∃ q, Hid (natS x = q) := ⟨_, rfl⟩
    change Hid (Calls Tryz.prog 120 #[.string ⟨x.toArray⟩] W2 (fun e w' => Below W2.heap.size W2 w' ∧ ∃ v : Int, e = .returned (.tuple #[.int .i64 v, .bool (natS x).isSome]) ∧ ∀ n : Nat, natS x = some n → v = n)) at hnum
    rw [hnx.out] at hnum
    have hok := Lib.hid (natsOk_snoc pre x)
    have hov := Lib.hid (natsV_snoc pre x)
    rw [h1, hnx.out] at hok
    rw [hnx.out] at hov
    cases nx with
    | none =>
      gi_upto_region 6 with (first | (rename_i h1 h2; exact absurd h1 undef_bool) | (with_reducible refine And.intro (wide_fn _) ?_) | (gi_at_call 120; (with_reducible refine (CallsIn.inRound ln (callsIn_wide.2 hnum.out)).mono ?_); rintro e w4 ⟨hb4, nv, rfl, hnv⟩))
      replace hb0 := bl_tr hb0 hb4
      replace k4 := k4.below hb4
      replace k5 := k5.below hb4
      have hrn := RN.of_below (D := D) (X := [w.heap.size, w.heap.size + 1, w.heap.size + 2]) hb4
      clear hb4 k6 ho hWD
      have L4 := k4.cell
      have L5 := k5.cell
      have F4 := k4.frozen
      have F5 := k5.frozen
      gi_wp2
      have hset : BX [w.heap.size, w.heap.size + 1] w4 ((w4.setCell ⟨w.heap.size, 0, none⟩ (.slice none 0 0)).setCell ⟨w.heap.size + 1, 0, none⟩ (.bool false)) := bx_set (.inl (by simp)) _ (bx_set (.inl (by simp)) _ (bx_refl _ w4))
      exact ⟨hrn.trans (RN.of_bx hset (fun z hz => .inl (by simp at hz ⊢; omega))), rfl, by rw [hok.out]; rfl, bx_below hb0 hset (by simp), (k4.set 0 _).keep (X := [w.heap.size + 1]) (by simp) (bx_set (.inl (by simp)) _ (bx_refl _ _)), (k5.keep (X := [w.heap.size]) (by simp) (bx_set (.inl (by simp)) _ (bx_refl _ _))).set 0 _⟩
    | some nn =>
      gi_upto_region 7 with (first | (rename_i h1 h2; exact absurd h1 undef_bool) | (with_reducible refine And.intro (wide_fn _) ?_) | (gi_at_call 120; (with_reducible refine (CallsIn.inRound ln (callsIn_wide.2 hnum.out)).mono ?_); rintro e w4 ⟨hb4, nv, rfl, hnv⟩))
      obtain rfl := hnv nn rfl
      replace hb0 := bl_tr hb0 hb4
      replace k4 := k4.below hb4
      replace k5 := k5.below hb4
      replace k6 := k6.below hb4
      replace ho := Lib.hid (own_below ho.out hb4)
      have hw4 := Nat.le_trans hWD hb4.size
      have hrn := RN.of_below (D := D) (X := [w.heap.size, w.heap.size + 1, w.heap.size + 2]) hb4
      clear hb4
      have L6 := k6.cell
      have F6 := k6.frozen
      have hoA := Lib.hid (own_below ho.out (bl_al (.cells #[.int .i64 (nn : Int)] 3) (bl_refl w4)))
      gi_wp2_with (gi_at_builtin; refine wpListIn_append_own2 rfl _ _ 23 rfl D 3 i0 (.int .i64 0) 1 8 Tryz.underlying23 hi hz0 hz1 hz2 rfl (by decide) _ _ _ rfl hoA.out ⟨_, 0, none⟩ 1 1 [.int .i64 (nn : Int)] rfl rfl ?c1 ?c2 ?c3 ?c4 ?c5 ?_)
      try case c1 =>
        intro q u hq
        match q, hq with
        | 0, hq => simp at hq; subst hq; simp [Addr.add]
        | q + 1, hq => simp at hq
      case c2 => first | (intro u hu; simp at hu; subst hu; rfl) | rfl
      case c3 => unfold maxLen; omega
      case c4 => omega
      case c5 => first | omega | (simp; omega)
      intro v9 w9 hown hg2 hd2
      obtain ⟨vC, ve, rfl⟩ := own_slice hown
      have hrn9 := hrn.trans ((RN.of_below (D := D) (X := [w.heap.size, w.heap.size + 1, w.heap.size + 2]) (bl_al (.cells #[.int .i64 (nn : Int)] 3) (bl_refl w4))).trans (RN.of_grown hoA.out hg2))
      have hne : ∀ g, g < D → some g ≠ (Value.slice vA pre.length vc).ownBlock := fun g hg h => by have := own_ge hoA.out g h.symm; omega
      have k49 := (k4.alloc (.cells #[.int .i64 (nn : Int)] 3)).grown hg2 (hne _ (by omega))
      have k59 := (k5.alloc (.cells #[.int .i64 (nn : Int)] 3)).grown hg2 (hne _ (by omega))
      have k69 := (k6.alloc (.cells #[.int .i64 (nn : Int)] 3)).grown hg2 (hne _ (by omega))
      have hb9 := (bl_al (.cells #[.int .i64 (nn : Int)] 3) hb0).grown hg2 (by simp; omega) (fun k hk => by have := own_ge hoA.out k hk; omega)
      have hset : BX [w.heap.size + 2] w9 (w9.setCell ⟨w.heap.size + 2, 0, none⟩ (.slice vC (pre.length + 1) ve)) := bx_set (.inl (by simp)) _ (bx_refl _ w9)
      have hown10 := Lib.hid (own_bxT hown hset (fun k hk => by have := own_ge hown k hk; simp; omega))
      have hsz9 : D ≤ w9.heap.size := Nat.le_trans hw4 (Nat.le_trans (by simp) hg2.size)
      clear hown hg2 hd2 hoA ho hrn k4 k5 k6 L6 F6
      have L6 := k69.cell
      have F6 := k69.frozen
      gi_wp2
      exact ⟨hrn9.trans (RN.of_bx hset (fun z hz => .inl (by simp at hz ⊢; omega))), by rw [hok.out]; rfl, ⟨bx_below hb9 hset (by simp), Nat.le_trans hsz9 hset.size⟩, k49.keep (by simp) hset, k59.keep (by simp) hset, _, k69.set 0 _, by have h := hown10.out; rw [hov.out, List.length_append, List.map_append]; exact h⟩
  case done =>
    rintro W ⟨h1, ⟨hb0, hWD⟩, k4, k5, v, k6, ho⟩ hK
    clear hit'
    subst hD
    obtain ⟨vA, vc, rfl⟩ := own_slice ho
    replace ho := Lib.hid ho
    have hnl := Lib.hid (natsV_len xs)
    have L4 := k4.cell
    have L5 := k5.cell
    have L6 := k6.cell
    have F4 := k4.frozen
    have F5 := k5.frozen
    go_wp2
    have hset : BX [w.heap.size, w.heap.size + 1] W ((W.setCell ⟨w.heap.size, 0, none⟩ (.slice vA xs.length vc)).setCell ⟨w.heap.size + 1, 0, none⟩ (.bool true)) := bx_set (.inl (by simp)) _ (bx_set (.inl (by simp)) _ (bx_refl _ W))
    have q4 : Blk ((W.setCell ⟨w.heap.size, 0, none⟩ (.slice vA xs.length vc)).setCell ⟨w.heap.size + 1, 0, none⟩ (.bool true)) w.heap.size 23 #[.slice vA xs.length vc] := (k4.set 0 _).keep (X := [w.heap.size + 1]) (by simp) (bx_set (.inl (by simp)) _ (bx_refl _ _))
    have q5 : Blk ((W.setCell ⟨w.heap.size, 0, none⟩ (.slice vA xs.length vc)).setCell ⟨w.heap.size + 1, 0, none⟩ (.bool true)) (w.heap.size + 1) 4 #[.bool true] := (k5.keep (X := [w.heap.size]) (by simp) (bx_set (.inl (by simp)) _ (bx_refl _ _))).set 0 _
    have hK2 : ((W.setCell ⟨w.heap.size, 0, none⟩ (.slice vA xs.length vc)).setCell ⟨w.heap.size + 1, 0, none⟩ (.bool true)).heap[w3.heap.size]? = some (.deferred (some [])) := (hset.block w3.heap.size (Array.getElem?_eq_some_iff.1 hK).1 (by simp; omega)).trans hK
    have hob := own_bxT ho.out hset (fun k hk => by have := own_ge ho.out k hk; simp; omega)
    have hbb := bx_below hb0 hset (by simp)
    generalize (W.setCell ⟨w.heap.size, 0, none⟩ (.slice vA xs.length vc)).setCell ⟨w.heap.size + 1, 0, none⟩ (.bool true) = Wz at *
    have hck := CK.put (D := w3.heap.size) (.deferred none) hK2 rfl (Nat.le_refl _)
    have r4 := (hck.blk q4).cell 0
    have r5 := (hck.blk q5).cell 0
    refine postM_taken hK2 (v := .tuple #[.slice vA xs.length vc, .bool true]) (by simp [results, Tryz.results61, go_sem, r4, r5]) ⟨hck.belowOf hDw hbb, fun h => (by rw [h1] at h; cases h), fun _ => ⟨vA, vc, rfl, own_mono hDw (CK.own hob hck)⟩⟩
  case stop =>
    rintro c' pre W hpre ⟨rfl, hno, hb0, k4, k5⟩ hK
    clear hit'
    subst hD
    have hno' := natsOk_prefix hpre hno
    go_wp2
    have hck := CK.put (D := w3.heap.size) (.deferred none) hK rfl (Nat.le_refl _)
    have r4 := (hck.blk k4).cell 0
    have r5 := (hck.blk k5).cell 0
    refine postM_taken hK (v := .tuple #[.slice none 0 0, .bool false]) (by simp [results, Tryz.results61, go_sem, r4, r5]) ⟨hck.belowOf hDw hb0, fun _ => rfl, fun h => (by rw [hno'] at h; cases h)⟩
end Go.Proofs.YtbdgblnccjpahaaGreatDoor
namespace Go.Proofs.YtbdgblnccjpahaaGreatDoor
open Go.RowKit Go.Shelf
attribute [local go_sem] bl_al bl_drew bl_drewN bl_refl bx_al bx_drew bx_drewN bx_refl
set_option maxRecDepth 20000
set_option maxHeartbeats 2000000 in
theorem c_Cut0 (l : List UInt8) (c : UInt8) (w : World) (hl : l.length ≤ 1000000) :
    Calls Tryz.prog 119 #[.string ⟨l.toArray⟩, .string ⟨#[c]⟩] w (Ret (.tuple #[.string ⟨(cutC c l).1.toArray⟩, .string ⟨(cutC c l).2.1.toArray⟩, .bool (cutC c l).2.2]) w) := by
  obtain ⟨ix, Hix⟩ : ∃ z, Hid (Lib.indexByte l c = z) := ⟨_, rfl⟩
  have hix : Hid (∀ W : World, Calls Tryz.prog 158 #[.string ⟨l.toArray⟩, .string ⟨#[c]⟩] W (Same (.int .i64 ix) W)) := fun W => (Tryz.stringslite_Index_one ⟨l.toArray⟩ c W).mono fun e w' ⟨h1, h2⟩ => ⟨by rw [h1]; exact congrArg (fun z => Ending.returned (.int .i64 z)) Hix.out, h2.symm⟩
  by_cases hneg : ix < 0
  · rw [cutC_none c l (by rw [Hix.out]; exact hneg)]
    have hn : ¬ 0 ≤ ix := by omega
    clear Hix
    go_enter Tryz.func119, Tryz.ntmps119
    go_wp2_with (go_at_call 158; (with_reducible refine (hix.out _).mono ?_); rintro e w3 ⟨rfl, rfl⟩)
    refine bodyPost_ret (v := .tuple #[.string ⟨l.toArray⟩, .string ⟨#[]⟩, .bool false]) (by simp [results, Tryz.results119, go_sem]) rfl ⟨rfl, bl_refl _⟩
  · obtain ⟨i, hi⟩ : ∃ i : Nat, ix = i := ⟨ix.toNat, by omega⟩
    subst hi
    obtain ⟨hil, hc⟩ := cutC_some c l i Hix.out
    rw [hc]
    clear hc Hix
    have hex : (ByteArray.mk l.toArray).extract 0 i = ⟨(l.take i).toArray⟩ := by rw [ByteArray.extract_mk, List.drop_zero, Nat.sub_zero]
    have hex2 : (ByteArray.mk l.toArray).extract (i + 1) l.length = ⟨(l.drop (i + 1)).toArray⟩ := by rw [ByteArray.extract_mk, List.take_of_length_le (by simp)]
    have h1 : (i : Int) < 1000000 := by omega
    have h2 : (i : Int) ≤ l.length := by omega
    have h3 : (i : Int) + 1 ≤ l.length := by omega
    have h4 : 0 ≤ (i : Int) + 1 := by omega
    go_enter Tryz.func119, Tryz.ntmps119
    go_upto_region 3 with (go_at_call 158; (with_reducible refine (hix.out _).mono ?_); rintro e w3 ⟨rfl, rfl⟩)
    clear hix
    refine wp_any (w0 := w) ⟨[], [], [some 13, some 14, some 15, some 16, some 17, some 18, some 19, some 20, some 21, some 4, some 5, some 6], [[], [], [0, 1], [], [], [], [5], [4, 5, 6], [3, 4, 5, 6, 7], [0, 1, 2], [0, 1, 2, 3, 4, 5, 6, 7, 8, 9], [0, 1, 2, 3, 4, 5, 6, 7, 8, 9, 10]], [[], [], [0, 1], [], [], [], [5], [4, 6], [3, 7], [2], [8], []]⟩ (fun _ => []) (by kernel_rfl) (by kernel_rfl) (by (exact zE)) (fun u => by simp only [putD, Act.put, List.setIfInBounds_toArray, List.set_cons_zero, List.set_cons_succ, Nat.zero_add, Nat.reduceAdd]; rfl) ?_
    apply RGW.on (i := 0) rfl
    · exact zG
    · intro γ u W hcur hd
      clear hd
      (try dsimp only)
      exact ⟨rfl, zS⟩
    · exact zC
    · rfl
    dsimp only [nA, cA]
    apply RGW.on (i := 1) rfl
    · exact zG
    · intro γ u W hcur hd
      clear hd
      (try dsimp only)
      exact ⟨rfl, zS⟩
    · exact zC
    · rfl
    dsimp only [nA, cA]
    apply RGW.on (i := 2) rfl
    · exact zG
    · intro γ u W hcur hd
      obtain ⟨⟨h0, -, -⟩, ⟨h1, -, -⟩, -⟩ := hd
      dsimp only at h0 h1
      (try simp only [h0, h1])
      exact ⟨rfl, zS⟩
    · exact zC
    · rfl
    dsimp only [nA, cA]
    apply RGW.on (i := 3) rfl
    · exact zG
    · intro γ u W hcur hd
      clear hd
      (try dsimp only)
      exact ⟨rfl, zS⟩
    · exact zC
    · rfl
    dsimp only [nA, cA]
    apply RGW.on (i := 4) rfl
    · exact zG
    · intro γ u W hcur hd
      clear hd
      (try dsimp only)
      exact ⟨rfl, zS⟩
    · exact zC
    · rfl
    dsimp only [nA, cA]
    apply RGW.on (i := 5) rfl
    · exact zG
    · intro γ u W hcur hd
      clear hd
      (try dsimp only)
      exact ⟨rfl, zS⟩
    · exact zC
    · rfl
    dsimp only [nA, cA]
    apply RGW.on (i := 6) rfl
    · exact zG
    · intro γ u W hcur hd
      obtain ⟨⟨h5, -, -⟩, -⟩ := hd
      dsimp only at h5
      (try simp only [h5])
      exact ⟨rfl, zS⟩
    · exact zC
    · rfl
    dsimp only [nA, cA]
    apply RGW.on (i := 7) rfl
    · exact zG
    · intro γ u W hcur hd
      obtain ⟨⟨h4, -, -⟩, ⟨h6, -, -⟩, -⟩ := hd
      dsimp only at h4 h6
      (try simp only [h4, h6])
      exact ⟨rfl, zS⟩
    · exact zC
    · rfl
    dsimp only [nA, cA]
    apply RGW.on (i := 8) rfl
    · exact zG
    · intro γ u W hcur hd
      obtain ⟨⟨h3, -, -⟩, ⟨h7, -, -⟩, -⟩ := hd
      dsimp only at h3 h7
      (try simp only [h3, h7])
      exact ⟨rfl, zS⟩
    · exact zC
    · rfl
    dsimp only [nA, cA]
    apply RGW.on (i := 9) rfl
    · exact zG
    · intro γ u W hcur hd
      obtain ⟨⟨h2, -, -⟩, -⟩ := hd
      dsimp only at h2
      (try simp only [h2])
      exact ⟨rfl, zS⟩
    · exact zC
    · rfl
    dsimp only [nA, cA]
    apply RGW.on (i := 10) rfl
    · exact zG
    · intro γ u W hcur hd
      obtain ⟨⟨h8, -, -⟩, -⟩ := hd
      dsimp only at h8
      (try simp only [h8])
      exact ⟨rfl, zS⟩
    · exact zC
    · rfl
    dsimp only [nA, cA]
    apply RGW.on (i := 11) rfl
    · exact zG
    · intro γ u W hcur hd
      clear hd
      (try dsimp only)
      exact ⟨rfl, zS⟩
    · exact zC
    · rfl
    dsimp only [nA, cA]
    refine RGW.fin (fun γ u wa hwa hd hdis => ?_)
    obtain ⟨⟨h0, -, -⟩, ⟨h1, -, -⟩, ⟨h2, -, -⟩, ⟨h3, -, -⟩, ⟨h4, -, -⟩, ⟨h5, -, -⟩, ⟨h6, -, -⟩, ⟨h7, -, -⟩, ⟨h8, -, -⟩, ⟨h9, -, -⟩, ⟨h10, -, -⟩, ⟨h11, -, -⟩, -⟩ := hd
    dsimp only at h0 h1 h2 h3 h4 h5 h6 h7 h8 h9 h10 h11
    clear hdis
    simp only [h0, h1, h2, h3, h4, h5, h6, h7, h8, h9, h10, h11]
    clear h11 h10 h9 h8 h7 h6 h5 h4 h3 h2 h1 h0
    clear u
    simp only [List.map_nil]
    refine PlanW.done ?_
    have hb3 := bl_tt hwa
    go_wp2
    refine bodyPost_ret (v := .tuple #[.string ⟨(l.take i).toArray⟩, .string ⟨(l.drop (i + 1)).toArray⟩, .bool true]) (by simp [results, Tryz.results119, go_sem]) rfl ⟨rfl, hwa⟩
theorem c_CutB (l : List UInt8) (c : UInt8) (w : World) (hl : l.length ≤ 1000000) :
    Calls Tryz.prog 60 #[.string ⟨l.toArray⟩, .string ⟨#[c]⟩] w (Ret (.tuple #[.string ⟨(cutC c l).1.toArray⟩, .string ⟨(cutC c l).2.1.toArray⟩, .bool (cutC c l).2.2]) w) := by
  have hc := Lib.hid fun W => c_Cut0 l c W hl
  generalize cutC c l = R at *
  obtain ⟨a, b, d⟩ := R
  dsimp only at *
  go_enter Tryz.func60, Tryz.ntmps60
  go_wp2_with fail
  refine (hc.out _).mono ?_
  rintro e w1 ⟨rfl, hb⟩
  go_wp2
  refine bodyPost_ret (v := .tuple #[.string ⟨a.toArray⟩, .string ⟨b.toArray⟩, .bool d]) (by simp [results, Tryz.results60, go_sem]) rfl ⟨rfl, hb⟩
end Go.Proofs.YtbdgblnccjpahaaGreatDoor
namespace Go.Proofs.YtbdgblnccjpahaaGreatDoor
open Go.RowKit Go.Shelf
attribute [local go_sem] bl_al bl_drew bl_drewN bl_refl bx_al bx_drew bx_drewN bx_refl
set_option maxRecDepth 20000
theorem infoStr : (Tryz.prog.info? 9).map (fun i => (i.zero, i.size, i.bytes)) = some (some (.string ByteArray.empty), 1, 16) := by kernel_rfl
/-- A string's bytes as a cell. -/
def cB (b : List UInt8) : List Value := [.string ⟨b.toArray⟩]
theorem c_JoinB (xs : List (List UInt8)) (sep : List UInt8) (A : Option Addr) (c : Nat) (w : World) (hs : Sl cB 1 w A xs) (hc : xs.length ≤ c) (hn : xs.length ≤ 1000000) (hl : (Lib.join xs sep).length ≤ 140737488355328) :
    Calls Tryz.prog 63 #[.slice A xs.length c, .string ⟨sep.toArray⟩] w (Ret (.string ⟨(Lib.join xs sep).toArray⟩) w) := by
  cases xs with
  | nil => exact (Tryz.strings_Join_none A c ⟨sep.toArray⟩ w).mono fun e w' ⟨he, hw⟩ => ⟨by rw [he]; rfl, by rw [hw]; exact bl_refl w⟩
  | cons x r =>
    obtain ⟨b, off, rfl, h0⟩ := hs 0 x rfl
    have hbk : b < w.heap.size := World.block_lt_of_cell? _ _ (h0 0 _ rfl)
    have he : ((x :: r).map fun l : List UInt8 => (⟨l.toArray⟩ : ByteArray)).map (·.data.toList) = x :: r := by simp [Function.comp_def]
    have h := Tryz.strings_Join b off c ((x :: r).map fun l : List UInt8 => (⟨l.toArray⟩ : ByteArray)) ⟨sep.toArray⟩ w (fun j y hj => by
      rw [List.getElem?_map] at hj
      cases hx : (x :: r)[j]? with
      | none => rw [hx] at hj; cases hj
      | some z =>
        rw [hx] at hj
        injection hj with hj
        subst hj
        obtain ⟨b', off', e, hcell⟩ := hs j z hx
        injection e with e
        injection e with e1 e2 _
        subst e1 e2
        have := hcell 0 _ rfl
        simpa using this) hbk (by rw [List.length_map]; omega) (by rw [List.length_map]; exact hc) (by rw [he]; exact hl)
    rw [he, List.length_map] at h
    exact h
theorem join_len (xs : List (List UInt8)) (sep : List UInt8) (m : Nat) (h : ∀ x ∈ xs, x.length ≤ m) : (Lib.join xs sep).length ≤ xs.length * (m + sep.length) := by
  cases xs with
  | nil => simp [Lib.join_nil]
  | cons x r =>
    rw [Lib.join_cons, List.length_append]
    have h1 := h x (by simp)
    have key : ∀ r : List (List UInt8), (∀ x ∈ r, x.length ≤ m) → (Lib.joinTail sep r).length ≤ r.length * (m + sep.length) := by
      intro r
      induction r with
      | nil => intro _; simp [Lib.joinTail]
      | cons y r ih =>
        intro hh
        have h2 := hh y (by simp)
        have h3 := ih (fun x hx => hh x (by simp [hx]))
        simp only [Lib.joinTail, List.map_cons, List.flatten_cons, List.length_append, List.length_cons] at h3 ⊢
        rw [Nat.add_mul]
        omega
    have h2 := key r (fun x hx => h x (by simp [hx]))
    rw [List.length_cons, Nat.add_mul]
    omega
/-- Numbers, each as a string. -/
def itoas (l : List Int) : List (List UInt8) := l.map Lib.itoa
def Fits (n : Int) : Prop := -9223372036854775808 ≤ n ∧ n ≤ 9223372036854775807
set_option maxHeartbeats 4000000 in
theorem c_joined (L : List Int) (sep : UInt8) (A : Option Addr) (c : Nat) (w : World) (hs : Sl cI 1 w A L) (hl : L.length ≤ 1000) (hf : ∀ n ∈ L, Fits n) (hE : Env w) :
    Calls Tryz.prog 62 #[.slice A L.length c, .string ⟨#[sep]⟩] w (Ret (.string ⟨(Lib.join (itoas L) [sep]).toArray⟩) w) := by
  obtain ⟨i0, hi, hz0, hz1, hz2⟩ := info_parts infoStr
  have Hs := Lib.hid hs
  have HE := Lib.hid fun W (hb : Below w.heap.size w W) => hE.below hb
  have hjl : (Lib.join (itoas L) [sep]).length ≤ 140737488355328 := by
    have := join_len (itoas L) [sep] 21 (fun x hx => by
      obtain ⟨n, hn, rfl⟩ := List.mem_map.1 hx
      exact Lib.itoa_length_le n (hf n hn).1 (hf n hn).2)
    simp [itoas] at this
    unfold itoas
    omega
  have hJ := Lib.hid fun A' c' W h hc => c_JoinB (itoas L) [sep] A' c' W h hc (by simp [itoas]; omega) hjl
  have hIt := Lib.hid fun n (hn : n ∈ L) W (hW : Env W) => c_Itoa n (hf n hn).1 (hf n hn).2 W hW
  have h0 : Hid (itoas (L.take 0) = []) := rfl
  have hst := Lib.hid fun k n (h : L[k]? = some n) => (show itoas (L.take (k + 1)) = itoas (L.take k) ++ [Lib.itoa n] by rw [List.take_add_one, h]; simp [itoas])
  have hend : Hid (itoas (L.take L.length) = itoas L) := Lib.hid (by rw [List.take_length])
  have hlen : Hid ((itoas L).length = L.length) := Lib.hid (by simp [itoas])
  clear hs hE hjl
  obtain ⟨g, hg⟩ : ∃ g : Nat → List (List UInt8), ∀ k, itoas (L.take k) = g k := ⟨_, fun _ => rfl⟩
  simp only [hg] at h0 hst hend
  clear hg hf
  generalize Lib.join (itoas L) [sep] = J at *
  generalize itoas L = S at *
  obtain ⟨n, Hn⟩ : ∃ n, Hid (L.length = n) := ⟨_, rfl⟩
  rw [Hn.out] at hl hend hlen ⊢
  rw [hlen.out] at hJ
  go_enter Tryz.func62, Tryz.ntmps62
  go_wp2
  go_loopw [5, 10] (fun v i wr => ∃ k : Nat, k ≤ n ∧ i = .int .i64 k ∧ Below w.heap.size w wr ∧ wr.ownsRow w.heap.size 9 1 v k ((g k).flatMap cB)) (fun _ i _ => n - (intOf i).toNat)
  case atStart => exact ⟨0, Nat.zero_le _, rfl, bl_refl _, by rw [h0.out]; exact World.ownsRow_nil _ _ _ _⟩
  case round =>
    obtain ⟨k, hk, rfl, hb0, ho⟩ := hrel
    obtain ⟨vA, vc, rfl⟩ := own_slice ho
    replace ho := Lib.hid ho
    by_cases hkn : k < n
    rotate_left
    · obtain rfl : n = k := by omega
      rw [hend.out] at ho
      have hsl : Sl cB 1 wr vA S := own_slC (cs := cB) (fun _ => rfl) (by decide) (by rw [hlen.out]; exact ho.out)
      have hcap : n ≤ vc := by
        rcases ho.out.2 with ⟨h, -⟩ | ⟨_, _, _, e, _, _, h, _⟩
        · injection h with _ h1 h2
          omega
        · injection e with _ _ e
          omega
      go_wp2_with fail
      refine (hJ.out _ _ _ hsl hcap).mono ?_
      rintro e w1 ⟨rfl, hb1⟩
      go_wp2
      go_ret
      exact ⟨rfl, bl_tr hb0 hb1⟩
    have hx : L[k]? = some (L[k]'(by rw [Hn.out]; exact hkn)) := List.getElem?_eq_getElem _
    generalize L[k]'(by rw [Hn.out]; exact hkn) = x at hx
    have hgn := Lib.hid (hst.out k x hx)
    have hIx := Lib.hid (hIt.out x (List.mem_of_getElem? hx))
    obtain ⟨b, off, rfl, hc⟩ := Hs.out k x hx
    have c0 : wr.cell? ⟨b, off + k, none⟩ = some (.int .i64 x) := by simpa using kcell hb0 (hc 0 _ rfl)
    clear hc hx
    have hEw := HE.out wr hb0
    go_wp2_with fail
    refine (hIx.out wr hEw).mono ?_
    rintro e w1 ⟨rfl, hb1⟩
    generalize Lib.itoa x = s at *
    replace hb0 := bl_tr hb0 hb1
    replace ho := Lib.hid (own_below ho.out hb1)
    clear hb1 c0 hEw
    have hszA := hb0.size
    have hoA := Lib.hid (own_below ho.out (bl_al (.cells #[.string ⟨s.toArray⟩] 9) (bl_refl w1)))
    go_wp2_with (at_builtin; refine wpList_append_own2 rfl _ _ 54 rfl w.heap.size 9 i0 (.string ByteArray.empty) 1 16 Tryz.underlying54 hi hz0 hz1 hz2 rfl (by decide) _ _ _ rfl hoA.out ⟨_, 0, none⟩ 1 1 (cB s) rfl rfl ?c1 ?c2 ?c3 ?c4 ?c5 ?_)
    try case c1 =>
      intro q u hq
      match q, hq with
      | 0, hq => simp [cB] at hq; subst hq; simp [Addr.add]
      | q + 1, hq => simp [cB] at hq
    case c2 => first | (intro u hu; simp [cB] at hu; subst hu; rfl) | rfl
    case c3 => unfold maxLen; omega
    case c4 => omega
    case c5 => first | omega | (simp; omega)
    intro v9 w9 hown hg2 hd2
    have hb9 := (bl_al (.cells #[.string ⟨s.toArray⟩] 9) hb0).grown hg2 (by simp; omega) (own_ge hoA.out)
    have hown9 := Lib.hid (show w9.ownsRow w.heap.size 9 1 v9 (k + 1) ((g (k + 1)).flatMap cB) by rw [hgn.out, List.flatMap_append]; simpa using hown)
    clear hg2 hd2 hown hoA
    go_wp2
    go_roundw
    case rel => exact ⟨k + 1, by omega, by go_num, hb9, hown9.out⟩
    case measure => simp [intOf]; omega
end Go.Proofs.YtbdgblnccjpahaaGreatDoor
