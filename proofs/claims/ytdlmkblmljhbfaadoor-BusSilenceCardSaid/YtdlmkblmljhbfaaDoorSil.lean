/-
  Walks: the ranges of ticks at which a source is silent.
-/
import Derived.Test.YtdlmkblmljhbfaaDoorW1
import Derived.Test.YtdlmkblmljhbfaaDoorSilP
import Derived.Laws.EntriesVeiled
namespace Go.Proofs.YtdlmkblmljhbfaaDoor
set_option linter.unusedSimpArgs false
set_option linter.unusedVariables false
open Go.RowKit Go.Shelf
attribute [local go_sem] bl_al bl_drew bl_drewN bl_refl bx_al bx_drew bx_drewN bx_refl
set_option maxRecDepth 20000
theorem c_sil1 (x : Int) (w : World) : Calls Tryd.prog 73 #[.int .i64 x] w (Same (.bool (tickB x)) w) := by
  go_enter Tryd.func73, Tryd.ntmps73
  go_wp2_with (go_at_call 74; (with_reducible refine (c_within _ _ _ _).mono ?_); rintro e w3 ⟨rfl, rfl⟩)
  go_ret
  exact ⟨rfl, rfl⟩
set_option maxHeartbeats 2000000 in
theorem c_sil2 (k x la : Int) (B1 B2 : Nat) (t : TypeId) (w : World) (k1 : Blk w B1 t #[.func (.func 73) #[] #[]]) (k2 : Blk w B2 3 #[.int .i64 la]) :
    Calls Tryd.prog 76 #[.int .i64 k, .int .i64 x, .pointer (some ⟨B1, 0, none⟩), .pointer (some ⟨B2, 0, none⟩)] w
      (fun e w' => e = .returned (.int .i64 (fstE [unl (tickB x) 2, unl (decide (la < x)) 9])) ∧ BX [B2] w w' ∧ Blk w' B2 3 #[.int .i64 x]) := by
  go_enter Tryd.func76, Tryd.ntmps76
  go_upto_region 1 with fail
  first
  | apply absB2 (w0 := w) (g0 := B1) (g1 := B2)
  | apply absTB2 (w0 := w) (g0 := B1) (g1 := B2)
  | apply absIB2 (w0 := w) (g0 := B1) (g1 := B2)
  iterate 3 (focus ((with_reducible (repeat' (first | assumption | apply jA | apply jB | apply jC | apply jD | apply jE | apply jF | apply hb3 | apply jG | apply jH | apply jI | apply jJ | apply jK | apply hb3x | (apply jL; first | (simp; done) | rfl) | apply jM | apply jN | apply jO | apply jP | apply jQ | apply jR | apply jS | apply jT (hb := hb3 _ (jA _)) | omega | (simp; done) | (simp; omega) | (dsimp only; omega)))); done))
  intro wa hb0' k1' k2'
  (try simp only [List.setIfInBounds_toArray, List.set_cons_zero, List.set_cons_succ] at k1' k2')
  try clear hb3
  try clear hb0
  try clear k1
  try clear k2
  have hb0 := hb0'; clear hb0'
  have k1 := k1'; clear k1'
  have k2 := k2'; clear k2'
  have Lk1 := k1.later
  have Fk1 := k1.laterF
  have Qk1 := k1.lt
  have Lk2 := k2.later
  have Fk2 := k2.laterF
  have Qk2 := k2.lt
  refine wp_any (w0 := wa) ⟨[], [], [some 8, some 9, some 10, some 11, some 12, some 13, some 14, some 15, some 16, some 17, some 7], [[], [], [0, 1], [0, 1, 2], [], [], [4, 5], [0, 1, 2, 3, 4, 5, 6], [0, 1, 2, 3, 4, 5, 6, 7], [0, 1, 2, 3, 4, 5, 6, 7, 8], [0, 1, 2, 3, 4, 5, 6, 7, 8, 9]], [[], [], [0, 1], [2], [], [], [4, 5], [6], [3, 7], [8], [8, 9]]⟩ (fun _ => []) (by kernel_rfl) (by kernel_rfl) (by (with_reducible (repeat' (first | assumption | apply jA | apply jB | apply jC | apply jD | apply jE | apply jF | apply hb3 | omega | (simp; done) | (simp; omega) | (dsimp only; omega))))) (fun u => by simp only [putD, Act.put, List.setIfInBounds_toArray, List.set_cons_zero, List.set_cons_succ, Nat.zero_add, Nat.reduceAdd]; rfl) ?_
  apply RGW.on (i := 0) rfl
  · (simp only [gA, gB, gC] <;> rfl)
  · intro γ u W hcur hd
    clear hd
    (try dsimp only)
    refine ⟨rfl, ?_⟩
    go_simp <;> (try go_bits) <;> with_reducible rfl
  · exact fun _ _ _ => rfl
  · rfl
  dsimp only [nA, cA]
  apply RGW.on (i := 1) rfl
  · (simp only [gA, gB, gC] <;> rfl)
  · intro γ u W hcur hd
    clear hd
    (try dsimp only)
    refine ⟨rfl, ?_⟩
    go_simp <;> (try go_bits) <;> with_reducible rfl
  · exact fun _ _ _ => rfl
  · rfl
  dsimp only [nA, cA]
  apply RGW.call (i := 2) rfl
  · (simp only [gA, gB, gC] <;> rfl)
  · intro γ u W hcur hd
    obtain ⟨⟨h0, -, -⟩, ⟨h1, -, -⟩, -⟩ := hd
    dsimp only at h0 h1
    (try simp only [h0, h1])
    refine ⟨rfl, fun K hK => ?_⟩
    go_simp
    first
    | (go_at_call 73; (with_reducible refine (c_sil1 _ _).mono ?_); rintro e w3 ⟨rfl, rfl⟩)
    | (go_at_call 78; (with_reducible refine (c_unless _ _ _).mono ?_); rintro e w3 ⟨rfl, rfl⟩)
    | (go_at_call 77; (with_reducible refine (c_first2 (by (with_reducible (repeat' (first | assumption | (apply jL; first | (simp; done) | rfl) | apply jM | apply jN | apply jO | apply jP | apply jQ | apply jR | apply jS | apply jT (hb := hb3 _ (jA _)) | omega | (simp; done) | (simp; omega) | (dsimp only; omega)))))).mono ?_); rintro e w3 ⟨rfl, rfl⟩)
    (try dsimp only)
    exact hK.out _ _ rfl (by (with_reducible (repeat' (first | assumption | apply jA | apply jB | apply jC | apply jD | apply jE | apply jF | apply hb3 | omega | (simp; done) | (simp; omega) | (dsimp only; omega)))))
  · exact fun _ _ _ => rfl
  · rfl
  dsimp only [nA, cA]
  apply RGW.call (i := 3) rfl
  · (simp only [gA, gB, gC] <;> rfl)
  · intro γ u W hcur hd
    obtain ⟨⟨h2, -, -⟩, -⟩ := hd
    dsimp only at h2
    (try simp only [h2])
    refine ⟨rfl, fun K hK => ?_⟩
    go_simp
    first
    | (go_at_call 73; (with_reducible refine (c_sil1 _ _).mono ?_); rintro e w3 ⟨rfl, rfl⟩)
    | (go_at_call 78; (with_reducible refine (c_unless _ _ _).mono ?_); rintro e w3 ⟨rfl, rfl⟩)
    | (go_at_call 77; (with_reducible refine (c_first2 (by (with_reducible (repeat' (first | assumption | (apply jL; first | (simp; done) | rfl) | apply jM | apply jN | apply jO | apply jP | apply jQ | apply jR | apply jS | apply jT (hb := hb3 _ (jA _)) | omega | (simp; done) | (simp; omega) | (dsimp only; omega)))))).mono ?_); rintro e w3 ⟨rfl, rfl⟩)
    (try dsimp only)
    exact hK.out _ _ rfl (by (with_reducible (repeat' (first | assumption | apply jA | apply jB | apply jC | apply jD | apply jE | apply jF | apply hb3 | omega | (simp; done) | (simp; omega) | (dsimp only; omega)))))
  · exact fun _ _ _ => rfl
  · rfl
  dsimp only [nA, cA]
  apply RGW.on (i := 4) rfl
  · (simp only [gA, gB, gC] <;> rfl)
  · intro γ u W hcur hd
    clear hd
    (try dsimp only)
    refine ⟨rfl, ?_⟩
    go_simp <;> (try go_bits) <;> with_reducible rfl
  · exact fun _ _ _ => rfl
  · rfl
  dsimp only [nA, cA]
  apply RGW.on (i := 5) rfl
  · (simp only [gA, gB, gC] <;> rfl)
  · intro γ u W hcur hd
    clear hd
    (try dsimp only)
    refine ⟨rfl, ?_⟩
    go_simp <;> (try go_bits) <;> with_reducible rfl
  · exact fun _ _ _ => rfl
  · rfl
  dsimp only [nA, cA]
  apply RGW.on (i := 6) rfl
  · (simp only [gA, gB, gC] <;> rfl)
  · intro γ u W hcur hd
    obtain ⟨⟨h4, -, -⟩, ⟨h5, -, -⟩, -⟩ := hd
    dsimp only at h4 h5
    (try simp only [h4, h5])
    refine ⟨rfl, ?_⟩
    go_simp <;> (try go_bits) <;> with_reducible rfl
  · exact fun _ _ _ => rfl
  · rfl
  dsimp only [nA, cA]
  apply RGW.call (i := 7) rfl
  · (simp only [gA, gB, gC] <;> rfl)
  · intro γ u W hcur hd
    obtain ⟨⟨h6, -, -⟩, -⟩ := hd
    dsimp only at h6
    (try simp only [h6])
    refine ⟨rfl, fun K hK => ?_⟩
    go_simp
    first
    | (go_at_call 73; (with_reducible refine (c_sil1 _ _).mono ?_); rintro e w3 ⟨rfl, rfl⟩)
    | (go_at_call 78; (with_reducible refine (c_unless _ _ _).mono ?_); rintro e w3 ⟨rfl, rfl⟩)
    | (go_at_call 77; (with_reducible refine (c_first2 (by (with_reducible (repeat' (first | assumption | (apply jL; first | (simp; done) | rfl) | apply jM | apply jN | apply jO | apply jP | apply jQ | apply jR | apply jS | apply jT (hb := hb3 _ (jA _)) | omega | (simp; done) | (simp; omega) | (dsimp only; omega)))))).mono ?_); rintro e w3 ⟨rfl, rfl⟩)
    (try dsimp only)
    exact hK.out _ _ rfl (by (with_reducible (repeat' (first | assumption | apply jA | apply jB | apply jC | apply jD | apply jE | apply jF | apply hb3 | omega | (simp; done) | (simp; omega) | (dsimp only; omega)))))
  · exact fun _ _ _ => rfl
  · rfl
  dsimp only [nA, cA]
  apply RGW.bslice (i := 8) rfl
  · (simp only [gA, gB, gC] <;> rfl)
  · intro γ u W hcur hd
    obtain ⟨⟨h3, -, -⟩, ⟨h7, -, -⟩, -⟩ := hd
    dsimp only at h3 h7
    (try simp only [h3, h7])
    refine ⟨rfl, fun K hK => ?_⟩
    go_simp
    exact hK.out _ _ rfl rfl
  · exact fun _ _ _ => rfl
  · rfl
  · rfl
  dsimp only [nA, cA]
  apply RGW.call (i := 9) rfl
  · (simp only [gA, gB, gC] <;> rfl)
  · intro γ u W hcur hd
    obtain ⟨⟨h8, r8, -⟩, -⟩ := hd
    dsimp only at h8 r8
    have L8 := r8.cell
    (try simp only [h8])
    refine ⟨rfl, fun K hK => ?_⟩
    go_simp
    first
    | (go_at_call 73; (with_reducible refine (c_sil1 _ _).mono ?_); rintro e w3 ⟨rfl, rfl⟩)
    | (go_at_call 78; (with_reducible refine (c_unless _ _ _).mono ?_); rintro e w3 ⟨rfl, rfl⟩)
    | (go_at_call 77; (with_reducible refine (c_first2 (by (with_reducible (repeat' (first | assumption | (apply jL; first | (simp; done) | rfl) | apply jM | apply jN | apply jO | apply jP | apply jQ | apply jR | apply jS | apply jT (hb := hb3 _ (jA _)) | omega | (simp; done) | (simp; omega) | (dsimp only; omega)))))).mono ?_); rintro e w3 ⟨rfl, rfl⟩)
    (try dsimp only)
    exact hK.out _ _ rfl (by (with_reducible (repeat' (first | assumption | apply jA | apply jB | apply jC | apply jD | apply jE | apply jF | apply hb3 | omega | (simp; done) | (simp; omega) | (dsimp only; omega)))))
  · first
    | exact fun _ _ _ => rfl
    | intro γ γ' hg
      try dsimp only
      have e8 := hg 8 (by decide)
      simp only [e8]
  · rfl
  dsimp only [nA, cA]
  apply RGW.on (i := 10) rfl
  · (simp only [gA, gB, gC] <;> rfl)
  · intro γ u W hcur hd
    obtain ⟨⟨h8, r8, -⟩, ⟨h9, -, -⟩, -⟩ := hd
    dsimp only at h8 h9 r8
    have L8 := r8.cell
    (try simp only [h8, h9])
    refine ⟨rfl, ?_⟩
    go_simp <;> (try go_bits) <;> with_reducible rfl
  · first
    | exact fun _ _ _ => rfl
    | intro γ γ' hg
      try dsimp only
      have e8 := hg 8 (by decide)
      simp only [e8]
  · rfl
  dsimp only [nA, cA]
  refine RGW.fin (fun γ u wb hwb hd hdis => ?_)
  obtain ⟨⟨h0, -, -⟩, ⟨h1, -, -⟩, ⟨h2, -, -⟩, ⟨h3, -, -⟩, ⟨h4, -, -⟩, ⟨h5, -, -⟩, ⟨h6, -, -⟩, ⟨h7, -, -⟩, ⟨h8, r8, b8⟩, ⟨h9, -, -⟩, ⟨h10, -, -⟩, -⟩ := hd
  dsimp only at h0 h1 h2 h3 h4 h5 h6 h7 h8 h9 h10 r8 b8
  clear hdis
  simp only [h0, h1, h2, h3, h4, h5, h6, h7, h8, h9, h10]
  clear h10 h9 h8 h7 h6 h5 h4 h3 h2 h1 h0
  replace b8 := b8 _ (List.mem_singleton.2 rfl)
  generalize hγ8 : (γ 8).n = g8 at *
  clear hγ8
  clear u
  simp only [List.map_nil]
  refine PlanW.done ?_
  have hb3 := bl_tt hwb
  have hbw := hb3 _ hb0
  replace k2 := k2.below hwb
  have L2 := k2.cell
  have F2 := k2.frozen
  go_wp2
  go_ret
  exact ⟨rfl, bx_set (.inl (by simp)) _ (bx_bl _ hbw), k2.set1 (by simp)⟩
theorem infoR : (Tryd.prog.info? 24).map (fun i => (i.zero, i.size, i.bytes)) = some (some (.agg #[.int .i64 0, .int .i64 0]), 2, 16) := by kernel_rfl
theorem Blk.grown {w w' : World} {g : Nat} {t : TypeId} {cs : Array Value} {row : Option Nat} (h : Blk w g t cs) (hg : w.grownBy w' row) (hne : some g ≠ row) : Blk w' g t cs := (hg.block g h.lt hne).trans h
theorem ne_own {w : World} {base n g : Nat} {e : TypeId} {size : Nat} {v : Value} {xs : List Value} (h : w.ownsRow base e size v n xs) (hg : g < base) : some g ≠ v.ownBlock := fun e => by
  have := own_ge h g e.symm
  omega
theorem own_slice {w : World} {base n : Nat} {e : TypeId} {size : Nat} {v : Value} {xs : List Value} (h : w.ownsRow base e size v n xs) : ∃ A c, v = .slice A n c := by
  rcases h.2 with ⟨e, hn⟩ | ⟨g, cap, cur, e, _⟩
  · exact ⟨none, 0, by rw [e, hn]⟩
  · exact ⟨_, _, e⟩
theorem own_set {w : World} {base n g i : Nat} {e : TypeId} {size : Nat} {v : Value} {xs : List Value} (u : Value) (h : w.ownsRow base e size v n xs) (hg : g < base) : (w.setCell ⟨g, i, none⟩ u).ownsRow base e size v n xs :=
  own_bx h (bx_set (X := [g]) (.inl (by simp)) u (bx_refl _ _)) (by simp; omega)
set_option maxHeartbeats 4000000 in
theorem c_sil3 (to f lo hi : Int) (L : List Rg) (v : Value) (Bs Bf Bo base D : Nat) (w : World) (ks : Blk w Bs 24 #[.int .i64 lo, .int .i64 hi]) (kf : Blk w Bf 3 #[.int .i64 f]) (ko : Blk w Bo 27 #[v])
    (hown : w.ownsRow base 24 2 v L.length (L.flatMap cRg)) (h1 : Bs < base) (h2 : Bf < base) (h3 : Bo < base) (hos : Bs ≠ Bo) (hof : Bf ≠ Bo) (hD : D ≤ Bo) (hL : L.length ≤ 1000) (hbase : base ≤ w.heap.size) :
    Calls Tryd.prog 79 #[.int .i64 to, .pointer (some ⟨Bs, 0, none⟩), .pointer (some ⟨Bf, 0, none⟩), .pointer (some ⟨Bo, 0, none⟩)] w
      (fun e w' => (∃ u, e = .returned u) ∧ Below D w w' ∧ Blk w' Bs 24 #[.int .i64 lo, .int .i64 hi] ∧ Blk w' Bf 3 #[.int .i64 f] ∧
        ∃ v', Blk w' Bo 27 #[v'] ∧ w'.ownsRow base 24 2 v' (L ++ silOne f to hi).length ((L ++ silOne f to hi).flatMap cRg)) := by
  obtain ⟨i0, hi0, hz0, hz1, hz2⟩ := info_parts infoR
  have Hown := Lib.hid hown
  clear hown
  have Ls := ks.cell
  have Lf := kf.cell
  have Lo := ko.cell
  have hyes : Hid (f ≤ min to hi → silOne f to hi = [⟨f, min to hi⟩]) := fun h => by rw [silOne, if_pos h]
  have hno : Hid (¬ f ≤ min to hi → silOne f to hi = []) := fun h => by rw [silOne, if_neg h]
  obtain ⟨m, hm⟩ : ∃ m, min to hi = m := ⟨_, rfl⟩
  rw [hm] at hyes hno
  by_cases hfm : f ≤ m
  · have hv := Lib.hid (hyes.out hfm)
    clear hyes hno
    have hfl : Hid ((cRg ⟨f, m⟩) = [.int .i64 f, .int .i64 m]) := rfl
    go_enter Tryd.func79, Tryd.ntmps79
    go_wp2_with (at_builtin; refine wpList_append_own _ rfl _ _ 27 rfl base 24 i0 (.agg #[.int .i64 0, .int .i64 0]) 2 16 Tryd.underlying27 hi0 hz0 hz1 hz2 rfl (by decide) v L.length _ rfl (Hown.out.alloc _) ⟨w.heap.size, 0, none⟩ 1 1 [.int .i64 f, .int .i64 m] rfl rfl ?c1 ?c2 ?c3 ?c4 ?c5 ?_)
    case c1 =>
      intro j u hj
      match j, hj with
      | 0, hj => simp at hj; subst hj; simp [Addr.add]
      | 1, hj => simp at hj; subst hj; simp [Addr.add]
    case c2 => intro u hu; simp at hu; rcases hu with rfl | rfl <;> rfl
    case c3 => unfold maxLen; omega
    case c4 => omega
    case c5 => simp; omega
    intro v' w1 hown' hgrow _
    obtain ⟨A', c', rfl⟩ := own_slice hown'
    have hno := ne_own Hown.out h1
    have hnf := ne_own Hown.out h2
    have hnb := ne_own Hown.out h3
    have hge := own_ge Hown.out
    have ks1 := (ks.alloc (.cells #[.int .i64 f, .int .i64 m] 24)).grown hgrow hno
    have kf1 := (kf.alloc (.cells #[.int .i64 f, .int .i64 m] 24)).grown hgrow hnf
    have ko1 := (ko.alloc (.cells #[.int .i64 f, .int .i64 m] 24)).grown hgrow hnb
    have hb1 : Below D w w1 := (((Below.refl D w).alloc (by omega) _).grown hgrow (by simp; omega) (fun k hk => by have := hge k hk; omega))
    have hown2 : w1.ownsRow base 24 2 (.slice A' (L.length + 1) c') (L ++ silOne f to hi).length ((L ++ silOne f to hi).flatMap cRg) := by
      rw [hv.out]
      simpa [hfl.out] using hown'
    replace hown2 := Lib.hid hown2
    clear hown' hgrow hno hnf hnb hge Ls Lf Lo ks kf ko Hown
    have Lo := ko1.cell
    have Fo := ko1.frozen
    go_wp2
    go_end0
    exact ⟨⟨_, rfl⟩, hb1.setCell (by exact hD) _, ks1.other hos _, kf1.other hof _, _, ko1.set1 (by simp), own_set _ hown2.out h3⟩
  · have hv := Lib.hid (hno.out hfm)
    clear hyes hno
    go_enter Tryd.func79, Tryd.ntmps79
    go_wp2
    go_end0
    exact ⟨⟨_, rfl⟩, Below.refl _ _, ks, kf, v, ko, by rw [hv.out]; simpa using Hown.out⟩
def frK (l : List Int) (t lo : Int) : Nat → Int
  | 0 => lo
  | k + 1 => max (frK l t lo k) (l.getD k 0 + t + 1)
def accK (l : List Int) (t lo hi : Int) : Nat → List Rg
  | 0 => []
  | k + 1 => accK l t lo hi k ++ silOne (frK l t lo k) (l.getD k 0 - 1) hi
theorem sil_acc (l : List Int) (t lo hi : Int) : ∀ k, k ≤ l.length → silFrom hi t l lo = accK l t lo hi k ++ silFrom hi t (l.drop k) (frK l t lo k)
  | 0, _ => rfl
  | k + 1, h => by
    rw [sil_acc l t lo hi k (by omega), List.drop_eq_getElem_cons (by omega : k < l.length), silFrom, accK, frK]
    simp [List.getElem?_eq_getElem (by omega : k < l.length), List.append_assoc]
theorem sil_end (l : List Int) (t lo hi : Int) : silFrom hi t l lo = accK l t lo hi l.length ++ silOne (frK l t lo l.length) hi hi := by
  rw [sil_acc l t lo hi l.length (Nat.le_refl _), List.drop_length]
  rfl
theorem frK_bd {l : List Int} {t lo : Int} (hl : ∀ n ∈ l, 0 ≤ n ∧ n ≤ 1000000000000) (ht : 0 ≤ t ∧ t ≤ 1000000000000) (h0 : 0 ≤ lo ∧ lo ≤ 1000000000000) : ∀ k, k ≤ l.length → 0 ≤ frK l t lo k ∧ frK l t lo k ≤ 3000000000000
  | 0, _ => by
    unfold frK
    omega
  | k + 1, h => by
    have := frK_bd hl ht h0 k (by omega)
    have e : l.getD k 0 = l[k]'(by omega) := by simp [List.getElem?_eq_getElem (by omega : k < l.length)]
    have := hl _ (List.getElem_mem (by omega : k < l.length))
    rw [frK, e]
    omega
theorem accK_len (l : List Int) (t lo hi : Int) : ∀ k, (accK l t lo hi k).length ≤ k
  | 0 => Nat.le_refl 0
  | k + 1 => by
    have := accK_len l t lo hi k
    have h1 : (silOne (frK l t lo k) (l.getD k 0 - 1) hi).length ≤ 1 := by
      unfold silOne
      split <;> simp
    rw [accK, List.length_append]
    omega
theorem heard_ok {l : List Int} (h : heardE l = 0) : ∀ n ∈ l, 0 ≤ n ∧ n ≤ 1000000000000 := fun n hn => by
  obtain ⟨j, hj, rfl⟩ := List.getElem_of_mem hn
  have := eachS_ok _ l 0 h j l[j] (List.getElem?_eq_getElem hj)
  simp only [fst_cons, unl_zero (show (2 : Int) ≠ 0 by decide)] at this
  exact inR_iff.1 this.1
/-- A slice of the call's own, and an error. -/
def RetP {α : Type} (cs : α → List Value) (e : TypeId) (sz : Nat) (L : List α) (x : Int) (w : World) (en : Ending) (w' : World) : Prop :=
  ∃ A c, en = .returned (.tuple #[.slice A L.length c, .int .i64 x]) ∧ Below w.heap.size w w' ∧ w'.ownsRow w.heap.size e sz (.slice A L.length c) L.length (L.flatMap cs)
def silR (l : List Int) (s : Rg) (t : Int) : List Rg := if silE l s t = 0 then silS l s t else []
set_option maxHeartbeats 8000000 in
theorem c_SilentIn (l : List Int) (s : Rg) (t : Int) (A : Option Addr) (c : Nat) (w : World) (hs : Sl cI 1 w A l) (hl : l.length ≤ 1000) :
    Calls Tryd.prog 16 #[.slice A l.length c, vRg s, .int .i64 t] w (RetP cRg 24 2 (silR l s t) (silE l s t) w) := by
  obtain ⟨lo, hi⟩ := s
  have Hs := Lib.hid hs
  have hE : Hid (silE l ⟨lo, hi⟩ t = fstE [unl (decide ((l.length : Int) ≤ 60)) 8, heardE l, unl (tickB lo && tickB hi) 2, unl (decide (lo ≤ hi)) 9, unl (tickB t) 2]) := rfl
  have hR0 : Hid (silE l ⟨lo, hi⟩ t ≠ 0 → silR l ⟨lo, hi⟩ t = []) := fun h => by rw [silR, if_neg h]
  have hR1 : Hid (silE l ⟨lo, hi⟩ t = 0 → silR l ⟨lo, hi⟩ t = accK l t lo hi l.length ++ silOne (frK l t lo l.length) hi hi) := fun h => by rw [silR, if_pos h, silS, sil_end]
  have hok : Hid (silE l ⟨lo, hi⟩ t = 0 → (∀ n ∈ l, 0 ≤ n ∧ n ≤ 1000000000000) ∧ (0 ≤ t ∧ t ≤ 1000000000000) ∧ (0 ≤ lo ∧ lo ≤ 1000000000000) ∧ l.length ≤ 60) := fun h => by
    rw [hE.out] at h
    simp only [fst_cons, unl_zero (show (2 : Int) ≠ 0 by decide), unl_zero (show (8 : Int) ≠ 0 by decide), unl_zero (show (9 : Int) ≠ 0 by decide), Bool.and_eq_true, decide_eq_true_eq, tickB, inR_iff] at h
    exact ⟨heard_ok h.2.1, h.2.2.2.2.1, h.2.2.1.1, by omega⟩
  by_cases h60 : l.length ≤ 60
  · have h60' : Hid (unl (decide ((l.length : Int) ≤ 60)) 8 = 0) := Lib.hid (by rw [unl_zero (by decide)]; simp; omega)
    have hE2 : Hid (silE l ⟨lo, hi⟩ t = fstE [heardE l, unl (tickB lo && tickB hi) 2, unl (decide (lo ≤ hi)) 9, unl (tickB t) 2]) := Lib.hid (by rw [hE.out, h60'.out]; rfl)
    clear hE h60' hs
    have hev := Lib.hid fun (B1 B2 : Nat) (ty : TypeId) (W : World) (hb : Below w.heap.size w W) (k1 : Blk W B1 ty #[.func (.func 73) #[] #[]]) (k2 : Blk W B2 3 #[.int .i64 (-1)]) (h2 : w.heap.size ≤ B2) (h12 : B1 ≠ B2) =>
      c_eachJI 76 #[.pointer (some ⟨B1, 0, none⟩), .pointer (some ⟨B2, 0, none⟩)] (fun k n => fstE [unl (tickB n) 2, unl (decide (prevI l k < n)) 9]) (fun k W => Blk W B2 3 #[.int .i64 (prevI l k)]) [B2] A l c W (by omega)
        (enters_of Tryd.func76 (by kernel_rfl) rfl) (fun k X Y h hb => h.below hb)
        (fun k x hx W' hb' hk => (c_sil2 k x (prevI l k) B1 B2 ty W' (k1.keep (by simpa using h12) hb') hk).mono fun e W2 ⟨e1, e2, e3⟩ => ⟨e1, e2, fun _ => by
          have : prevI l (k + 1) = x := by simp [prevI, hx]
          rw [this]
          exact e3⟩)
        (fun W' hb' => sl_new Hs.out ((bx_bl [B2] hb).trans hb') (by simpa using h2)) k2
    have hev2 : Hid ((eachS (fun k n => fstE [unl (tickB n) 2, unl (decide (prevI l k < n)) 9]) l 0).2 = heardE l) := rfl
    obtain ⟨n, Hn⟩ : ∃ n, Hid (l.length = n) := ⟨_, rfl⟩
    have hl60 : Hid (decide ((60 : Int) < n) = false) := Lib.hid (by rw [← Hn.out]; simp; omega)
    rw [Hn.out] at hev hl h60 ⊢
    rw [Hn.out] at hR1 hok
    have hx60 := hl60.out
    have hfin := Lib.hid fun k (h : silE l ⟨lo, hi⟩ t = 0) (hk : k ≤ n) => frK_bd (hok.out h).1 (hok.out h).2.1 (hok.out h).2.2.1 k (by rw [Hn.out]; exact hk)
    have hacl := Lib.hid fun k => accK_len l t lo hi k
    cases hA : tickB lo
    all_goals
      rw [hA] at hE2
      simp only [Bool.false_and, Bool.true_and] at hE2
      go_enter Tryd.func16, Tryd.ntmps16
      go_upto_region 5 with fail
      first
      | apply absB3 (w0 := w) (g0 := w.heap.size) (g1 := w.heap.size + 1) (g2 := w.heap.size + 2)
      | apply absTB3 (w0 := w) (g0 := w.heap.size) (g1 := w.heap.size + 1) (g2 := w.heap.size + 2)
      | apply absIB3 (w0 := w) (g0 := w.heap.size) (g1 := w.heap.size + 1) (g2 := w.heap.size + 2)
      iterate 4 (focus ((with_reducible (repeat' (first | assumption | apply jA | apply jB | apply jC | apply jD | apply jE | apply jF | apply hb3 | apply jG | apply jH | apply jI | apply jJ | apply jK | apply hb3x | (apply jL; first | (simp; done) | rfl) | apply jM | apply jN | apply jO | apply jP | apply jQ | apply jR | apply jS | apply jT (hb := hb3 _ (jA _)) | omega | (simp; done) | (simp; omega) | (dsimp only; omega)))); done))
      intro wa hb0' k0' k1' k2'
      (try simp only [List.setIfInBounds_toArray, List.set_cons_zero, List.set_cons_succ] at k0' k1' k2')
      try clear hb3
      try clear hb0
      try clear k0
      try clear k1
      try clear k2
      have hb0 := hb0'; clear hb0'
      have k0 := k0'; clear k0'
      have k1 := k1'; clear k1'
      have k2 := k2'; clear k2'
      go_wp2_with fail
      refine (hev.out (w.heap.size + 1) (w.heap.size + 2) 120 wa hb0 k1 k2 (by omega) (by omega)).mono ?_
      rintro e w3 ⟨rfl, hbx, -⟩
      rw [hev2.out]
      replace hb0 := bx_below hb0 hbx (by simp)
      replace k0 := k0.keep (by simp) hbx
      replace k1 := k1.keep (by simp) hbx
      clear k2 hbx hev hev2
      have Lk0 := k0.later
      have Fk0 := k0.laterF
      have Qk0 := k0.lt
      have Lk1 := k1.later
      have Fk1 := k1.laterF
      have Qk1 := k1.lt
      go_upto_region 6 with fail
      refine wp_any (w0 := w3) ⟨[24], [], [some 26, some 27, some 28, some 29, some 30, some 31, some 32, some 33, some 34, some 35, some 36, some 37, some 38, some 39, some 40, some 41, some 42, some 43, some 44, some 45, some 46, some 47, some 48, some 49, none], [[], [], [], [2], [1, 2, 3], [1, 2, 3, 4], [1, 2, 3, 4, 5], [1, 2, 3, 4, 5], [1, 2, 3, 4, 5, 7], [1, 2, 3, 4, 5, 6, 7, 8], [1, 2, 3, 4, 5, 6, 7, 8, 9], [1, 2, 3, 4, 5, 6, 7, 8, 9, 10], [], [12], [], [14], [12, 13, 14, 15], [1, 2, 3, 4, 5, 6, 7, 8, 9, 10, 11, 12, 13, 14, 15, 16], [], [], [1, 2, 3, 4, 5, 6, 7, 8, 9, 10, 11, 12, 13, 14, 15, 16, 17, 18, 19], [1, 2, 3, 4, 5, 6, 7, 8, 9, 10, 11, 12, 13, 14, 15, 16, 17, 18, 19, 20], [0, 1, 2, 3, 4, 5, 6, 7, 8, 9, 10, 11, 12, 13, 14, 15, 16, 17, 18, 19, 20, 21], [0, 1, 2, 3, 4, 5, 6, 7, 8, 9, 10, 11, 12, 13, 14, 15, 16, 17, 18, 19, 20, 21, 22], [0, 1, 2, 3, 4, 5, 6, 7, 8, 9, 10, 11, 12, 13, 14, 15, 16, 17, 18, 19, 20, 21, 22, 23]], [[], [], [], [2], [1, 3], [4], [5], [5], [5, 7], [5, 6, 8], [5, 9], [10], [], [12], [], [14], [13, 15], [16], [], [], [18, 19], [20], [0, 11, 17, 21], [22], []]⟩ (fun _ => []) (by kernel_rfl) (by kernel_rfl) (by (with_reducible (repeat' (first | assumption | apply jA | apply jB | apply jC | apply jD | apply jE | apply jF | apply hb3 | omega | (simp; done) | (simp; omega) | (dsimp only; omega))))) (fun u => by simp only [putD, Act.put, List.setIfInBounds_toArray, List.set_cons_zero, List.set_cons_succ, Nat.zero_add, Nat.reduceAdd]; rfl) ?_
      apply RGW.on (i := 0) rfl
      · (simp only [gA, gB, gC] <;> rfl)
      · intro γ u W hcur hd
        clear hd
        (try dsimp only)
        refine ⟨rfl, ?_⟩
        go_simp <;> (try go_bits) <;> with_reducible rfl
      · exact fun _ _ _ => rfl
      · rfl
      dsimp only [nA, cA]
      apply RGW.on (i := 1) rfl
      · (simp only [gA, gB, gC] <;> rfl)
      · intro γ u W hcur hd
        clear hd
        (try dsimp only)
        refine ⟨rfl, ?_⟩
        go_simp <;> (try go_bits) <;> with_reducible rfl
      · exact fun _ _ _ => rfl
      · rfl
      dsimp only [nA, cA]
      apply RGW.on (i := 2) rfl
      · (simp only [gA, gB, gC] <;> rfl)
      · intro γ u W hcur hd
        clear hd
        (try dsimp only)
        refine ⟨rfl, ?_⟩
        go_simp <;> (try go_bits) <;> with_reducible rfl
      · exact fun _ _ _ => rfl
      · rfl
      dsimp only [nA, cA]
      apply RGW.on (i := 3) rfl
      · (simp only [gA, gB, gC] <;> rfl)
      · intro γ u W hcur hd
        obtain ⟨⟨h2, -, -⟩, -⟩ := hd
        dsimp only at h2
        (try simp only [h2])
        refine ⟨rfl, ?_⟩
        go_simp <;> (try go_bits) <;> with_reducible rfl
      · exact fun _ _ _ => rfl
      · rfl
      dsimp only [nA, cA]
      apply RGW.call (i := 4) rfl
      · (simp only [gA, gB, gC] <;> rfl)
      · intro γ u W hcur hd
        obtain ⟨⟨h1, -, -⟩, ⟨h3, -, -⟩, -⟩ := hd
        dsimp only at h1 h3
        (try simp only [h1, h3])
        refine ⟨rfl, fun K hK => ?_⟩
        go_simp
        first
        | (go_at_call 73; (with_reducible refine (c_sil1 _ _).mono ?_); rintro e w3 ⟨rfl, rfl⟩)
        | (go_at_call 78; (with_reducible refine (c_unless _ _ _).mono ?_); rintro e w3 ⟨rfl, rfl⟩)
        | (go_at_call 77; (with_reducible refine (c_first4 (by (with_reducible (repeat' (first | assumption | (apply jL; first | (simp; done) | rfl) | apply jM | apply jN | apply jO | apply jP | apply jQ | apply jR | apply jS | apply jT (hb := hb3 _ (jA _)) | omega | (simp; done) | (simp; omega) | (dsimp only; omega)))))).mono ?_); rintro e w3 ⟨rfl, rfl⟩)
        (try dsimp only)
        exact hK.out _ _ rfl (by (with_reducible (repeat' (first | assumption | apply jA | apply jB | apply jC | apply jD | apply jE | apply jF | apply hb3 | omega | (simp; done) | (simp; omega) | (dsimp only; omega)))))
      · exact fun _ _ _ => rfl
      · rfl
      dsimp only [nA, cA]
      apply RGW.on (i := 5) rfl
      · (simp only [gA, gB, gC] <;> rfl)
      · intro γ u W hcur hd
        obtain ⟨⟨h4, -, -⟩, -⟩ := hd
        dsimp only at h4
        (try simp only [h4])
        refine ⟨rfl, ?_⟩
        go_simp <;> (try go_bits) <;> with_reducible rfl
      · exact fun _ _ _ => rfl
      · rfl
      dsimp only [nA, cA]
      first
      | apply RGW.on (i := 6) rfl
        · (simp only [gA, gB, gC] <;> rfl)
        · intro γ u W hcur hd
          obtain ⟨⟨h5, -, -⟩, -⟩ := hd
          dsimp only at h5
          (try simp only [h5])
          refine ⟨?_, ?_⟩
          · (simp [Region.wanted, yielded, undef, *]; done)
          go_simp <;> (try go_bits) <;> with_reducible rfl
        · exact fun _ _ _ => rfl
        · rfl
      | apply RGW.off (i := 6) rfl
        · (simp only [gA, gB, gC] <;> rfl)
        · intro γ u W hcur hd
          obtain ⟨⟨h5, -, -⟩, -⟩ := hd
          dsimp only at h5
          (try simp only [h5])
          simp [Region.wanted, yielded, undef, *]
        · rfl
      dsimp only [nA, cA]
      first
      | apply RGW.on (i := 7) rfl
        · (simp only [gA, gB, gC] <;> rfl)
        · intro γ u W hcur hd
          obtain ⟨⟨h5, -, -⟩, -⟩ := hd
          dsimp only at h5
          (try simp only [h5])
          refine ⟨?_, ?_⟩
          · (simp [Region.wanted, yielded, undef, *]; done)
          go_simp <;> (try go_bits) <;> with_reducible rfl
        · exact fun _ _ _ => rfl
        · rfl
      | apply RGW.off (i := 7) rfl
        · (simp only [gA, gB, gC] <;> rfl)
        · intro γ u W hcur hd
          obtain ⟨⟨h5, -, -⟩, -⟩ := hd
          dsimp only at h5
          (try simp only [h5])
          simp [Region.wanted, yielded, undef, *]
        · rfl
      dsimp only [nA, cA]
      first
      | apply RGW.on (i := 8) rfl
        · (simp only [gA, gB, gC] <;> rfl)
        · intro γ u W hcur hd
          obtain ⟨⟨h5, -, -⟩, ⟨h7, -, -⟩, -⟩ := hd
          dsimp only at h5 h7
          (try simp only [h5, h7])
          refine ⟨?_, ?_⟩
          · (simp [Region.wanted, yielded, undef, *]; done)
          go_simp <;> (try go_bits) <;> with_reducible rfl
        · exact fun _ _ _ => rfl
        · rfl
      | apply RGW.off (i := 8) rfl
        · (simp only [gA, gB, gC] <;> rfl)
        · intro γ u W hcur hd
          obtain ⟨⟨h5, -, -⟩, ⟨h7, -, -⟩, -⟩ := hd
          dsimp only at h5 h7
          (try simp only [h5, h7])
          simp [Region.wanted, yielded, undef, *]
        · rfl
      dsimp only [nA, cA]
      first
      | apply RGW.call (i := 9) rfl
        · (simp only [gA, gB, gC] <;> rfl)
        · intro γ u W hcur hd
          obtain ⟨⟨h5, -, -⟩, ⟨h6, -, -⟩, ⟨h8, -, -⟩, -⟩ := hd
          dsimp only at h5 h6 h8
          (try simp only [h5, h6, h8])
          refine ⟨?_, fun K hK => ?_⟩
          · (simp [Region.wanted, yielded, undef, *]; done)
          go_simp
          first
          | (go_at_call 73; (with_reducible refine (c_sil1 _ _).mono ?_); rintro e w3 ⟨rfl, rfl⟩)
          | (go_at_call 78; (with_reducible refine (c_unless _ _ _).mono ?_); rintro e w3 ⟨rfl, rfl⟩)
          | (go_at_call 77; (with_reducible refine (c_first4 (by (with_reducible (repeat' (first | assumption | (apply jL; first | (simp; done) | rfl) | apply jM | apply jN | apply jO | apply jP | apply jQ | apply jR | apply jS | apply jT (hb := hb3 _ (jA _)) | omega | (simp; done) | (simp; omega) | (dsimp only; omega)))))).mono ?_); rintro e w3 ⟨rfl, rfl⟩)
          (try dsimp only)
          exact hK.out _ _ rfl (by (with_reducible (repeat' (first | assumption | apply jA | apply jB | apply jC | apply jD | apply jE | apply jF | apply hb3 | omega | (simp; done) | (simp; omega) | (dsimp only; omega)))))
        · exact fun _ _ _ => rfl
        · rfl
      | apply RGW.off (i := 9) rfl
        · (simp only [gA, gB, gC] <;> rfl)
        · intro γ u W hcur hd
          obtain ⟨⟨h5, -, -⟩, ⟨h6, -, -⟩, ⟨h8, -, -⟩, -⟩ := hd
          dsimp only at h5 h6 h8
          (try simp only [h5, h6, h8])
          simp [Region.wanted, yielded, undef, *]
        · rfl
      dsimp only [nA, cA]
      apply RGW.on (i := 10) rfl
      · (simp only [gA, gB, gC] <;> rfl)
      · intro γ u W hcur hd
        obtain ⟨⟨h5, -, -⟩, ⟨h9, -, -⟩, -⟩ := hd
        dsimp only at h5 h9
        (try simp only [h5, h9])
        refine ⟨rfl, ?_⟩
        go_simp <;> (try go_bits) <;> with_reducible rfl
      · exact fun _ _ _ => rfl
      · rfl
      dsimp only [nA, cA]
      apply RGW.call (i := 11) rfl
      · (simp only [gA, gB, gC] <;> rfl)
      · intro γ u W hcur hd
        obtain ⟨⟨h10, -, -⟩, -⟩ := hd
        dsimp only at h10
        (try simp only [h10])
        refine ⟨rfl, fun K hK => ?_⟩
        go_simp
        first
        | (go_at_call 73; (with_reducible refine (c_sil1 _ _).mono ?_); rintro e w3 ⟨rfl, rfl⟩)
        | (go_at_call 78; (with_reducible refine (c_unless _ _ _).mono ?_); rintro e w3 ⟨rfl, rfl⟩)
        | (go_at_call 77; (with_reducible refine (c_first4 (by (with_reducible (repeat' (first | assumption | (apply jL; first | (simp; done) | rfl) | apply jM | apply jN | apply jO | apply jP | apply jQ | apply jR | apply jS | apply jT (hb := hb3 _ (jA _)) | omega | (simp; done) | (simp; omega) | (dsimp only; omega)))))).mono ?_); rintro e w3 ⟨rfl, rfl⟩)
        (try dsimp only)
        exact hK.out _ _ rfl (by (with_reducible (repeat' (first | assumption | apply jA | apply jB | apply jC | apply jD | apply jE | apply jF | apply hb3 | omega | (simp; done) | (simp; omega) | (dsimp only; omega)))))
      · exact fun _ _ _ => rfl
      · rfl
      dsimp only [nA, cA]
      apply RGW.on (i := 12) rfl
      · (simp only [gA, gB, gC] <;> rfl)
      · intro γ u W hcur hd
        clear hd
        (try dsimp only)
        refine ⟨rfl, ?_⟩
        go_simp <;> (try go_bits) <;> with_reducible rfl
      · exact fun _ _ _ => rfl
      · rfl
      dsimp only [nA, cA]
      apply RGW.on (i := 13) rfl
      · (simp only [gA, gB, gC] <;> rfl)
      · intro γ u W hcur hd
        obtain ⟨⟨h12, -, -⟩, -⟩ := hd
        dsimp only at h12
        (try simp only [h12])
        refine ⟨rfl, ?_⟩
        go_simp <;> (try go_bits) <;> with_reducible rfl
      · exact fun _ _ _ => rfl
      · rfl
      dsimp only [nA, cA]
      apply RGW.on (i := 14) rfl
      · (simp only [gA, gB, gC] <;> rfl)
      · intro γ u W hcur hd
        clear hd
        (try dsimp only)
        refine ⟨rfl, ?_⟩
        go_simp <;> (try go_bits) <;> with_reducible rfl
      · exact fun _ _ _ => rfl
      · rfl
      dsimp only [nA, cA]
      apply RGW.on (i := 15) rfl
      · (simp only [gA, gB, gC] <;> rfl)
      · intro γ u W hcur hd
        obtain ⟨⟨h14, -, -⟩, -⟩ := hd
        dsimp only at h14
        (try simp only [h14])
        refine ⟨rfl, ?_⟩
        go_simp <;> (try go_bits) <;> with_reducible rfl
      · exact fun _ _ _ => rfl
      · rfl
      dsimp only [nA, cA]
      apply RGW.on (i := 16) rfl
      · (simp only [gA, gB, gC] <;> rfl)
      · intro γ u W hcur hd
        obtain ⟨⟨h13, -, -⟩, ⟨h15, -, -⟩, -⟩ := hd
        dsimp only at h13 h15
        (try simp only [h13, h15])
        refine ⟨rfl, ?_⟩
        go_simp <;> (try go_bits) <;> with_reducible rfl
      · exact fun _ _ _ => rfl
      · rfl
      dsimp only [nA, cA]
      apply RGW.call (i := 17) rfl
      · (simp only [gA, gB, gC] <;> rfl)
      · intro γ u W hcur hd
        obtain ⟨⟨h16, -, -⟩, -⟩ := hd
        dsimp only at h16
        (try simp only [h16])
        refine ⟨rfl, fun K hK => ?_⟩
        go_simp
        first
        | (go_at_call 73; (with_reducible refine (c_sil1 _ _).mono ?_); rintro e w3 ⟨rfl, rfl⟩)
        | (go_at_call 78; (with_reducible refine (c_unless _ _ _).mono ?_); rintro e w3 ⟨rfl, rfl⟩)
        | (go_at_call 77; (with_reducible refine (c_first4 (by (with_reducible (repeat' (first | assumption | (apply jL; first | (simp; done) | rfl) | apply jM | apply jN | apply jO | apply jP | apply jQ | apply jR | apply jS | apply jT (hb := hb3 _ (jA _)) | omega | (simp; done) | (simp; omega) | (dsimp only; omega)))))).mono ?_); rintro e w3 ⟨rfl, rfl⟩)
        (try dsimp only)
        exact hK.out _ _ rfl (by (with_reducible (repeat' (first | assumption | apply jA | apply jB | apply jC | apply jD | apply jE | apply jF | apply hb3 | omega | (simp; done) | (simp; omega) | (dsimp only; omega)))))
      · exact fun _ _ _ => rfl
      · rfl
      dsimp only [nA, cA]
      apply RGW.on (i := 18) rfl
      · (simp only [gA, gB, gC] <;> rfl)
      · intro γ u W hcur hd
        clear hd
        (try dsimp only)
        refine ⟨rfl, ?_⟩
        go_simp <;> (try go_bits) <;> with_reducible rfl
      · exact fun _ _ _ => rfl
      · rfl
      dsimp only [nA, cA]
      apply RGW.on (i := 19) rfl
      · (simp only [gA, gB, gC] <;> rfl)
      · intro γ u W hcur hd
        clear hd
        (try dsimp only)
        refine ⟨rfl, ?_⟩
        go_simp <;> (try go_bits) <;> with_reducible rfl
      · exact fun _ _ _ => rfl
      · rfl
      dsimp only [nA, cA]
      apply RGW.call (i := 20) rfl
      · (simp only [gA, gB, gC] <;> rfl)
      · intro γ u W hcur hd
        obtain ⟨⟨h18, -, -⟩, ⟨h19, -, -⟩, -⟩ := hd
        dsimp only at h18 h19
        (try simp only [h18, h19])
        refine ⟨rfl, fun K hK => ?_⟩
        go_simp
        first
        | (go_at_call 73; (with_reducible refine (c_sil1 _ _).mono ?_); rintro e w3 ⟨rfl, rfl⟩)
        | (go_at_call 78; (with_reducible refine (c_unless _ _ _).mono ?_); rintro e w3 ⟨rfl, rfl⟩)
        | (go_at_call 77; (with_reducible refine (c_first4 (by (with_reducible (repeat' (first | assumption | (apply jL; first | (simp; done) | rfl) | apply jM | apply jN | apply jO | apply jP | apply jQ | apply jR | apply jS | apply jT (hb := hb3 _ (jA _)) | omega | (simp; done) | (simp; omega) | (dsimp only; omega)))))).mono ?_); rintro e w3 ⟨rfl, rfl⟩)
        (try dsimp only)
        exact hK.out _ _ rfl (by (with_reducible (repeat' (first | assumption | apply jA | apply jB | apply jC | apply jD | apply jE | apply jF | apply hb3 | omega | (simp; done) | (simp; omega) | (dsimp only; omega)))))
      · exact fun _ _ _ => rfl
      · rfl
      dsimp only [nA, cA]
      apply RGW.call (i := 21) rfl
      · (simp only [gA, gB, gC] <;> rfl)
      · intro γ u W hcur hd
        obtain ⟨⟨h20, -, -⟩, -⟩ := hd
        dsimp only at h20
        (try simp only [h20])
        refine ⟨rfl, fun K hK => ?_⟩
        go_simp
        first
        | (go_at_call 73; (with_reducible refine (c_sil1 _ _).mono ?_); rintro e w3 ⟨rfl, rfl⟩)
        | (go_at_call 78; (with_reducible refine (c_unless _ _ _).mono ?_); rintro e w3 ⟨rfl, rfl⟩)
        | (go_at_call 77; (with_reducible refine (c_first4 (by (with_reducible (repeat' (first | assumption | (apply jL; first | (simp; done) | rfl) | apply jM | apply jN | apply jO | apply jP | apply jQ | apply jR | apply jS | apply jT (hb := hb3 _ (jA _)) | omega | (simp; done) | (simp; omega) | (dsimp only; omega)))))).mono ?_); rintro e w3 ⟨rfl, rfl⟩)
        (try dsimp only)
        exact hK.out _ _ rfl (by (with_reducible (repeat' (first | assumption | apply jA | apply jB | apply jC | apply jD | apply jE | apply jF | apply hb3 | omega | (simp; done) | (simp; omega) | (dsimp only; omega)))))
      · exact fun _ _ _ => rfl
      · rfl
      dsimp only [nA, cA]
      apply RGW.bslice (i := 22) rfl
      · (simp only [gA, gB, gC] <;> rfl)
      · intro γ u W hcur hd
        obtain ⟨⟨h0, -, -⟩, ⟨h11, -, -⟩, ⟨h17, -, -⟩, ⟨h21, -, -⟩, -⟩ := hd
        dsimp only at h0 h11 h17 h21
        (try simp only [h0, h11, h17, h21])
        refine ⟨rfl, fun K hK => ?_⟩
        go_simp
        exact hK.out _ _ rfl rfl
      · exact fun _ _ _ => rfl
      · rfl
      · rfl
      dsimp only [nA, cA]
      apply RGW.call (i := 23) rfl
      · (simp only [gA, gB, gC] <;> rfl)
      · intro γ u W hcur hd
        obtain ⟨⟨h22, r22, -⟩, -⟩ := hd
        dsimp only at h22 r22
        have L22 := r22.cell
        (try simp only [h22])
        refine ⟨rfl, fun K hK => ?_⟩
        go_simp
        first
        | (go_at_call 73; (with_reducible refine (c_sil1 _ _).mono ?_); rintro e w3 ⟨rfl, rfl⟩)
        | (go_at_call 78; (with_reducible refine (c_unless _ _ _).mono ?_); rintro e w3 ⟨rfl, rfl⟩)
        | (go_at_call 77; (with_reducible refine (c_first4 (by (with_reducible (repeat' (first | assumption | (apply jL; first | (simp; done) | rfl) | apply jM | apply jN | apply jO | apply jP | apply jQ | apply jR | apply jS | apply jT (hb := hb3 _ (jA _)) | omega | (simp; done) | (simp; omega) | (dsimp only; omega)))))).mono ?_); rintro e w3 ⟨rfl, rfl⟩)
        (try dsimp only)
        exact hK.out _ _ rfl (by (with_reducible (repeat' (first | assumption | apply jA | apply jB | apply jC | apply jD | apply jE | apply jF | apply hb3 | omega | (simp; done) | (simp; omega) | (dsimp only; omega)))))
      · first
        | exact fun _ _ _ => rfl
        | intro γ γ' hg
          try dsimp only
          have e22 := hg 22 (by decide)
          simp only [e22]
      · rfl
      dsimp only [nA, cA]
      refine RGW.skip (i := 24) rfl rfl ?_
      dsimp only [nA, cA]
      refine RGW.fin (fun γ u wb hwb hd hdis => ?_)
      obtain ⟨⟨h0, -, -⟩, ⟨h1, -, -⟩, ⟨h2, -, -⟩, ⟨h3, -, -⟩, ⟨h4, -, -⟩, ⟨h5, -, -⟩, ⟨h6, -, -⟩, ⟨h7, -, -⟩, ⟨h8, -, -⟩, ⟨h9, -, -⟩, ⟨h10, -, -⟩, ⟨h11, -, -⟩, ⟨h12, -, -⟩, ⟨h13, -, -⟩, ⟨h14, -, -⟩, ⟨h15, -, -⟩, ⟨h16, -, -⟩, ⟨h17, -, -⟩, ⟨h18, -, -⟩, ⟨h19, -, -⟩, ⟨h20, -, -⟩, ⟨h21, -, -⟩, ⟨h22, r22, b22⟩, ⟨h23, -, -⟩, -⟩ := hd
      dsimp only at h0 h1 h2 h3 h4 h5 h6 h7 h8 h9 h10 h11 h12 h13 h14 h15 h16 h17 h18 h19 h20 h21 h22 h23 r22 b22
      clear hdis
      simp only [h0, h1, h2, h3, h4, h5, h6, h7, h8, h9, h10, h11, h12, h13, h14, h15, h16, h17, h18, h19, h20, h21, h22, h23]
      clear h23 h22 h21 h20 h19 h18 h17 h16 h15 h14 h13 h12 h11 h10 h9 h8 h7 h6 h5 h4 h3 h2 h1 h0
      replace b22 := b22 _ (List.mem_singleton.2 rfl)
      generalize hγ22 : (γ 22).n = g22 at *
      clear hγ22
      clear u
      simp only [List.map_cons, List.map_nil]
      apply PlanW.step
      · (simp only [gA, gB, gC] <;> rfl)
      · rfl
      intro K hK
      go_simp
      refine hK.out _ _ (by with_reducible first | assumption | exact bx_refl _ _) (fun hcur => ?_)
      clear hK K
      try simp only [Act.put, List.setIfInBounds_toArray, List.set_cons_zero, List.set_cons_succ]
      refine PlanW.done ?_
      have hb3 := bl_tt hwb
      rw [← hE2.out]
      have hbw := hb3 _ hb0
      replace k0 := k0.below hwb
      clear k1 Lk0 Lk1 Fk0 Fk1 Qk0 Qk1 hwb hb3 hE2
      have L0 := k0.later
      have hq1 := k0.lt
      generalize silE l ⟨lo, hi⟩ t = E at *
      by_cases h0 : E = 0
      · have h0' : (E != 0) = false := by simp [h0]
        have hR := Lib.hid (hR1.out h0)
        obtain ⟨hok1, ⟨ht1, ht2⟩, ⟨hlo1, hlo2⟩, -⟩ := hok.out h0
        replace hok1 := Lib.hid hok1
        have hfr := Lib.hid fun k hk => hfin.out k h0 hk
        replace h0 := Lib.hid h0
        clear hR0 hR1 hok hfin
        go_upto_region 12 with fail
        clear hb0
        have hb0 := hbw
        first
        | apply absB3 (w0 := w) (g0 := w.heap.size) (g1 := wb.heap.size) (g2 := wb.heap.size + 1)
        | apply absTB3 (w0 := w) (g0 := w.heap.size) (g1 := wb.heap.size) (g2 := wb.heap.size + 1)
        | apply absIB3 (w0 := w) (g0 := w.heap.size) (g1 := wb.heap.size) (g2 := wb.heap.size + 1)
        iterate 4 (focus ((with_reducible (repeat' (first | assumption | apply jA | apply jB | apply jC | apply jD | apply jE | apply jF | apply hb3 | apply jG | apply jH | apply jI | apply jJ | apply jK | apply hb3x | (apply jL; first | (simp; done) | rfl) | apply jM | apply jN | apply jO | apply jP | apply jQ | apply jR | apply jS | apply jT (hb := hb3 _ (jA _)) | omega | (simp; done) | (simp; omega) | (dsimp only; omega)))); done))
        intro wc hb0' k0' k3' k4'
        (try simp only [List.setIfInBounds_toArray, List.set_cons_zero, List.set_cons_succ] at k0' k3' k4')
        try clear hb3
        try clear hb0
        try clear k0
        try clear k3
        try clear k4
        have hb0 := hb0'; clear hb0'
        have k0 := k0'; clear k0'
        have k3 := k3'; clear k3'
        have k4 := k4'; clear k4'
        have hq0 := hbw.size
        have hq4 := k4.lt
        clear L0
        go_wp2
        go_loopw [58] (fun i wr => ∃ k : Nat, k ≤ n ∧ i = .int .i64 k ∧ Below w.heap.size w wr ∧ Blk wr w.heap.size 24 #[.int .i64 lo, .int .i64 hi] ∧ Blk wr (wb.heap.size + 1) 3 #[.int .i64 (frK l t lo k)] ∧ wc.heap.size ≤ wr.heap.size ∧
          ∃ v, Blk wr wb.heap.size 27 #[v] ∧ wr.ownsRow wc.heap.size 24 2 v (accK l t lo hi k).length ((accK l t lo hi k).flatMap cRg)) (fun i _ => n - (intOf i).toNat)
        case atStart => exact ⟨0, Nat.zero_le _, rfl, hb0, k0, k4, Nat.le_refl _, _, k3, World.ownsRow_nil _ _ _ _⟩
        case round =>
          clear k0 k3 k4 hb0
          obtain ⟨k, hk, rfl, hb0, ks, kf, hwr, v, ko, hown⟩ := hrel
          have hkb := hfr.out k hk
          have hka := hacl.out k
          by_cases hlt : k < n
          · have hx : l[k]? = some (l[k]'(by rw [Hn.out]; exact hlt)) := List.getElem?_eq_getElem _
            generalize l[k]'(by rw [Hn.out]; exact hlt) = x at hx
            have hxb := hok1.out x (List.mem_of_getElem? hx)
            have hf1 : Hid (frK l t lo (k + 1) = max (frK l t lo k) (x + t + 1)) := Lib.hid (by rw [frK]; simp [hx])
            have ha1 : Hid (accK l t lo hi (k + 1) = accK l t lo hi k ++ silOne (frK l t lo k) (x - 1) hi) := Lib.hid (by rw [accK]; simp [hx])
            obtain ⟨b, off, rfl, hc⟩ := (Hs.out.below hb0) k x hx
            have c0 : wr.cell? ⟨b, off + k, none⟩ = some (.int .i64 x) := by simpa using hc 0 _ rfl
            have hcall := Lib.hid (c_sil3 (x - 1) (frK l t lo k) lo hi (accK l t lo hi k) v w.heap.size (wb.heap.size + 1) wb.heap.size wc.heap.size w.heap.size wr ks kf ko hown (by omega) (by omega) (by omega) (by omega) (by omega) (by omega) (by omega) hwr)
            generalize frK l t lo k = fk at *
            clear hc hx ks kf ko hown
            go_wp2_with fail
            refine hcall.out.mono ?_
            rintro e w4 ⟨⟨u, rfl⟩, hb4, ks, kf, v', ko, hown⟩
            have hb5 : Below w.heap.size w w4 := hb0.trans hb4
            have hs4 := hb4.size
            have Lf := kf.cell
            have Ff := kf.frozen
            replace hown := Lib.hid hown
            clear c0 hb4 hcall
            go_wp2
            go_roundw
            case rel => exact ⟨k + 1, by omega, by go_num, hb5.setCell (by simp; omega) _, ks.other (by simp; omega) _, by rw [hf1.out]; exact kf.set1 (by simp), by simp [World.setCell]; omega, v', ko.other (by simp) _, by rw [ha1.out]; exact own_set _ hown.out (by omega)⟩
            case measure => simp [intOf]; omega
          · have : k = n := by omega
            subst this
            have Ls := ks.cell
            have hcall := Lib.hid (c_sil3 hi (frK l t lo k) lo hi (accK l t lo hi k) v w.heap.size (wb.heap.size + 1) wb.heap.size wc.heap.size w.heap.size wr ks kf ko hown (by omega) (by omega) (by omega) (by omega) (by omega) (by omega) (by omega) hwr)
            generalize silOne (frK l t lo k) hi hi = so at *
            clear ks kf ko hown
            go_wp2_with fail
            refine hcall.out.mono ?_
            rintro e w4 ⟨⟨u, rfl⟩, hb4, ks, kf, v', ko, hown⟩
            obtain ⟨A', c', rfl⟩ := own_slice hown
            have hb5 : Below w.heap.size w w4 := hb0.trans hb4
            have Lo := ko.cell
            replace hown := Lib.hid hown
            clear hb4 hcall
            go_wp2
            go_ret2
            exact ⟨A', c', by rw [hR.out, h0.out, List.length_append] <;> rfl, hb5, by rw [hR.out]; exact own_mono (by omega) hown.out⟩
      · have h0' : (E != 0) = true := by simp [h0]
        have hR := Lib.hid (hR0.out h0)
        replace h0 := Lib.hid h0
        go_wp2
        go_ret2
        exact ⟨none, 0, by rw [hR.out] <;> rfl, hbw, by rw [hR.out]; exact World.ownsRow_nil _ _ _ _⟩
  · have hE60 : Hid (silE l ⟨lo, hi⟩ t = 8) := Lib.hid (by rw [hE.out]; simp [fstE, unl]; omega)
    have h0 : silE l ⟨lo, hi⟩ t ≠ 0 := by rw [hE60.out]; decide
    have hR := Lib.hid (hR0.out h0)
    have h60' : decide ((60 : Int) < (l.length : Int)) = true := by simp; omega
    clear hE hR0 hR1 hok h0
    generalize l.length = n at *
    go_enter Tryd.func16, Tryd.ntmps16
    go_wp2
    go_ret2
    exact ⟨none, 0, by rw [hR.out, hE60.out] <;> rfl, by solve_by_elim (maxDepth := 60) only [bl_al, bl_drew, bl_drewN, bl_refl, *], by rw [hR.out]; exact World.ownsRow_nil _ _ _ _⟩
end Go.Proofs.YtdlmkblmljhbfaaDoor
