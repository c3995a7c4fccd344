/-
  Walks: the check of names, one after the other; ascending indexes.
-/
import Derived.Test.YtdlmkblmljhbfaaDoorNm
import Derived.Test.YtdlmkblmljhbfaaDoorFrm
import Derived.Maps.OwnSet
import Derived.Carry
import Derived.Laws.EntriesVeiled
namespace Go.Proofs.YtdlmkblmljhbfaaDoor
set_option linter.unusedSimpArgs false
set_option linter.unusedVariables false
open Go.RowKit Go.Shelf Go.MapKept Go.ChangeMaps Go.WideMaps
attribute [local go_sem] bl_al bl_drew bl_drewN bl_refl bx_al bx_drew bx_drewN bx_refl
set_option maxRecDepth 20000
theorem lawS : Maps.Keyed Tryd.prog 9 := Maps.string_keyed Tryd.underlying9
theorem zeroU (w : World) : (zeroValue 186).run Tryd.prog w = .ok (.agg #[]) w := by kernel_rfl
def setD (L : List ByteArray) : DataW Unit := Maps.setOf (.agg []) (L.map fun s => Lit.string s.data.toList)
theorem setD_snoc (L : List ByteArray) (s : ByteArray) : setD (L ++ [s]) = (setD L).put (.string s.data.toList) (.agg []) := by
  unfold setD
  rw [List.map_append]
  exact Maps.setOf_snoc _ _ _
theorem has_setD (L : List ByteArray) (s : ByteArray) : Maps.has (setD L) (.string s.data.toList) = knownB L s := by
  unfold setD
  rw [Maps.has_setOf _ _ _ (fun x hx => by obtain ⟨y, -, rfl⟩ := List.mem_map.1 hx; exact trivial), List.any_map]
  unfold knownB
  congr 1
  funext o
  show (o.data.toList == s.data.toList) = (o.toList == s.toList)
  rw [ByteArray.toList_eq, ByteArray.toList_eq]
/-- The names that were met so far. -/
structure Seen (L : List ByteArray) (g m : Nat) (w : World) : Prop where
  blk : Blk w g 185 #[.map (some m)]
  map : w.ownsMap Tryd.prog 9 unitElem m L.length (setD L)
theorem map_bx {L : List ByteArray} {m n : Nat} {X : List Nat} {w w' : World} (h : w.ownsMap Tryd.prog 9 unitElem m n (setD L)) (hb : BX X w w') (hX : m ∉ X) : w'.ownsMap Tryd.prog 9 unitElem m n (setD L) := by
  obtain ⟨es, clock, h1, F, hs, hD⟩ := h
  exact ⟨es, clock, (hb.block m (Array.getElem?_eq_some_iff.1 h1).1 hX).trans h1, F, hs, hD⟩
theorem map_below {L : List ByteArray} {m n : Nat} {w w' : World} (h : w.ownsMap Tryd.prog 9 unitElem m n (setD L)) (hb : Below w.heap.size w w') : w'.ownsMap Tryd.prog 9 unitElem m n (setD L) := map_bx (X := []) h (bx_bl [] hb) (by simp)
theorem Seen.below {L : List ByteArray} {g m : Nat} {w w' : World} (h : Seen L g m w) (hb : Below w.heap.size w w') : Seen L g m w' := ⟨h.blk.below hb, map_below h.map hb⟩
theorem Seen.bx {L : List ByteArray} {g m : Nat} {X : List Nat} {w w' : World} (h : Seen L g m w) (hb : BX X w w') (hg : g ∉ X) (hm : m ∉ X) : Seen L g m w' := ⟨h.blk.keep hg hb, map_bx h.map hb hm⟩
theorem map_ne {L : List ByteArray} {g m n : Nat} {t : TypeId} {cs : Array Value} {w : World} (h : w.ownsMap Tryd.prog 9 unitElem m n (setD L)) (k : Blk w g t cs) : g ≠ m := fun e => by
  subst e
  obtain ⟨es, clock, h1, _⟩ := h
  unfold Blk at k
  rw [h1] at k
  cases k
theorem Seen.apart {L : List ByteArray} {g m : Nat} {w : World} (h : Seen L g m w) {b o : Nat} {v : Value} (hc : w.cell? ⟨b, o, none⟩ = some v) : b ≠ m := fun e => by
  subst e
  obtain ⟨es, clock, h1, _⟩ := h.map
  simp [World.cell?, h1] at hc
theorem Seen.lt {L : List ByteArray} {g m : Nat} {w : World} (h : Seen L g m w) : m < w.heap.size := by
  obtain ⟨es, clock, h1, _⟩ := h.map
  exact (Array.getElem?_eq_some_iff.1 h1).1
/-- Slices lie where they lay: a map is no part of them. -/
theorem sl_map {α : Type} {cs : α → List Value} {sz : Nat} {A : Option Addr} {l : List α} {L : List ByteArray} {g m : Nat} {w w' : World} (h : Sl cs sz w A l) (hs : Seen L g m w) (hb : BX [m] w w') : Sl cs sz w' A l := fun k x hx => by
  obtain ⟨b, off, e, hc⟩ := h k x hx
  refine ⟨b, off, e, fun j v hv => ?_⟩
  have h1 := hc j v hv
  have hlt := World.block_lt_of_cell? w _ h1
  have hne := hs.apart h1
  have : w'.heap[b]? = w.heap[b]? := hb.block b hlt (by simpa using hne)
  simp only [World.cell?] at h1 ⊢
  rw [this]
  exact h1
theorem bx_map {b : Nat} {w w' : World} (h : w.mapTurned w' b) : BX [b] w w' := by
  obtain ⟨es, clock, es', clock', hb, rfl⟩ := h
  refine ⟨rfl, rfl, rfl, by simp [setBlock], fun i hi hX => heap_setBlock_other hb _ (fun e => hX (by simp [e])), fun g hg t cs hk => ?_⟩
  have := List.mem_singleton.1 hg
  subst this
  unfold Blk at hk
  rw [hb] at hk
  cases hk
set_option maxHeartbeats 2000000 in
theorem c_names1 (L : List ByteArray) (s : ByteArray) (g m : Nat) (w : World) (hs : Seen L g m w) (hn : s.size ≤ maxLen) (hL : L.length ≤ 1000) :
    Calls Tryd.prog 136 #[.string s, .pointer (some ⟨g, 0, none⟩)] w
      (fun e w' => e = .returned (.int .i64 (fstE [unl (nameB s) 4, unl (!knownB L s) 5])) ∧ BX [m] w w' ∧ Seen (L ++ [s]) g m w') := by
  have hkey := keyOf_string_mk Tryd.underlying9 hn
  have hgm := map_ne hs.map hs.blk
  have k0 := hs.blk
  have hmap := Lib.hid hs.map
  have hhas := has_setD L s
  clear hs
  have L0 := k0.cell
  have hq := k0.lt
  replace hhas := Lib.hid hhas
  have hgw : g ≠ w.heap.size := Nat.ne_of_lt hq
  go_enter Tryd.func136, Tryd.ntmps136
  go_wp2_with (first
    | (at_lookup; refine wpList_lookup_own_unit _ rfl _ _ 185 rfl 9 186 lawS Tryd.underlying185 (zeroU _) m L.length _ rfl hmap.out _ _ rfl hkey ?_)
    | (at_mapUpdate; refine wpList_mapUpdate_in _ rfl _ _ _ 185 rfl 9 186 lawS Tryd.underlying185 (unitElem (H := Unit)) m L.length _ rfl (hmap.out.alloc _) (by unfold maxLen; omega) _ _ _ rfl rfl hkey _ [] unitElem_mk ?_; intro w1 hown1 hturn1))
  have hb1 : BX [m] w w1 := (bx_al _ (bx_refl [m] w)).trans (bx_map hturn1)
  have k1 := k0.keep (by simpa using hgm) hb1
  have hnew : w1.ownsMap Tryd.prog 9 unitElem m (L ++ [s]).length (setD (L ++ [s])) := by
    rw [setD_snoc, List.length_append]
    exact hown1
  replace hnew := Lib.hid hnew
  clear hown1 hturn1 L0 k0 hmap
  rw [hhas.out]
  go_wp2_with (first | (go_at_call 137; (with_reducible refine (c_isName s _ hn).mono ?_); rintro e w3 ⟨rfl, rfl⟩) | (go_at_call 78; (with_reducible refine (c_unless _ _ _).mono ?_); rintro e w3 ⟨rfl, rfl⟩) | (go_at_call 77; (with_reducible refine (c_first2 (Blk.new _ _ _)).mono ?_); rintro e w3 ⟨rfl, rfl⟩))
  go_ret
  exact ⟨rfl, bx_al _ hb1, k1.alloc _, map_below hnew.out (bl_al _ (bl_refl _))⟩
set_option maxHeartbeats 2000000 in
theorem c_names (w : World) : Calls Tryd.prog 101 #[] w (fun e w' => e = .returned (.func (.func 136) #[] #[.pointer (some ⟨w.heap.size + 1, 0, none⟩)]) ∧ Below w.heap.size w w' ∧ Seen [] (w.heap.size + 1) w.heap.size w') := by
  have hmm := @run_makeMap Tryd.prog
  go_enter Tryd.func101, Tryd.ntmps101
  go_wp2
  go_ret
  refine ⟨rfl, bl_al _ (bl_al _ (bl_refl w)), ?_, ?_⟩
  · have := Blk.new (w.alloc (.map #[] 0)) 185 #[.map (some w.heap.size)]
    rwa [World.size_alloc] at this
  · exact map_below (L := []) (World.ownsMap_made w _ _ _) (bl_al _ (bl_refl _))
/-! ### Ascending indexes. -/
set_option maxHeartbeats 2000000 in
theorem c_idx1 (k x la ct : Int) (B1 B2 : Nat) (w : World) (hct : 0 ≤ ct ∧ ct ≤ 1000000) (k1 : Blk w B1 3 #[.int .i64 ct]) (k2 : Blk w B2 3 #[.int .i64 la]) :
    Calls Tryd.prog 138 #[.int .i64 k, .int .i64 x, .pointer (some ⟨B1, 0, none⟩), .pointer (some ⟨B2, 0, none⟩)] w
      (fun e w' => e = .returned (.int .i64 (fstE [unl (inR x 0 (ct - 1)) 6, unl (decide (la < x)) 9])) ∧ BX [B2] w w' ∧ Blk w' B2 3 #[.int .i64 x]) := by
  obtain ⟨h1, h2⟩ := hct
  go_enter Tryd.func138, Tryd.ntmps138
  go_upto_region 1 with fail
  first
  | apply absB2 (w0 := w) (g0 := B1) (g1 := B2)
  | apply absTB2 (w0 := w) (g0 := B1) (g1 := B2)
  | apply absIB2 (w0 := w) (g0 := B1) (g1 := B2)
  iterate 3 (focus ((with_reducible (repeat' (first | assumption | apply jA | apply jB | apply jC | apply jD | apply jE | apply jF | apply hb3 | apply jG | apply jH | apply jI | apply jJ | apply jK | apply hb3x | (apply jL; first | (simp; done) | rfl) | apply jM | apply jN | apply jO | apply jP | apply jQ | apply jR | apply jS | apply jT (hb := hb3 _ (jA _)) | omega | (simp; done) | (simp; omega) | (dsimp only; omega)))); done))
  intro wa hb0' k1' k2'
  (try simp only [List.setIfInBounds_toArray, List.set_cons_zero, List.set_cons_succ] at k1' k2')
  try clear hb3
  try clear hb0
  try clear k1
  try clear k2
  have hb0 := hb0'; clear hb0'
  have k1 := k1'; clear k1'
  have k2 := k2'; clear k2'
  have Lk1 := k1.later
  have Fk1 := k1.laterF
  have Qk1 := k1.lt
  have Lk2 := k2.later
  have Fk2 := k2.laterF
  have Qk2 := k2.lt
  refine wp_any (w0 := wa) ⟨[], [], [some 8, some 9, some 10, some 11, some 12, some 13, some 14, some 15, some 16, some 17, some 18, some 7], [[], [], [1], [0, 1, 2], [0, 1, 2, 3], [], [], [5, 6], [0, 1, 2, 3, 4, 5, 6, 7], [0, 1, 2, 3, 4, 5, 6, 7, 8], [0, 1, 2, 3, 4, 5, 6, 7, 8, 9], [0, 1, 2, 3, 4, 5, 6, 7, 8, 9, 10]], [[], [], [1], [0, 2], [3], [], [], [5, 6], [7], [4, 8], [9], [9, 10]]⟩ (fun _ => []) (by kernel_rfl) (by kernel_rfl) (by (with_reducible (repeat' (first | assumption | apply jA | apply jB | apply jC | apply jD | apply jE | apply jF | apply hb3 | omega | (simp; done) | (simp; omega) | (dsimp only; omega))))) (fun u => by simp only [putD, Act.put, List.setIfInBounds_toArray, List.set_cons_zero, List.set_cons_succ, Nat.zero_add, Nat.reduceAdd]; rfl) ?_
  apply RGW.on (i := 0) rfl
  · (simp only [gA, gB, gC] <;> rfl)
  · intro γ u W hcur hd
    clear hd
    (try dsimp only)
    refine ⟨rfl, ?_⟩
    go_simp <;> (try go_bits) <;> with_reducible rfl
  · exact fun _ _ _ => rfl
  · rfl
  dsimp only [nA, cA]
  apply RGW.on (i := 1) rfl
  · (simp only [gA, gB, gC] <;> rfl)
  · intro γ u W hcur hd
    clear hd
    (try dsimp only)
    refine ⟨rfl, ?_⟩
    go_simp <;> (try go_bits) <;> with_reducible rfl
  · exact fun _ _ _ => rfl
  · rfl
  dsimp only [nA, cA]
  apply RGW.on (i := 2) rfl
  · (simp only [gA, gB, gC] <;> rfl)
  · intro γ u W hcur hd
    obtain ⟨⟨h1, -, -⟩, -⟩ := hd
    dsimp only at h1
    (try simp only [h1])
    refine ⟨rfl, ?_⟩
    go_simp <;> (try go_bits) <;> with_reducible rfl
  · exact fun _ _ _ => rfl
  · rfl
  dsimp only [nA, cA]
  apply RGW.call (i := 3) rfl
  · (simp only [gA, gB, gC] <;> rfl)
  · intro γ u W hcur hd
    obtain ⟨⟨h0, -, -⟩, ⟨h2, -, -⟩, -⟩ := hd
    dsimp only at h0 h2
    (try simp only [h0, h2])
    refine ⟨rfl, fun K hK => ?_⟩
    go_simp
    first
    | (go_at_call 74; (with_reducible refine (c_within _ _ _ _).mono ?_); rintro e w3 ⟨rfl, rfl⟩)
    | (go_at_call 78; (with_reducible refine (c_unless _ _ _).mono ?_); rintro e w3 ⟨rfl, rfl⟩)
    | (go_at_call 77; (with_reducible refine (c_first2 (by (with_reducible (repeat' (first | assumption | (apply jL; first | (simp; done) | rfl) | apply jM | apply jN | apply jO | apply jP | apply jQ | apply jR | apply jS | apply jT (hb := hb3 _ (jA _)) | omega | (simp; done) | (simp; omega) | (dsimp only; omega)))))).mono ?_); rintro e w3 ⟨rfl, rfl⟩)
    (try dsimp only)
    exact hK.out _ _ rfl (by (with_reducible (repeat' (first | assumption | apply jA | apply jB | apply jC | apply jD | apply jE | apply jF | apply hb3 | omega | (simp; done) | (simp; omega) | (dsimp only; omega)))))
  · exact fun _ _ _ => rfl
  · rfl
  dsimp only [nA, cA]
  apply RGW.call (i := 4) rfl
  · (simp only [gA, gB, gC] <;> rfl)
  · intro γ u W hcur hd
    obtain ⟨⟨h3, -, -⟩, -⟩ := hd
    dsimp only at h3
    (try simp only [h3])
    refine ⟨rfl, fun K hK => ?_⟩
    go_simp
    first
    | (go_at_call 74; (with_reducible refine (c_within _ _ _ _).mono ?_); rintro e w3 ⟨rfl, rfl⟩)
    | (go_at_call 78; (with_reducible refine (c_unless _ _ _).mono ?_); rintro e w3 ⟨rfl, rfl⟩)
    | (go_at_call 77; (with_reducible refine (c_first2 (by (with_reducible (repeat' (first | assumption | (apply jL; first | (simp; done) | rfl) | apply jM | apply jN | apply jO | apply jP | apply jQ | apply jR | apply jS | apply jT (hb := hb3 _ (jA _)) | omega | (simp; done) | (simp; omega) | (dsimp only; omega)))))).mono ?_); rintro e w3 ⟨rfl, rfl⟩)
    (try dsimp only)
    exact hK.out _ _ rfl (by (with_reducible (repeat' (first | assumption | apply jA | apply jB | apply jC | apply jD | apply jE | apply jF | apply hb3 | omega | (simp; done) | (simp; omega) | (dsimp only; omega)))))
  · exact fun _ _ _ => rfl
  · rfl
  dsimp only [nA, cA]
  apply RGW.on (i := 5) rfl
  · (simp only [gA, gB, gC] <;> rfl)
  · intro γ u W hcur hd
    clear hd
    (try dsimp only)
    refine ⟨rfl, ?_⟩
    go_simp <;> (try go_bits) <;> with_reducible rfl
  · exact fun _ _ _ => rfl
  · rfl
  dsimp only [nA, cA]
  apply RGW.on (i := 6) rfl
  · (simp only [gA, gB, gC] <;> rfl)
  · intro γ u W hcur hd
    clear hd
    (try dsimp only)
    refine ⟨rfl, ?_⟩
    go_simp <;> (try go_bits) <;> with_reducible rfl
  · exact fun _ _ _ => rfl
  · rfl
  dsimp only [nA, cA]
  apply RGW.on (i := 7) rfl
  · (simp only [gA, gB, gC] <;> rfl)
  · intro γ u W hcur hd
    obtain ⟨⟨h5, -, -⟩, ⟨h6, -, -⟩, -⟩ := hd
    dsimp only at h5 h6
    (try simp only [h5, h6])
    refine ⟨rfl, ?_⟩
    go_simp <;> (try go_bits) <;> with_reducible rfl
  · exact fun _ _ _ => rfl
  · rfl
  dsimp only [nA, cA]
  apply RGW.call (i := 8) rfl
  · (simp only [gA, gB, gC] <;> rfl)
  · intro γ u W hcur hd
    obtain ⟨⟨h7, -, -⟩, -⟩ := hd
    dsimp only at h7
    (try simp only [h7])
    refine ⟨rfl, fun K hK => ?_⟩
    go_simp
    first
    | (go_at_call 74; (with_reducible refine (c_within _ _ _ _).mono ?_); rintro e w3 ⟨rfl, rfl⟩)
    | (go_at_call 78; (with_reducible refine (c_unless _ _ _).mono ?_); rintro e w3 ⟨rfl, rfl⟩)
    | (go_at_call 77; (with_reducible refine (c_first2 (by (with_reducible (repeat' (first | assumption | (apply jL; first | (simp; done) | rfl) | apply jM | apply jN | apply jO | apply jP | apply jQ | apply jR | apply jS | apply jT (hb := hb3 _ (jA _)) | omega | (simp; done) | (simp; omega) | (dsimp only; omega)))))).mono ?_); rintro e w3 ⟨rfl, rfl⟩)
    (try dsimp only)
    exact hK.out _ _ rfl (by (with_reducible (repeat' (first | assumption | apply jA | apply jB | apply jC | apply jD | apply jE | apply jF | apply hb3 | omega | (simp; done) | (simp; omega) | (dsimp only; omega)))))
  · exact fun _ _ _ => rfl
  · rfl
  dsimp only [nA, cA]
  apply RGW.bslice (i := 9) rfl
  · (simp only [gA, gB, gC] <;> rfl)
  · intro γ u W hcur hd
    obtain ⟨⟨h4, -, -⟩, ⟨h8, -, -⟩, -⟩ := hd
    dsimp only at h4 h8
    (try simp only [h4, h8])
    refine ⟨rfl, fun K hK => ?_⟩
    go_simp
    exact hK.out _ _ rfl rfl
  · exact fun _ _ _ => rfl
  · rfl
  · rfl
  dsimp only [nA, cA]
  apply RGW.call (i := 10) rfl
  · (simp only [gA, gB, gC] <;> rfl)
  · intro γ u W hcur hd
    obtain ⟨⟨h9, r9, -⟩, -⟩ := hd
    dsimp only at h9 r9
    have L9 := r9.cell
    (try simp only [h9])
    refine ⟨rfl, fun K hK => ?_⟩
    go_simp
    first
    | (go_at_call 74; (with_reducible refine (c_within _ _ _ _).mono ?_); rintro e w3 ⟨rfl, rfl⟩)
    | (go_at_call 78; (with_reducible refine (c_unless _ _ _).mono ?_); rintro e w3 ⟨rfl, rfl⟩)
    | (go_at_call 77; (with_reducible refine (c_first2 (by (with_reducible (repeat' (first | assumption | (apply jL; first | (simp; done) | rfl) | apply jM | apply jN | apply jO | apply jP | apply jQ | apply jR | apply jS | apply jT (hb := hb3 _ (jA _)) | omega | (simp; done) | (simp; omega) | (dsimp only; omega)))))).mono ?_); rintro e w3 ⟨rfl, rfl⟩)
    (try dsimp only)
    exact hK.out _ _ rfl (by (with_reducible (repeat' (first | assumption | apply jA | apply jB | apply jC | apply jD | apply jE | apply jF | apply hb3 | omega | (simp; done) | (simp; omega) | (dsimp only; omega)))))
  · first
    | exact fun _ _ _ => rfl
    | intro γ γ' hg
      try dsimp only
      have e9 := hg 9 (by decide)
      simp only [e9]
  · rfl
  dsimp only [nA, cA]
  apply RGW.on (i := 11) rfl
  · (simp only [gA, gB, gC] <;> rfl)
  · intro γ u W hcur hd
    obtain ⟨⟨h9, r9, -⟩, ⟨h10, -, -⟩, -⟩ := hd
    dsimp only at h9 h10 r9
    have L9 := r9.cell
    (try simp only [h9, h10])
    refine ⟨rfl, ?_⟩
    go_simp <;> (try go_bits) <;> with_reducible rfl
  · first
    | exact fun _ _ _ => rfl
    | intro γ γ' hg
      try dsimp only
      have e9 := hg 9 (by decide)
      simp only [e9]
  · rfl
  dsimp only [nA, cA]
  refine RGW.fin (fun γ u wb hwb hd hdis => ?_)
  obtain ⟨⟨h0, -, -⟩, ⟨h1, -, -⟩, ⟨h2, -, -⟩, ⟨h3, -, -⟩, ⟨h4, -, -⟩, ⟨h5, -, -⟩, ⟨h6, -, -⟩, ⟨h7, -, -⟩, ⟨h8, -, -⟩, ⟨h9, r9, b9⟩, ⟨h10, -, -⟩, ⟨h11, -, -⟩, -⟩ := hd
  dsimp only at h0 h1 h2 h3 h4 h5 h6 h7 h8 h9 h10 h11 r9 b9
  clear hdis
  simp only [h0, h1, h2, h3, h4, h5, h6, h7, h8, h9, h10, h11]
  clear h11 h10 h9 h8 h7 h6 h5 h4 h3 h2 h1 h0
  replace b9 := b9 _ (List.mem_singleton.2 rfl)
  generalize hγ9 : (γ 9).n = g9 at *
  clear hγ9
  clear u
  simp only [List.map_nil]
  refine PlanW.done ?_
  have hb3 := bl_tt hwb
  have hbw := hb3 _ hb0
  replace k2 := k2.below hwb
  have L2 := k2.cell
  have F2 := k2.frozen
  go_wp2
  go_ret
  exact ⟨rfl, bx_set (.inl (by simp)) _ (bx_bl _ hbw), k2.set1 (by simp)⟩
set_option maxHeartbeats 2000000 in
theorem c_indexesErr (l : List Int) (ct : Int) (A : Option Addr) (c : Nat) (w : World) (hs : Sl cI 1 w A l) (hl : l.length ≤ 1000) (hct : 0 ≤ ct ∧ ct ≤ 1000000) :
    Calls Tryd.prog 106 #[.slice A l.length c, .int .i64 ct] w (Ret (.int .i64 (idxErr l ct)) w) := by
  have Hs := Lib.hid hs
  have hev := Lib.hid fun (B1 B2 : Nat) (W : World) (hb : Below w.heap.size w W) (k1 : Blk W B1 3 #[.int .i64 ct]) (k2 : Blk W B2 3 #[.int .i64 (-1)]) (h2 : w.heap.size ≤ B2) (h12 : B1 ≠ B2) =>
    c_eachJI 138 #[.pointer (some ⟨B1, 0, none⟩), .pointer (some ⟨B2, 0, none⟩)] (fun k n => fstE [unl (inR n 0 (ct - 1)) 6, unl (decide (prevI l k < n)) 9]) (fun k W => Blk W B2 3 #[.int .i64 (prevI l k)]) [B2] A l c W (by omega)
      (enters_of Tryd.func138 (by kernel_rfl) rfl) (fun k X Y h hb => h.below hb)
      (fun k x hx W' hb' hk => (c_idx1 k x (prevI l k) ct B1 B2 W' hct (k1.keep (by simpa using h12) hb') hk).mono fun e W2 ⟨e1, e2, e3⟩ => ⟨e1, e2, fun _ => by
        have : prevI l (k + 1) = x := by simp [prevI, hx]
        rw [this]
        exact e3⟩)
      (fun W' hb' => sl_new Hs.out ((bx_bl [B2] hb).trans hb') (by simpa using h2)) k2
  have hev2 : Hid ((eachS (fun k n => fstE [unl (inR n 0 (ct - 1)) 6, unl (decide (prevI l k < n)) 9]) l 0).2 = idxErr l ct) := rfl
  clear hs
  generalize l.length = n at *
  go_enter Tryd.func106, Tryd.ntmps106
  go_upto_region 2 with fail
  first
  | apply absB2 (w0 := w) (g0 := w.heap.size) (g1 := w.heap.size + 1)
  | apply absTB2 (w0 := w) (g0 := w.heap.size) (g1 := w.heap.size + 1)
  | apply absIB2 (w0 := w) (g0 := w.heap.size) (g1 := w.heap.size + 1)
  iterate 3 (focus ((with_reducible (repeat' (first | assumption | apply jA | apply jB | apply jC | apply jD | apply jE | apply jF | apply hb3 | apply jG | apply jH | apply jI | apply jJ | apply jK | apply hb3x | (apply jL; first | (simp; done) | rfl) | apply jM | apply jN | apply jO | apply jP | apply jQ | apply jR | apply jS | apply jT (hb := hb3 _ (jA _)) | omega | (simp; done) | (simp; omega) | (dsimp only; omega)))); done))
  intro wa hb0' k0' k1'
  (try simp only [List.setIfInBounds_toArray, List.set_cons_zero, List.set_cons_succ] at k0' k1')
  try clear hb3
  try clear hb0
  try clear k0
  try clear k1
  have hb0 := hb0'; clear hb0'
  have k0 := k0'; clear k0'
  have k1 := k1'; clear k1'
  go_wp2_with fail
  refine (hev.out w.heap.size (w.heap.size + 1) wa hb0 k0 k1 (by omega) (by omega)).mono ?_
  rintro e w3 ⟨rfl, hbx, -⟩
  rw [hev2.out]
  replace hb0 := bx_below hb0 hbx (by simp)
  clear hev hev2 hbx k0 k1
  go_wp2
  go_ret
  exact ⟨rfl, hb0⟩
end Go.Proofs.YtdlmkblmljhbfaaDoor
