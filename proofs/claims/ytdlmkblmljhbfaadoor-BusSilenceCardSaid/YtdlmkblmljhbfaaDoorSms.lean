/-
  Walks: which streams are valid.
-/
import Derived.Test.YtdlmkblmljhbfaaDoorNm
import Derived.Test.YtdlmkblmljhbfaaDoorFrm
namespace Go.Proofs.YtdlmkblmljhbfaaDoor
set_option linter.unusedSimpArgs false
set_option linter.unusedVariables false
open Go.RowKit Go.Shelf
attribute [local go_sem] bl_al bl_drew bl_drewN bl_refl bx_al bx_drew bx_drewN bx_refl
set_option maxRecDepth 20000
/-- Streams lie where the header of their slice says; so many at most. -/
structure SmIn (l : List Sm) (A : Option Addr) (c : Nat) (w : World) : Prop where
  len : l.length ≤ 1000
  cap : l.length ≤ c
  nm : ∀ s ∈ l, s.name.size ≤ maxLen
  sl : Sl cSm 4 w A l
theorem SmIn.below {l : List Sm} {A : Option Addr} {c : Nat} {w w' : World} (h : SmIn l A c w) (hb : Below w.heap.size w w') : SmIn l A c w' := ⟨h.len, h.cap, h.nm, h.sl.below hb⟩
theorem c_smNm (x : Sm) (nm : ByteArray) (B : Nat) (w : World) (hB : w.cell? ⟨B, 0, none⟩ = some (.string nm)) :
    Calls Tryd.prog 154 #[vSm x, .pointer (some ⟨B, 0, none⟩)] w (Ret (.bool (x.name.toList == nm.toList)) w) := by
  have hB' := later hB
  have hlt := World.block_lt_of_cell? w _ hB
  clear hB
  have hn : B ≠ w.heap.size := Nat.ne_of_lt hlt
  go_enter Tryd.func154, Tryd.ntmps154
  go_wp2
  go_ret
  exact ⟨rfl, by solve_by_elim (maxDepth := 60) only [bl_al, bl_drew, bl_drewN, bl_refl, *]⟩
set_option maxHeartbeats 2000000 in
theorem c_smErr (l : List Sm) (A : Option Addr) (c B i : Nat) (x : Sm) (w : World) (hi : l[i]? = some x) (hl : l.length ≤ 1000000) (hcap : l.length ≤ c) (hx : x.name.size ≤ maxLen)
    (hc : w.cell? ⟨B, 0, none⟩ = some (.slice A l.length c)) (hs : Sl cSm 4 w A l) :
    Calls Tryd.prog 152 #[.int .i64 (i : Nat), vSm x, .pointer (some ⟨B, 0, none⟩)] w (Ret (.int .i64 (smErr l i x)) w) := by
  have hlt := World.block_lt_of_cell? w _ hc
  have hc' := later hc
  have hn : B ≠ w.heap.size := Nat.ne_of_lt hlt
  have hil : i < l.length := (List.getElem?_eq_some_iff.1 hi).1
  clear hc
  have Hs := Lib.hid hs
  clear hs
  generalize hnl : l.length = nl at *
  have Hnl := Lib.hid hnl
  clear hnl
  have htake : Hid ((l.take i).length = i) := by rw [List.length_take, Hnl.out]; exact Nat.min_eq_left (by omega)
  have hc1 : Hid (∀ W : World, Below w.heap.size w W → W.cell? ⟨w.heap.size, 0, none⟩ = some (.string x.name) →
      Calls Tryd.prog 153 #[.slice A i c, .func (.func 154) #[] #[.pointer (some ⟨w.heap.size, 0, none⟩)]] W (Ret (.bool (knownB ((l.take i).map (·.name)) x.name)) W)) := by
    intro W hW hcl
    have := c_ContainsFuncS 154 #[.pointer (some ⟨w.heap.size, 0, none⟩)] (fun o => o.name.toList == x.name.toList) A (l.take i) c W (by rw [htake.out]; omega)
      (enters_of Tryd.func154 (by kernel_rfl) rfl) (fun y _ W' hb => c_smNm y _ _ W' (kcell hb hcl)) ((Hs.out.below hW).take i)
    rw [htake.out] at this
    rwa [knownB, List.any_map]
  have hres : Hid (smErr l i x = fstE [unl (nameB x.name) 4, unl (!knownB ((l.take i).map (·.name)) x.name) 5, unl (inR x.per 1 60 && (inR x.dl 1 x.per && inR x.len 1 20)) 2]) := rfl
  generalize knownB ((l.take i).map (·.name)) x.name = kn at *
  cases hA : inR x.per 1 60
  all_goals cases hB : inR x.dl 1 x.per
  all_goals
    rw [hA, hB] at hres
    simp only [Bool.false_and, Bool.true_and, Bool.and_false] at hres
    go_enter Tryd.func152, Tryd.ntmps152
    go_wp2_with fail
    refine (hc1.out _ (bl_al _ (bl_refl _)) (by simp [go_sem])).mono ?_
    rintro e wb ⟨rfl, hb3⟩
    have k0 := ((Blk.new w 82 #[.string x.name, .int .i64 x.per, .int .i64 x.dl, .int .i64 x.len]).below hb3).later
    replace hb3 := bl_tt hb3
    have hcur := bl_refl wb
    go_wp2_with (first | (go_at_call 74; (with_reducible refine (c_within _ _ _ _).mono ?_); rintro e w3 ⟨rfl, rfl⟩) | (go_at_call 137; (with_reducible refine (c_isName x.name _ hx).mono ?_); rintro e w3 ⟨rfl, rfl⟩) | (go_at_call 78; (with_reducible refine (c_unless _ _ _).mono ?_); rintro e w3 ⟨rfl, rfl⟩) | (go_at_call 77; (with_reducible refine (c_first3 (Blk.new _ _ _)).mono ?_); rintro e w3 ⟨rfl, rfl⟩))
    go_ret
    exact ⟨by rw [hres.out] <;> rfl, by solve_by_elim (maxDepth := 60) only [bl_al, bl_drew, bl_drewN, bl_refl, *]⟩
set_option maxHeartbeats 4000000 in
theorem c_CheckStreams (l : List Sm) (A : Option Addr) (c : Nat) (w : World) (hn : SmIn l A c w) :
    Calls Tryd.prog 135 #[.slice A l.length c] w (Ret (.tuple #[.int .i64 (smsChk l).1, .int .i64 (smsChk l).2]) w) := by
  have Hn := Lib.hid hn
  have hlen := hn.len
  clear hn
  have hev := Lib.hid fun (W : World) (hb : Below w.heap.size w W) (hB : W.cell? ⟨w.heap.size, 0, none⟩ = some (.slice A l.length c)) =>
    c_eachS 152 #[.pointer (some ⟨w.heap.size, 0, none⟩)] (smErr l) A l c W (by have := Hn.out.len; omega) (enters_of Tryd.func152 (by kernel_rfl) rfl)
      (fun k x hx W' hb' => c_smErr l A c _ k x W' hx (by have := Hn.out.len; omega) Hn.out.cap (Hn.out.nm x (List.mem_of_getElem? hx)) (kcell hb' hB) ((Hn.out.sl.below hb).below hb'))
      (Hn.out.sl.below hb)
  have hres : Hid ((lenE l.length 6 = 0 → smsChk l = eachS (smErr l) l 0) ∧ (lenE l.length 6 ≠ 0 → smsChk l = (0, lenE l.length 6))) := ⟨fun h => by rw [smsChk, if_pos h], fun h => by rw [smsChk, if_neg h]⟩
  have hwe : Hid (lenE l.length 6 = fstE [unl (decide (0 < l.length)) 10, unl (decide ((l.length : Int) ≤ 6)) 8]) := rfl
  generalize l.length = nl at *
  go_enter Tryd.func135, Tryd.ntmps135
  go_wp2
  first
  | apply absB1 (w0 := w) (g0 := w.heap.size)
  | apply absTB1 (w0 := w) (g0 := w.heap.size)
  | apply absIB1 (w0 := w) (g0 := w.heap.size)
  iterate 2 (focus ((with_reducible (repeat' (first | assumption | apply jA | apply jB | apply jC | apply jD | apply jE | apply jF | apply hb3 | apply jG | apply jH | apply jI | apply jJ | apply jK | apply hb3x | (apply jL; first | (simp; done) | rfl) | apply jM | apply jN | apply jO | apply jP | apply jQ | apply jR | apply jS | apply jT (hb := hb3 _ (jA _)) | omega | (simp; done) | (simp; omega) | (dsimp only; omega)))); done))
  intro wa hb0' k0'
  (try simp only [List.setIfInBounds_toArray, List.set_cons_zero, List.set_cons_succ] at k0')
  try clear hb3
  try clear hb0
  try clear k0
  have hb0 := hb0'; clear hb0'
  have k0 := k0'; clear k0'
  have Lk0 := k0.later
  have Fk0 := k0.laterF
  have Qk0 := k0.lt
  refine wp_any (w0 := wa) ⟨[], [], [some 5, some 6, some 7, some 8, some 9, some 10, some 11, some 12, some 13, some 14, some 4], [[], [0], [0, 1], [0, 1, 2], [], [4], [4, 5], [0, 1, 2, 3, 4, 5, 6], [0, 1, 2, 3, 4, 5, 6, 7], [0, 1, 2, 3, 4, 5, 6, 7, 8], [0, 1, 2, 3, 4, 5, 6, 7, 8, 9]], [[], [0], [1], [2], [], [4], [5], [6], [3, 7], [8], [8, 9]]⟩ (fun _ => []) (by kernel_rfl) (by kernel_rfl) (by (with_reducible (repeat' (first | assumption | apply jA | apply jB | apply jC | apply jD | apply jE | apply jF | apply hb3 | omega | (simp; done) | (simp; omega) | (dsimp only; omega))))) (fun u => by simp only [putD, Act.put, List.setIfInBounds_toArray, List.set_cons_zero, List.set_cons_succ, Nat.zero_add, Nat.reduceAdd]; rfl) ?_
  apply RGW.on (i := 0) rfl
  · (simp only [gA, gB, gC] <;> rfl)
  · intro γ u W hcur hd
    clear hd
    (try dsimp only)
    refine ⟨rfl, ?_⟩
    go_simp <;> (try go_bits) <;> with_reducible rfl
  · exact fun _ _ _ => rfl
  · rfl
  dsimp only [nA, cA]
  apply RGW.on (i := 1) rfl
  · (simp only [gA, gB, gC] <;> rfl)
  · intro γ u W hcur hd
    obtain ⟨⟨h0, -, -⟩, -⟩ := hd
    dsimp only at h0
    (try simp only [h0])
    refine ⟨rfl, ?_⟩
    go_simp <;> (try go_bits) <;> with_reducible rfl
  · exact fun _ _ _ => rfl
  · rfl
  dsimp only [nA, cA]
  apply RGW.on (i := 2) rfl
  · (simp only [gA, gB, gC] <;> rfl)
  · intro γ u W hcur hd
    obtain ⟨⟨h1, -, -⟩, -⟩ := hd
    dsimp only at h1
    (try simp only [h1])
    refine ⟨rfl, ?_⟩
    go_simp <;> (try go_bits) <;> with_reducible rfl
  · exact fun _ _ _ => rfl
  · rfl
  dsimp only [nA, cA]
  apply RGW.call (i := 3) rfl
  · (simp only [gA, gB, gC] <;> rfl)
  · intro γ u W hcur hd
    obtain ⟨⟨h2, -, -⟩, -⟩ := hd
    dsimp only at h2
    (try simp only [h2])
    refine ⟨rfl, fun K hK => ?_⟩
    go_simp
    first
    | (go_at_call 78; (with_reducible refine (c_unless _ _ _).mono ?_); rintro e w3 ⟨rfl, rfl⟩)
    | (go_at_call 77; (with_reducible refine (c_first2 (by (with_reducible (repeat' (first | assumption | (apply jL; first | (simp; done) | rfl) | apply jM | apply jN | apply jO | apply jP | apply jQ | apply jR | apply jS | apply jT (hb := hb3 _ (jA _)) | omega | (simp; done) | (simp; omega) | (dsimp only; omega)))))).mono ?_); rintro e w3 ⟨rfl, rfl⟩)
    (try dsimp only)
    exact hK.out _ _ rfl (by (with_reducible (repeat' (first | assumption | apply jA | apply jB | apply jC | apply jD | apply jE | apply jF | apply hb3 | omega | (simp; done) | (simp; omega) | (dsimp only; omega)))))
  · exact fun _ _ _ => rfl
  · rfl
  dsimp only [nA, cA]
  apply RGW.on (i := 4) rfl
  · (simp only [gA, gB, gC] <;> rfl)
  · intro γ u W hcur hd
    clear hd
    (try dsimp only)
    refine ⟨rfl, ?_⟩
    go_simp <;> (try go_bits) <;> with_reducible rfl
  · exact fun _ _ _ => rfl
  · rfl
  dsimp only [nA, cA]
  apply RGW.on (i := 5) rfl
  · (simp only [gA, gB, gC] <;> rfl)
  · intro γ u W hcur hd
    obtain ⟨⟨h4, -, -⟩, -⟩ := hd
    dsimp only at h4
    (try simp only [h4])
    refine ⟨rfl, ?_⟩
    go_simp <;> (try go_bits) <;> with_reducible rfl
  · exact fun _ _ _ => rfl
  · rfl
  dsimp only [nA, cA]
  apply RGW.on (i := 6) rfl
  · (simp only [gA, gB, gC] <;> rfl)
  · intro γ u W hcur hd
    obtain ⟨⟨h5, -, -⟩, -⟩ := hd
    dsimp only at h5
    (try simp only [h5])
    refine ⟨rfl, ?_⟩
    go_simp <;> (try go_bits) <;> with_reducible rfl
  · exact fun _ _ _ => rfl
  · rfl
  dsimp only [nA, cA]
  apply RGW.call (i := 7) rfl
  · (simp only [gA, gB, gC] <;> rfl)
  · intro γ u W hcur hd
    obtain ⟨⟨h6, -, -⟩, -⟩ := hd
    dsimp only at h6
    (try simp only [h6])
    refine ⟨rfl, fun K hK => ?_⟩
    go_simp
    first
    | (go_at_call 78; (with_reducible refine (c_unless _ _ _).mono ?_); rintro e w3 ⟨rfl, rfl⟩)
    | (go_at_call 77; (with_reducible refine (c_first2 (by (with_reducible (repeat' (first | assumption | (apply jL; first | (simp; done) | rfl) | apply jM | apply jN | apply jO | apply jP | apply jQ | apply jR | apply jS | apply jT (hb := hb3 _ (jA _)) | omega | (simp; done) | (simp; omega) | (dsimp only; omega)))))).mono ?_); rintro e w3 ⟨rfl, rfl⟩)
    (try dsimp only)
    exact hK.out _ _ rfl (by (with_reducible (repeat' (first | assumption | apply jA | apply jB | apply jC | apply jD | apply jE | apply jF | apply hb3 | omega | (simp; done) | (simp; omega) | (dsimp only; omega)))))
  · exact fun _ _ _ => rfl
  · rfl
  dsimp only [nA, cA]
  apply RGW.bslice (i := 8) rfl
  · (simp only [gA, gB, gC] <;> rfl)
  · intro γ u W hcur hd
    obtain ⟨⟨h3, -, -⟩, ⟨h7, -, -⟩, -⟩ := hd
    dsimp only at h3 h7
    (try simp only [h3, h7])
    refine ⟨rfl, fun K hK => ?_⟩
    go_simp
    exact hK.out _ _ rfl rfl
  · exact fun _ _ _ => rfl
  · rfl
  · rfl
  dsimp only [nA, cA]
  apply RGW.call (i := 9) rfl
  · (simp only [gA, gB, gC] <;> rfl)
  · intro γ u W hcur hd
    obtain ⟨⟨h8, r8, -⟩, -⟩ := hd
    dsimp only at h8 r8
    have L8 := r8.cell
    (try simp only [h8])
    refine ⟨rfl, fun K hK => ?_⟩
    go_simp
    first
    | (go_at_call 78; (with_reducible refine (c_unless _ _ _).mono ?_); rintro e w3 ⟨rfl, rfl⟩)
    | (go_at_call 77; (with_reducible refine (c_first2 (by (with_reducible (repeat' (first | assumption | (apply jL; first | (simp; done) | rfl) | apply jM | apply jN | apply jO | apply jP | apply jQ | apply jR | apply jS | apply jT (hb := hb3 _ (jA _)) | omega | (simp; done) | (simp; omega) | (dsimp only; omega)))))).mono ?_); rintro e w3 ⟨rfl, rfl⟩)
    (try dsimp only)
    exact hK.out _ _ rfl (by (with_reducible (repeat' (first | assumption | apply jA | apply jB | apply jC | apply jD | apply jE | apply jF | apply hb3 | omega | (simp; done) | (simp; omega) | (dsimp only; omega)))))
  · first
    | exact fun _ _ _ => rfl
    | intro γ γ' hg
      try dsimp only
      have e8 := hg 8 (by decide)
      simp only [e8]
  · rfl
  dsimp only [nA, cA]
  apply RGW.on (i := 10) rfl
  · (simp only [gA, gB, gC] <;> rfl)
  · intro γ u W hcur hd
    obtain ⟨⟨h8, r8, -⟩, ⟨h9, -, -⟩, -⟩ := hd
    dsimp only at h8 h9 r8
    have L8 := r8.cell
    (try simp only [h8, h9])
    refine ⟨rfl, ?_⟩
    go_simp <;> (try go_bits) <;> with_reducible rfl
  · first
    | exact fun _ _ _ => rfl
    | intro γ γ' hg
      try dsimp only
      have e8 := hg 8 (by decide)
      simp only [e8]
  · rfl
  dsimp only [nA, cA]
  refine RGW.fin (fun γ u wb hwb hd hdis => ?_)
  obtain ⟨⟨h0, -, -⟩, ⟨h1, -, -⟩, ⟨h2, -, -⟩, ⟨h3, -, -⟩, ⟨h4, -, -⟩, ⟨h5, -, -⟩, ⟨h6, -, -⟩, ⟨h7, -, -⟩, ⟨h8, r8, b8⟩, ⟨h9, -, -⟩, ⟨h10, -, -⟩, -⟩ := hd
  dsimp only at h0 h1 h2 h3 h4 h5 h6 h7 h8 h9 h10 r8 b8
  clear hdis
  simp only [h0, h1, h2, h3, h4, h5, h6, h7, h8, h9, h10]
  clear h10 h9 h8 h7 h6 h5 h4 h3 h2 h1 h0
  replace b8 := b8 _ (List.mem_singleton.2 rfl)
  generalize hγ8 : (γ 8).n = g8 at *
  clear hγ8
  clear u
  simp only [List.map_nil]
  refine PlanW.done ?_
  have hb3 := bl_tt hwb
  rw [← hwe.out]
  have hbw := hb3 _ hb0
  generalize lenE nl 6 = we at *
  by_cases h0 : we = 0
  · have h0' : (we != 0) = false := by simp [h0]
    replace h0 := Lib.hid h0
    go_wp2_with fail
    refine Calls.mono (hev.out _ ?_ ?_) ?_
    · (with_reducible (repeat' (first | assumption | apply jA | apply jB | apply jC | apply jD | apply jE | apply jF | apply hb3 | omega | (simp; done) | (simp; omega) | (dsimp only; omega))))
    · exact Lk0 _ (by (with_reducible (repeat' (first | assumption | apply jA | apply jB | apply jC | apply jD | apply jE | apply jF | apply hb3 | omega | (simp; done) | (simp; omega) | (dsimp only; omega))))) 0
    rintro e w3 ⟨rfl, hb3⟩
    replace hb3 := bl_tt hb3
    go_wp2
    go_ret2
    exact ⟨by rw [hres.out.1 h0.out] <;> rfl, hb3 _ hbw⟩
  · have h0' : (we != 0) = true := by simp [h0]
    replace h0 := Lib.hid h0
    go_wp2
    go_ret2
    exact ⟨by rw [hres.out.2 h0.out] <;> rfl, hbw⟩
theorem c_streamsErr (l : List Sm) (A : Option Addr) (c : Nat) (w : World) (hn : SmIn l A c w) : Calls Tryd.prog 98 #[.slice A l.length c] w (Ret (.int .i64 (smsErr l)) w) := by
  have hcall := Lib.hid (c_CheckStreams l A c w hn)
  have he : Hid ((smsChk l).2 = smsErr l) := rfl
  clear hn
  generalize l.length = n at *
  go_enter Tryd.func98, Tryd.ntmps98
  go_wp2_with fail
  refine hcall.out.mono ?_
  rintro e w3 ⟨rfl, hb3⟩
  go_wp2
  go_ret
  exact ⟨by rw [he.out] <;> rfl, hb3⟩
end Go.Proofs.YtdlmkblmljhbfaaDoor
