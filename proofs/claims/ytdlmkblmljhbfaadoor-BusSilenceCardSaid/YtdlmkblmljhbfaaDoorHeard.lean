/-
  Walk: what is wrong with the ticks that were heard, by the reference.
-/
import Derived.Test.YtdlmkblmljhbfaaDoorCpy
namespace Go.Proofs.YtdlmkblmljhbfaaDoor
set_option linter.unusedSimpArgs false
set_option linter.unusedVariables false
open Go.RowKit Go.Shelf
attribute [local go_sem] bl_al bl_drew bl_drewN bl_refl bx_al bx_drew bx_drewN bx_refl
set_option maxRecDepth 20000
theorem r_Within (n lo hi : Int) (w : World) : Calls Tryd.prog 21 #[.int .i64 n, .int .i64 lo, .int .i64 hi] w (Same (.bool (inR n lo hi)) w) := by
  by_cases h1 : lo ≤ n
  · go_enter Tryd.func21, Tryd.ntmps21
    go_wp2
    go_ret
    exact ⟨by simp [inR, h1], rfl⟩
  · go_enter Tryd.func21, Tryd.ntmps21
    go_wp2
    go_ret
    exact ⟨by simp [inR, h1] <;> (intro h; omega), rfl⟩
theorem r_IsTick (n : Int) (w : World) : Calls Tryd.prog 80 #[.int .i64 n] w (Same (.bool (tickB n)) w) := by
  go_enter Tryd.func80, Tryd.ntmps80
  go_wp2_with (go_at_call 21; (with_reducible refine (r_Within _ _ _ _).mono ?_); rintro e w3 ⟨rfl, rfl⟩)
  go_ret
  exact ⟨rfl, rfl⟩
def hErr (l : List Int) (k : Nat) (n : Int) : Int := fstE [unl (tickB n) 2, unl (decide (prevI l k < n)) 9]
theorem heardE_eq (l : List Int) : heardE l = (eachS (hErr l) l 0).2 := rfl
theorem silE_long {l : List Int} {s : Rg} {t : Int} (h : ¬ (l.length : Int) ≤ 60) : silE l s t = 8 := by simp [silE, fstE, unl, h]
theorem silE_heard {l : List Int} {s : Rg} {t : Int} (h : (l.length : Int) ≤ 60) (h2 : heardE l ≠ 0) : silE l s t = heardE l := by simp [silE, fstE, unl, h, h2]
theorem silE_rest {l : List Int} {s : Rg} {t : Int} (h : (l.length : Int) ≤ 60) (h2 : heardE l = 0) : silE l s t = fstE [unl (tickB s.lo && tickB s.hi) 2, unl (decide (s.lo ≤ s.hi)) 9, unl (tickB t) 2] := by simp [silE, fstE, unl, h, h2]
set_option maxHeartbeats 8000000 in
theorem r_HeardErr (l : List Int) (s : Rg) (t : Int) (A : Option Addr) (c : Nat) (w : World) (hs : Sl cI 1 w A l) (hl : l.length ≤ 1000) :
    Calls Tryd.prog 18 #[.slice A l.length c, vRg s, .int .i64 t] w (Ret (.int .i64 (silE l s t)) w) := by
  obtain ⟨lo, hi⟩ := s
  have Hs := Lib.hid hs
  have hlong := Lib.hid fun h : ¬ (l.length : Int) ≤ 60 => silE_long (s := ⟨lo, hi⟩) (t := t) h
  have hheard := Lib.hid fun (h : (l.length : Int) ≤ 60) => silE_heard (l := l) (s := ⟨lo, hi⟩) (t := t) h
  have hrest := Lib.hid fun (h : (l.length : Int) ≤ 60) => silE_rest (l := l) (s := ⟨lo, hi⟩) (t := t) h
  rw [heardE_eq] at hheard hrest
  dsimp only at hrest
  obtain ⟨n, Hn⟩ : ∃ n, Hid (l.length = n) := ⟨_, rfl⟩
  rw [Hn.out] at hl hlong hheard hrest ⊢
  clear hs
  by_cases h60 : (n : Int) ≤ 60
  rotate_left
  · rw [hlong.out h60]
    go_enter Tryd.func18, Tryd.ntmps18
    go_wp2
    go_ret
    exact ⟨rfl, by (with_reducible (repeat' (first | assumption | apply jA | apply jB | apply jC | apply jD | apply jE | apply jF | apply hb3 | omega | (simp; done) | (simp; omega) | (dsimp only; omega))))⟩
  replace hheard := Lib.hid (hheard.out h60)
  replace hrest := Lib.hid (hrest.out h60)
  clear hlong
  generalize silE l ⟨lo, hi⟩ t = E at *
  go_enter Tryd.func18, Tryd.ntmps18
  go_upto_region 4 with fail
  first
  | apply absB1 (w0 := w) (g0 := w.heap.size)
  | apply absTB1 (w0 := w) (g0 := w.heap.size)
  | apply absIB1 (w0 := w) (g0 := w.heap.size)
  iterate 2 (focus ((with_reducible (repeat' (first | assumption | apply jA | apply jB | apply jC | apply jD | apply jE | apply jF | apply hb3 | apply jG | apply jH | apply jI | apply jJ | apply jK | apply hb3x | (apply jL; first | (simp; done) | rfl) | apply jM | apply jN | apply jO | apply jP | apply jQ | apply jR | apply jS | apply jT (hb := hb3 _ (jA _)) | omega | (simp; done) | (simp; omega) | (dsimp only; omega)))); done))
  intro wa hb0' k0'
  (try simp only [List.setIfInBounds_toArray, List.set_cons_zero, List.set_cons_succ] at k0')
  try clear hb3
  try clear hb0
  try clear k0
  have hb0 := hb0'; clear hb0'
  have k0 := k0'; clear k0'
  go_loopw [7] (fun i wr => ∃ k : Nat, k ≤ n ∧ i = .int .i64 k ∧ Below w.heap.size w wr ∧ Blk wr w.heap.size 24 #[.int .i64 lo, .int .i64 hi] ∧ eachS (hErr l) l 0 = eachS (hErr l) (l.drop k) k) (fun i _ => n - (intOf i).toNat)
  case atStart => exact ⟨0, Nat.zero_le _, rfl, hb0, k0, rfl⟩
  case round =>
    clear hb0 k0
    obtain ⟨k, hk, rfl, hb0, k0, hi0⟩ := hrel
    replace hi0 := Lib.hid hi0
    by_cases hkn : k < n
    · have hx : l[k]? = some (l[k]'(by rw [Hn.out]; exact hkn)) := List.getElem?_eq_getElem _
      generalize l[k]'(by rw [Hn.out]; exact hkn) = x at hx
      have hd := Lib.hid (eachS_drop (hErr l) l k x hx)
      obtain ⟨b, off, rfl, hc⟩ := Hs.out k x hx
      have c0 : ∀ W, Below wr.heap.size wr W → W.cell? ⟨b, off + k, none⟩ = some (.int .i64 x) := later (by have := kcell hb0 (hc 0 _ rfl); simpa using this)
      clear hc
      cases hT : tickB x
      · have hh : hErr l k x = 2 := by simp [hErr, hT, fstE, unl]
        have hE : Hid (E = 2) := Lib.hid (by
          have e : (eachS (hErr l) l 0).2 = 2 := by rw [hi0.out, hd.out, hh]; rfl
          rw [hheard.out (by rw [e]; decide), e])
        clear hheard hrest hi0 hd hh
        have c0' := c0 wr (bl_refl _)
        go_wp2_with (go_at_call 80; (with_reducible refine (hT ▸ r_IsTick x _).mono ?_); rintro e w3 ⟨rfl, rfl⟩)
        go_ret
        exact ⟨by rw [hE.out] <;> rfl, hb0⟩
      · have hx0 : 0 ≤ x := by simp [tickB, inR] at hT; omega
        have c0' := c0 wr (bl_refl _)
        go_upto_region 8 with (go_at_call 80; (with_reducible refine (hT ▸ r_IsTick x _).mono ?_); rintro e w3 ⟨rfl, rfl⟩)
        clear c0'
        by_cases hk0 : k = 0
        · subst hk0
          have hh : hErr l 0 x = 0 := by simp [hErr, hT, fstE, unl, prevI]; omega
          have hi1 := Lib.hid (show eachS (hErr l) l 0 = eachS (hErr l) (l.drop 1) 1 by rw [hi0.out, hd.out, if_pos hh])
          clear hi0 hd hh hheard hrest
          refine wp_any (w0 := wr) ⟨[], [], [some 23, some 24, some 25, some 26, some 27, some 28, some 29, some 30, some 31, some 32, some 33, some 34, some 35, some 36], [[], [0], [0, 1], [0, 1, 2], [0, 1, 2], [0, 1, 2, 3, 4], [0, 1, 2, 3, 4, 5], [0, 1, 2], [0, 1, 2], [0, 1, 2, 8], [0, 1, 2, 7, 8, 9], [0, 1, 2, 7, 8, 9, 10], [0, 1, 2, 3, 4, 5, 6, 7, 8, 9, 10, 11], [0, 1, 2, 3, 4, 5, 6, 7, 8, 9, 10, 11, 12]], [[], [0], [1], [2], [2], [2, 3, 4], [2, 5], [2], [2], [2, 8], [2, 7, 9], [2, 10], [2, 6, 11], [2, 12]]⟩ (fun _ => []) (by kernel_rfl) (by kernel_rfl) (by (with_reducible (repeat' (first | assumption | apply jA | apply jB | apply jC | apply jD | apply jE | apply jF | apply hb3 | omega | (simp; done) | (simp; omega) | (dsimp only; omega))))) (fun u => by simp only [putD, Act.put, List.setIfInBounds_toArray, List.set_cons_zero, List.set_cons_succ, Nat.zero_add, Nat.reduceAdd]; rfl) ?_
          apply RGW.on (i := 0) rfl
          · (simp only [gA, gB, gC] <;> rfl)
          · intro γ u W hcur hd
            clear hd
            (try dsimp only)
            refine ⟨rfl, ?_⟩
            go_simp <;> (try go_bits) <;> with_reducible rfl
          · exact fun _ _ _ => rfl
          · rfl
          dsimp only [nA, cA]
          apply RGW.on (i := 1) rfl
          · (simp only [gA, gB, gC] <;> rfl)
          · intro γ u W hcur hd
            obtain ⟨⟨h0, -, -⟩, -⟩ := hd
            dsimp only at h0
            (try simp only [h0])
            refine ⟨rfl, ?_⟩
            go_simp <;> (try go_bits) <;> with_reducible rfl
          · exact fun _ _ _ => rfl
          · rfl
          dsimp only [nA, cA]
          apply RGW.on (i := 2) rfl
          · (simp only [gA, gB, gC] <;> rfl)
          · intro γ u W hcur hd
            obtain ⟨⟨h1, -, -⟩, -⟩ := hd
            dsimp only at h1
            (try simp only [h1])
            refine ⟨rfl, ?_⟩
            go_simp <;> (try go_bits) <;> with_reducible rfl
          · exact fun _ _ _ => rfl
          · rfl
          dsimp only [nA, cA]
          first
          | apply RGW.on (i := 3) rfl
            · (simp only [gA, gB, gC] <;> rfl)
            · intro γ u W hcur hd
              obtain ⟨⟨h2, -, -⟩, -⟩ := hd
              dsimp only at h2
              (try simp only [h2])
              refine ⟨?_, ?_⟩
              · (simp [Region.wanted, yielded, undef, *]; done)
              go_simp <;> (try go_bits) <;> with_reducible rfl
            · exact fun _ _ _ => rfl
            · rfl
          | apply RGW.off (i := 3) rfl
            · (simp only [gA, gB, gC] <;> rfl)
            · intro γ u W hcur hd
              obtain ⟨⟨h2, -, -⟩, -⟩ := hd
              dsimp only at h2
              (try simp only [h2])
              simp [Region.wanted, yielded, undef, *]
            · rfl
          dsimp only [nA, cA]
          first
          | apply RGW.on (i := 4) rfl
            · (simp only [gA, gB, gC] <;> rfl)
            · intro γ u W hcur hd
              obtain ⟨⟨h2, -, -⟩, -⟩ := hd
              dsimp only at h2
              (try simp only [h2])
              refine ⟨?_, ?_⟩
              · (simp [Region.wanted, yielded, undef, *]; done)
              go_simp <;> (try go_bits) <;> with_reducible rfl
            · exact fun _ _ _ => rfl
            · rfl
          | apply RGW.off (i := 4) rfl
            · (simp only [gA, gB, gC] <;> rfl)
            · intro γ u W hcur hd
              obtain ⟨⟨h2, -, -⟩, -⟩ := hd
              dsimp only at h2
              (try simp only [h2])
              simp [Region.wanted, yielded, undef, *]
            · rfl
          dsimp only [nA, cA]
          first
          | apply RGW.on (i := 5) rfl
            · (simp only [gA, gB, gC] <;> rfl)
            · intro γ u W hcur hd
              obtain ⟨⟨h2, -, -⟩, ⟨h3, -, -⟩, ⟨h4, -, -⟩, -⟩ := hd
              dsimp only at h2 h3 h4
              (try simp only [h2, h3, h4])
              refine ⟨?_, ?_⟩
              · (simp [Region.wanted, yielded, undef, *]; done)
              go_simp <;> (try go_bits) <;> with_reducible rfl
            · exact fun _ _ _ => rfl
            · rfl
          | apply RGW.off (i := 5) rfl
            · (simp only [gA, gB, gC] <;> rfl)
            · intro γ u W hcur hd
              obtain ⟨⟨h2, -, -⟩, ⟨h3, -, -⟩, ⟨h4, -, -⟩, -⟩ := hd
              dsimp only at h2 h3 h4
              (try simp only [h2, h3, h4])
              simp [Region.wanted, yielded, undef, *]
            · rfl
          dsimp only [nA, cA]
          first
          | apply RGW.on (i := 6) rfl
            · (simp only [gA, gB, gC] <;> rfl)
            · intro γ u W hcur hd
              obtain ⟨⟨h2, -, -⟩, ⟨h5, -, -⟩, -⟩ := hd
              dsimp only at h2 h5
              (try simp only [h2, h5])
              refine ⟨?_, ?_⟩
              · (simp [Region.wanted, yielded, undef, *]; done)
              go_simp <;> (try go_bits) <;> with_reducible rfl
            · exact fun _ _ _ => rfl
            · rfl
          | apply RGW.off (i := 6) rfl
            · (simp only [gA, gB, gC] <;> rfl)
            · intro γ u W hcur hd
              obtain ⟨⟨h2, -, -⟩, ⟨h5, -, -⟩, -⟩ := hd
              dsimp only at h2 h5
              (try simp only [h2, h5])
              simp [Region.wanted, yielded, undef, *]
            · rfl
          dsimp only [nA, cA]
          first
          | apply RGW.on (i := 7) rfl
            · (simp only [gA, gB, gC] <;> rfl)
            · intro γ u W hcur hd
              obtain ⟨⟨h2, -, -⟩, -⟩ := hd
              dsimp only at h2
              (try simp only [h2])
              refine ⟨?_, ?_⟩
              · (simp [Region.wanted, yielded, undef, *]; done)
              go_simp <;> (try go_bits) <;> with_reducible rfl
            · exact fun _ _ _ => rfl
            · rfl
          | apply RGW.off (i := 7) rfl
            · (simp only [gA, gB, gC] <;> rfl)
            · intro γ u W hcur hd
              obtain ⟨⟨h2, -, -⟩, -⟩ := hd
              dsimp only at h2
              (try simp only [h2])
              simp [Region.wanted, yielded, undef, *]
            · rfl
          dsimp only [nA, cA]
          first
          | apply RGW.on (i := 8) rfl
            · (simp only [gA, gB, gC] <;> rfl)
            · intro γ u W hcur hd
              obtain ⟨⟨h2, -, -⟩, -⟩ := hd
              dsimp only at h2
              (try simp only [h2])
              refine ⟨?_, ?_⟩
              · (simp [Region.wanted, yielded, undef, *]; done)
              go_simp <;> (try go_bits) <;> with_reducible rfl
            · exact fun _ _ _ => rfl
            · rfl
          | apply RGW.off (i := 8) rfl
            · (simp only [gA, gB, gC] <;> rfl)
            · intro γ u W hcur hd
              obtain ⟨⟨h2, -, -⟩, -⟩ := hd
              dsimp only at h2
              (try simp only [h2])
              simp [Region.wanted, yielded, undef, *]
            · rfl
          dsimp only [nA, cA]
          first
          | apply RGW.on (i := 9) rfl
            · (simp only [gA, gB, gC] <;> rfl)
            · intro γ u W hcur hd
              obtain ⟨⟨h2, -, -⟩, ⟨h8, -, -⟩, -⟩ := hd
              dsimp only at h2 h8
              (try simp only [h2, h8])
              refine ⟨?_, ?_⟩
              · (simp [Region.wanted, yielded, undef, *]; done)
              go_simp <;> (try go_bits) <;> with_reducible rfl
            · exact fun _ _ _ => rfl
            · rfl
          | apply RGW.off (i := 9) rfl
            · (simp only [gA, gB, gC] <;> rfl)
            · intro γ u W hcur hd
              obtain ⟨⟨h2, -, -⟩, ⟨h8, -, -⟩, -⟩ := hd
              dsimp only at h2 h8
              (try simp only [h2, h8])
              simp [Region.wanted, yielded, undef, *]
            · rfl
          dsimp only [nA, cA]
          first
          | apply RGW.on (i := 10) rfl
            · (simp only [gA, gB, gC] <;> rfl)
            · intro γ u W hcur hd
              obtain ⟨⟨h2, -, -⟩, ⟨h7, -, -⟩, ⟨h9, -, -⟩, -⟩ := hd
              dsimp only at h2 h7 h9
              (try simp only [h2, h7, h9])
              refine ⟨?_, ?_⟩
              · (simp [Region.wanted, yielded, undef, *]; done)
              go_simp <;> (try go_bits) <;> with_reducible rfl
            · exact fun _ _ _ => rfl
            · rfl
          | apply RGW.off (i := 10) rfl
            · (simp only [gA, gB, gC] <;> rfl)
            · intro γ u W hcur hd
              obtain ⟨⟨h2, -, -⟩, ⟨h7, -, -⟩, ⟨h9, -, -⟩, -⟩ := hd
              dsimp only at h2 h7 h9
              (try simp only [h2, h7, h9])
              simp [Region.wanted, yielded, undef, *]
            · rfl
          dsimp only [nA, cA]
          first
          | apply RGW.on (i := 11) rfl
            · (simp only [gA, gB, gC] <;> rfl)
            · intro γ u W hcur hd
              obtain ⟨⟨h2, -, -⟩, ⟨h10, -, -⟩, -⟩ := hd
              dsimp only at h2 h10
              (try simp only [h2, h10])
              refine ⟨?_, ?_⟩
              · (simp [Region.wanted, yielded, undef, *]; done)
              go_simp <;> (try go_bits) <;> with_reducible rfl
            · exact fun _ _ _ => rfl
            · rfl
          | apply RGW.off (i := 11) rfl
            · (simp only [gA, gB, gC] <;> rfl)
            · intro γ u W hcur hd
              obtain ⟨⟨h2, -, -⟩, ⟨h10, -, -⟩, -⟩ := hd
              dsimp only at h2 h10
              (try simp only [h2, h10])
              simp [Region.wanted, yielded, undef, *]
            · rfl
          dsimp only [nA, cA]
          first
          | apply RGW.on (i := 12) rfl
            · (simp only [gA, gB, gC] <;> rfl)
            · intro γ u W hcur hd
              obtain ⟨⟨h2, -, -⟩, ⟨h6, -, -⟩, ⟨h11, -, -⟩, -⟩ := hd
              dsimp only at h2 h6 h11
              (try simp only [h2, h6, h11])
              refine ⟨?_, ?_⟩
              · (simp [Region.wanted, yielded, undef, *]; done)
              go_simp <;> (try go_bits) <;> with_reducible rfl
            · exact fun _ _ _ => rfl
            · rfl
          | apply RGW.off (i := 12) rfl
            · (simp only [gA, gB, gC] <;> rfl)
            · intro γ u W hcur hd
              obtain ⟨⟨h2, -, -⟩, ⟨h6, -, -⟩, ⟨h11, -, -⟩, -⟩ := hd
              dsimp only at h2 h6 h11
              (try simp only [h2, h6, h11])
              simp [Region.wanted, yielded, undef, *]
            · rfl
          dsimp only [nA, cA]
          apply RGW.on (i := 13) rfl
          · (simp only [gA, gB, gC] <;> rfl)
          · intro γ u W hcur hd
            obtain ⟨⟨h2, -, -⟩, ⟨h12, -, -⟩, -⟩ := hd
            dsimp only at h2 h12
            (try simp only [h2, h12])
            refine ⟨rfl, ?_⟩
            go_simp <;> (try go_bits) <;> with_reducible rfl
          · exact fun _ _ _ => rfl
          · rfl
          dsimp only [nA, cA]
          refine RGW.fin (fun γ u wj hwj hd hdis => ?_)
          obtain ⟨⟨h0, -, -⟩, ⟨h1, -, -⟩, ⟨h2, -, -⟩, ⟨h3, -, -⟩, ⟨h4, -, -⟩, ⟨h5, -, -⟩, ⟨h6, -, -⟩, ⟨h7, -, -⟩, ⟨h8, -, -⟩, ⟨h9, -, -⟩, ⟨h10, -, -⟩, ⟨h11, -, -⟩, ⟨h12, -, -⟩, ⟨h13, -, -⟩, -⟩ := hd
          dsimp only at h0 h1 h2 h3 h4 h5 h6 h7 h8 h9 h10 h11 h12 h13
          clear hdis
          simp only [h0, h1, h2, h3, h4, h5, h6, h7, h8, h9, h10, h11, h12, h13]
          clear h13 h12 h11 h10 h9 h8 h7 h6 h5 h4 h3 h2 h1 h0
          clear u
          simp only [List.map_nil]
          refine PlanW.done ?_
          have hb3 := bl_tt hwj
          have hbj := bl_tr hb0 hwj
          have kj := k0.below hwj
          go_wp2
          go_roundw
          case rel => exact ⟨1, by omega, by go_num, hbj, kj, hi1.out⟩
          case measure => simp [intOf]; omega
        · obtain ⟨j, rfl⟩ : ∃ j, k = j + 1 := ⟨k - 1, by omega⟩
          have hy : l[j]? = some (l[j]'(by rw [Hn.out]; omega)) := List.getElem?_eq_getElem _
          generalize l[j]'(by rw [Hn.out]; omega) = y at hy
          obtain ⟨b2, off2, e2, hc⟩ := Hs.out j y hy
          injection e2 with e2
          injection e2 with e2 e3 _
          subst e2 e3
          have c1 : ∀ W, Below wr.heap.size wr W → W.cell? ⟨b, off + j, none⟩ = some (.int .i64 y) := later (by have := kcell hb0 (hc 0 _ rfl); simpa using this)
          have hp : prevI l (j + 1) = y := by simp [prevI, hy]
          have hh : hErr l (j + 1) x = unl (decide (y < x)) 9 := by
            unfold hErr
            rw [hp, hT]
            by_cases h : y < x <;> simp [fstE, unl, h]
          have hnx := Lib.hid fun h : hErr l (j + 1) x = 0 => (show eachS (hErr l) l 0 = eachS (hErr l) (l.drop (j + 2)) (j + 2) by rw [hi0.out, hd.out, if_pos h])
          have hno := Lib.hid fun h : hErr l (j + 1) x ≠ 0 => (show (eachS (hErr l) l 0).2 = hErr l (j + 1) x by rw [hi0.out, hd.out, if_neg h])
          replace hh := Lib.hid hh
          have hj0 : (0 : Int) < (j : Int) + 1 := by omega
          have hjn : j < n := by omega
          have hj1 : (j : Int) + 1 < n := by omega
          have hj2 : ((j + 1 : Nat) : Int) < n := by omega
          have hj3 : (j : Int) < n := by omega
          have hj4 : (0 : Int) ≤ (j : Int) + 1 := by omega
          clear hi0 hd hc hp hx hy hT
          refine wp_any (w0 := wr) ⟨[], [], [some 23, some 24, some 25, some 26, some 27, some 28, some 29, some 30, some 31, some 32, some 33, some 34, some 35, some 36], [[], [0], [0, 1], [0, 1, 2], [0, 1, 2], [0, 1, 2, 3, 4], [0, 1, 2, 3, 4, 5], [0, 1, 2], [0, 1, 2], [0, 1, 2, 8], [0, 1, 2, 7, 8, 9], [0, 1, 2, 7, 8, 9, 10], [0, 1, 2, 3, 4, 5, 6, 7, 8, 9, 10, 11], [0, 1, 2, 3, 4, 5, 6, 7, 8, 9, 10, 11, 12]], [[], [0], [1], [2], [2], [2, 3, 4], [2, 5], [2], [2], [2, 8], [2, 7, 9], [2, 10], [2, 6, 11], [2, 12]]⟩ (fun _ => []) (by kernel_rfl) (by kernel_rfl) (by (with_reducible (repeat' (first | assumption | apply jA | apply jB | apply jC | apply jD | apply jE | apply jF | apply hb3 | omega | (simp; done) | (simp; omega) | (dsimp only; omega))))) (fun u => by simp only [putD, Act.put, List.setIfInBounds_toArray, List.set_cons_zero, List.set_cons_succ, Nat.zero_add, Nat.reduceAdd]; rfl) ?_
          apply RGW.on (i := 0) rfl
          · (simp only [gA, gB, gC] <;> rfl)
          · intro γ u W hcur hd
            clear hd
            (try dsimp only)
            refine ⟨rfl, ?_⟩
            go_simp <;> (try go_bits) <;> with_reducible rfl
          · exact fun _ _ _ => rfl
          · rfl
          dsimp only [nA, cA]
          apply RGW.on (i := 1) rfl
          · (simp only [gA, gB, gC] <;> rfl)
          · intro γ u W hcur hd
            obtain ⟨⟨h0, -, -⟩, -⟩ := hd
            dsimp only at h0
            (try simp only [h0])
            refine ⟨rfl, ?_⟩
            go_simp <;> (try go_bits) <;> with_reducible rfl
          · exact fun _ _ _ => rfl
          · rfl
          dsimp only [nA, cA]
          apply RGW.on (i := 2) rfl
          · (simp only [gA, gB, gC] <;> rfl)
          · intro γ u W hcur hd
            obtain ⟨⟨h1, -, -⟩, -⟩ := hd
            dsimp only at h1
            (try simp only [h1])
            refine ⟨rfl, ?_⟩
            go_simp <;> (try go_bits) <;> with_reducible rfl
          · exact fun _ _ _ => rfl
          · rfl
          dsimp only [nA, cA]
          first
          | apply RGW.on (i := 3) rfl
            · (simp only [gA, gB, gC] <;> rfl)
            · intro γ u W hcur hd
              obtain ⟨⟨h2, -, -⟩, -⟩ := hd
              dsimp only at h2
              (try simp only [h2])
              refine ⟨?_, ?_⟩
              · (simp [Region.wanted, yielded, undef, *]; done)
              go_simp <;> (try go_bits) <;> with_reducible rfl
            · exact fun _ _ _ => rfl
            · rfl
          | apply RGW.off (i := 3) rfl
            · (simp only [gA, gB, gC] <;> rfl)
            · intro γ u W hcur hd
              obtain ⟨⟨h2, -, -⟩, -⟩ := hd
              dsimp only at h2
              (try simp only [h2])
              simp [Region.wanted, yielded, undef, *]
            · rfl
          dsimp only [nA, cA]
          first
          | apply RGW.on (i := 4) rfl
            · (simp only [gA, gB, gC] <;> rfl)
            · intro γ u W hcur hd
              obtain ⟨⟨h2, -, -⟩, -⟩ := hd
              dsimp only at h2
              (try simp only [h2])
              refine ⟨?_, ?_⟩
              · (simp [Region.wanted, yielded, undef, *]; done)
              go_simp <;> (try go_bits) <;> with_reducible rfl
            · exact fun _ _ _ => rfl
            · rfl
          | apply RGW.off (i := 4) rfl
            · (simp only [gA, gB, gC] <;> rfl)
            · intro γ u W hcur hd
              obtain ⟨⟨h2, -, -⟩, -⟩ := hd
              dsimp only at h2
              (try simp only [h2])
              simp [Region.wanted, yielded, undef, *]
            · rfl
          dsimp only [nA, cA]
          first
          | apply RGW.on (i := 5) rfl
            · (simp only [gA, gB, gC] <;> rfl)
            · intro γ u W hcur hd
              obtain ⟨⟨h2, -, -⟩, ⟨h3, -, -⟩, ⟨h4, -, -⟩, -⟩ := hd
              dsimp only at h2 h3 h4
              (try simp only [h2, h3, h4])
              refine ⟨?_, ?_⟩
              · (simp [Region.wanted, yielded, undef, *]; done)
              go_simp <;> (try go_bits) <;> with_reducible rfl
            · exact fun _ _ _ => rfl
            · rfl
          | apply RGW.off (i := 5) rfl
            · (simp only [gA, gB, gC] <;> rfl)
            · intro γ u W hcur hd
              obtain ⟨⟨h2, -, -⟩, ⟨h3, -, -⟩, ⟨h4, -, -⟩, -⟩ := hd
              dsimp only at h2 h3 h4
              (try simp only [h2, h3, h4])
              simp [Region.wanted, yielded, undef, *]
            · rfl
          dsimp only [nA, cA]
          first
          | apply RGW.on (i := 6) rfl
            · (simp only [gA, gB, gC] <;> rfl)
            · intro γ u W hcur hd
              obtain ⟨⟨h2, -, -⟩, ⟨h5, -, -⟩, -⟩ := hd
              dsimp only at h2 h5
              (try simp only [h2, h5])
              refine ⟨?_, ?_⟩
              · (simp [Region.wanted, yielded, undef, *]; done)
              go_simp <;> (try go_bits) <;> with_reducible rfl
            · exact fun _ _ _ => rfl
            · rfl
          | apply RGW.off (i := 6) rfl
            · (simp only [gA, gB, gC] <;> rfl)
            · intro γ u W hcur hd
              obtain ⟨⟨h2, -, -⟩, ⟨h5, -, -⟩, -⟩ := hd
              dsimp only at h2 h5
              (try simp only [h2, h5])
              simp [Region.wanted, yielded, undef, *]
            · rfl
          dsimp only [nA, cA]
          first
          | apply RGW.on (i := 7) rfl
            · (simp only [gA, gB, gC] <;> rfl)
            · intro γ u W hcur hd
              obtain ⟨⟨h2, -, -⟩, -⟩ := hd
              dsimp only at h2
              (try simp only [h2])
              refine ⟨?_, ?_⟩
              · (simp [Region.wanted, yielded, undef, *]; done)
              go_simp <;> (try go_bits) <;> with_reducible rfl
            · exact fun _ _ _ => rfl
            · rfl
          | apply RGW.off (i := 7) rfl
            · (simp only [gA, gB, gC] <;> rfl)
            · intro γ u W hcur hd
              obtain ⟨⟨h2, -, -⟩, -⟩ := hd
              dsimp only at h2
              (try simp only [h2])
              simp [Region.wanted, yielded, undef, *]
            · rfl
          dsimp only [nA, cA]
          first
          | apply RGW.on (i := 8) rfl
            · (simp only [gA, gB, gC] <;> rfl)
            · intro γ u W hcur hd
              obtain ⟨⟨h2, -, -⟩, -⟩ := hd
              dsimp only at h2
              (try simp only [h2])
              refine ⟨?_, ?_⟩
              · (simp [Region.wanted, yielded, undef, *]; done)
              go_simp <;> (try go_bits) <;> with_reducible rfl
            · exact fun _ _ _ => rfl
            · rfl
          | apply RGW.off (i := 8) rfl
            · (simp only [gA, gB, gC] <;> rfl)
            · intro γ u W hcur hd
              obtain ⟨⟨h2, -, -⟩, -⟩ := hd
              dsimp only at h2
              (try simp only [h2])
              simp [Region.wanted, yielded, undef, *]
            · rfl
          dsimp only [nA, cA]
          first
          | apply RGW.on (i := 9) rfl
            · (simp only [gA, gB, gC] <;> rfl)
            · intro γ u W hcur hd
              obtain ⟨⟨h2, -, -⟩, ⟨h8, -, -⟩, -⟩ := hd
              dsimp only at h2 h8
              (try simp only [h2, h8])
              refine ⟨?_, ?_⟩
              · (simp [Region.wanted, yielded, undef, *]; done)
              go_simp <;> (try go_bits) <;> with_reducible rfl
            · exact fun _ _ _ => rfl
            · rfl
          | apply RGW.off (i := 9) rfl
            · (simp only [gA, gB, gC] <;> rfl)
            · intro γ u W hcur hd
              obtain ⟨⟨h2, -, -⟩, ⟨h8, -, -⟩, -⟩ := hd
              dsimp only at h2 h8
              (try simp only [h2, h8])
              simp [Region.wanted, yielded, undef, *]
            · rfl
          dsimp only [nA, cA]
          first
          | apply RGW.on (i := 10) rfl
            · (simp only [gA, gB, gC] <;> rfl)
            · intro γ u W hcur hd
              obtain ⟨⟨h2, -, -⟩, ⟨h7, -, -⟩, ⟨h9, -, -⟩, -⟩ := hd
              dsimp only at h2 h7 h9
              (try simp only [h2, h7, h9])
              refine ⟨?_, ?_⟩
              · (simp [Region.wanted, yielded, undef, *]; done)
              go_simp <;> (try go_bits) <;> with_reducible rfl
            · exact fun _ _ _ => rfl
            · rfl
          | apply RGW.off (i := 10) rfl
            · (simp only [gA, gB, gC] <;> rfl)
            · intro γ u W hcur hd
              obtain ⟨⟨h2, -, -⟩, ⟨h7, -, -⟩, ⟨h9, -, -⟩, -⟩ := hd
              dsimp only at h2 h7 h9
              (try simp only [h2, h7, h9])
              simp [Region.wanted, yielded, undef, *]
            · rfl
          dsimp only [nA, cA]
          first
          | apply RGW.on (i := 11) rfl
            · (simp only [gA, gB, gC] <;> rfl)
            · intro γ u W hcur hd
              obtain ⟨⟨h2, -, -⟩, ⟨h10, -, -⟩, -⟩ := hd
              dsimp only at h2 h10
              (try simp only [h2, h10])
              refine ⟨?_, ?_⟩
              · (simp [Region.wanted, yielded, undef, *]; done)
              go_simp <;> (try go_bits) <;> with_reducible rfl
            · exact fun _ _ _ => rfl
            · rfl
          | apply RGW.off (i := 11) rfl
            · (simp only [gA, gB, gC] <;> rfl)
            · intro γ u W hcur hd
              obtain ⟨⟨h2, -, -⟩, ⟨h10, -, -⟩, -⟩ := hd
              dsimp only at h2 h10
              (try simp only [h2, h10])
              simp [Region.wanted, yielded, undef, *]
            · rfl
          dsimp only [nA, cA]
          first
          | apply RGW.on (i := 12) rfl
            · (simp only [gA, gB, gC] <;> rfl)
            · intro γ u W hcur hd
              obtain ⟨⟨h2, -, -⟩, ⟨h6, -, -⟩, ⟨h11, -, -⟩, -⟩ := hd
              dsimp only at h2 h6 h11
              (try simp only [h2, h6, h11])
              refine ⟨?_, ?_⟩
              · (simp [Region.wanted, yielded, undef, *]; done)
              go_simp <;> (try go_bits) <;> with_reducible rfl
            · exact fun _ _ _ => rfl
            · rfl
          | apply RGW.off (i := 12) rfl
            · (simp only [gA, gB, gC] <;> rfl)
            · intro γ u W hcur hd
              obtain ⟨⟨h2, -, -⟩, ⟨h6, -, -⟩, ⟨h11, -, -⟩, -⟩ := hd
              dsimp only at h2 h6 h11
              (try simp only [h2, h6, h11])
              simp [Region.wanted, yielded, undef, *]
            · rfl
          dsimp only [nA, cA]
          apply RGW.on (i := 13) rfl
          · (simp only [gA, gB, gC] <;> rfl)
          · intro γ u W hcur hd
            obtain ⟨⟨h2, -, -⟩, ⟨h12, -, -⟩, -⟩ := hd
            dsimp only at h2 h12
            (try simp only [h2, h12])
            refine ⟨rfl, ?_⟩
            go_simp <;> (try go_bits) <;> with_reducible rfl
          · exact fun _ _ _ => rfl
          · rfl
          dsimp only [nA, cA]
          refine RGW.fin (fun γ u wj hwj hd hdis => ?_)
          obtain ⟨⟨h0, -, -⟩, ⟨h1, -, -⟩, ⟨h2, -, -⟩, ⟨h3, -, -⟩, ⟨h4, -, -⟩, ⟨h5, -, -⟩, ⟨h6, -, -⟩, ⟨h7, -, -⟩, ⟨h8, -, -⟩, ⟨h9, -, -⟩, ⟨h10, -, -⟩, ⟨h11, -, -⟩, ⟨h12, -, -⟩, ⟨h13, -, -⟩, -⟩ := hd
          dsimp only at h0 h1 h2 h3 h4 h5 h6 h7 h8 h9 h10 h11 h12 h13
          clear hdis
          simp only [h0, h1, h2, h3, h4, h5, h6, h7, h8, h9, h10, h11, h12, h13]
          clear h13 h12 h11 h10 h9 h8 h7 h6 h5 h4 h3 h2 h1 h0
          clear u
          simp only [List.map_nil]
          refine PlanW.done ?_
          have hb3 := bl_tt hwj
          have hbj := bl_tr hb0 hwj
          have kj := k0.below hwj
          by_cases hyx : y < x
          · have hi1 := Lib.hid (hnx.out (by rw [hh.out]; simp [unl, hyx]))
            have hle : ¬ x ≤ y := by omega
            clear hh hnx hno hheard hrest
            go_wp2
            go_roundw
            case rel => exact ⟨j + 2, by omega, by go_num, hbj, kj, hi1.out⟩
            case measure => simp [intOf]; omega
          · have hE : Hid (E = 9) := Lib.hid (by
              have e1 : hErr l (j + 1) x = 9 := by rw [hh.out]; simp [unl, hyx]
              have e := hno.out (by rw [e1]; decide)
              rw [e1] at e
              rw [hheard.out (by rw [e]; decide), e])
            have hle : x ≤ y := by omega
            clear hh hnx hno hheard hrest
            go_wp2
            go_ret
            exact ⟨by rw [hE.out] <;> rfl, hbj⟩
    · have e : k = n := by omega
      subst e
      have hz : (eachS (hErr l) l 0).2 = 0 := by rw [hi0.out, List.drop_of_length_le (by rw [Hn.out]; exact Nat.le_refl _)]; rfl
      have hr := hrest.out hz
      have L0 := k0.cell
      clear hheard hrest hz hi0
      cases hA : tickB lo
      · go_wp2_with (go_at_call 80; (with_reducible refine (hA ▸ r_IsTick lo _).mono ?_); rintro e w3 ⟨rfl, rfl⟩)
        go_ret
        exact ⟨by simp [hr, hA, fstE, unl], hb0⟩
      · cases hB : tickB hi
        · go_wp2_with (first | (go_at_call 80; (with_reducible refine (hA ▸ r_IsTick lo _).mono ?_); rintro e w3 ⟨rfl, rfl⟩) | (go_at_call 80; (with_reducible refine (hB ▸ r_IsTick hi _).mono ?_); rintro e w3 ⟨rfl, rfl⟩))
          go_ret
          exact ⟨by simp [hr, hA, hB, fstE, unl], hb0⟩
        · by_cases hlh : lo ≤ hi
          · cases hC : tickB t
            · go_wp2_with (first | (go_at_call 80; (with_reducible refine (hA ▸ r_IsTick lo _).mono ?_); rintro e w3 ⟨rfl, rfl⟩) | (go_at_call 80; (with_reducible refine (hB ▸ r_IsTick hi _).mono ?_); rintro e w3 ⟨rfl, rfl⟩) | (go_at_call 80; (with_reducible refine (hC ▸ r_IsTick t _).mono ?_); rintro e w3 ⟨rfl, rfl⟩))
              go_ret
              exact ⟨by simp [hr, hA, hB, hC, fstE, unl, hlh], hb0⟩
            · go_wp2_with (first | (go_at_call 80; (with_reducible refine (hA ▸ r_IsTick lo _).mono ?_); rintro e w3 ⟨rfl, rfl⟩) | (go_at_call 80; (with_reducible refine (hB ▸ r_IsTick hi _).mono ?_); rintro e w3 ⟨rfl, rfl⟩) | (go_at_call 80; (with_reducible refine (hC ▸ r_IsTick t _).mono ?_); rintro e w3 ⟨rfl, rfl⟩))
              go_ret
              exact ⟨by simp [hr, hA, hB, hC, fstE, unl, hlh], hb0⟩
          · go_wp2_with (first | (go_at_call 80; (with_reducible refine (hA ▸ r_IsTick lo _).mono ?_); rintro e w3 ⟨rfl, rfl⟩) | (go_at_call 80; (with_reducible refine (hB ▸ r_IsTick hi _).mono ?_); rintro e w3 ⟨rfl, rfl⟩))
            go_ret
            exact ⟨by simp [hr, hA, hB, fstE, unl, hlh], hb0⟩
end Go.Proofs.YtdlmkblmljhbfaaDoor
