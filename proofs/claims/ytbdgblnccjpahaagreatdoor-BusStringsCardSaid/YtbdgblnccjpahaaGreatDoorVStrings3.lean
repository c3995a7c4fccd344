/-
  Walks: which nets are valid, by the reference: names met before, ascending indexes.
-/
import Derived.Test.YtbdgblnccjpahaaGreatDoorVStrings2
import Derived.Test.YtbdgblnccjpahaaGreatDoorU12
import Derived.Test.YtbdgblnccjpahaaGreatDoorU8
import Derived.Test.YtbdgblnccjpahaaGreatDoorU4
set_option linter.unusedSimpArgs false
set_option linter.unusedVariables false
namespace Go.Proofs.YtbdgblnccjpahaaGreatDoor
open Go.RowKit Go.Shelf
attribute [local go_sem] bl_al bl_drew bl_drewN bl_refl bx_al bx_drew bx_drewN bx_refl
set_option maxRecDepth 20000
set_option maxHeartbeats 2000000 in
theorem r_HasText (l : List ByteArray) (s : ByteArray) (A : Option Addr) (c : Nat) (w : World) (hl : Sl cS 1 w A l) (hll : l.length ≤ 1000) :
    Calls Tryz.prog 133 #[.slice A l.length c, .string s] w (Same (.bool (knownB l s)) w) := by
  have Hl := Lib.hid hl
  have hst := Lib.hid fun (k : Nat) (x : ByteArray) (hx : l[k]? = some x) => (show knownB (l.drop k) s = ((x.toList == s.toList) || knownB (l.drop (k + 1)) s) by
    have hk' := (List.getElem?_eq_some_iff.1 hx).1
    unfold knownB
    rw [List.drop_eq_getElem_cons hk', (List.getElem?_eq_some_iff.1 hx).2, List.any_cons])
  have hen : Hid (knownB (l.drop l.length) s = false) := Lib.hid (by rw [List.drop_length]; rfl)
  obtain ⟨g, hg⟩ : ∃ g : Nat → Bool, ∀ k, knownB (l.drop k) s = g k := ⟨_, fun _ => rfl⟩
  have he0 : knownB l s = g 0 := by rw [← hg]; rfl
  rw [he0]
  simp only [hg] at hst hen
  clear hg he0 hl
  obtain ⟨n, Hn⟩ : ∃ n, Hid (l.length = n) := ⟨_, rfl⟩
  rw [Hn.out] at hen hll ⊢
  go_enter Tryz.func133, Tryz.ntmps133
  go_wp2
  go_loopw [5] (fun i wr => ∃ k : Nat, k ≤ n ∧ i = .int .i64 k ∧ w = wr ∧ g 0 = g k) (fun i _ => n - (intOf i).toNat)
  case atStart => exact ⟨0, Nat.zero_le _, rfl, rfl, rfl⟩
  case round =>
    obtain ⟨k, hk, rfl, rfl, hi⟩ := hrel
    replace hi := Lib.hid hi
    by_cases hlt : k < n
    · have hx : l[k]? = some (l[k]'(by rw [Hn.out]; exact hlt)) := List.getElem?_eq_getElem _
      generalize l[k]'(by rw [Hn.out]; exact hlt) = y at hx
      obtain ⟨b, off, rfl, hc⟩ := Hl.out k y hx
      have c0 : w.cell? ⟨b, off + k, none⟩ = some (.string y) := by simpa using hc 0 _ rfl
      have hd := Lib.hid (hst.out k y hx)
      clear hc hx
      cases hyx : y.toList == s.toList
      · have e2 := Lib.hid (show g 0 = g (k + 1) by rw [hi.out, hd.out, hyx, Bool.false_or])
        go_wp2
        go_roundw
        case rel => exact ⟨k + 1, by omega, by go_num, by trivial, e2.out⟩
        case measure => simp [intOf]; omega
      · have e2 := Lib.hid (show g 0 = true by rw [hi.out, hd.out, hyx, Bool.true_or])
        go_wp2
        go_ret
        exact ⟨by rw [e2.out] <;> rfl, rfl⟩
    · obtain rfl : k = n := by omega
      have e2 := Lib.hid (hi.out.trans hen.out)
      go_wp2
      go_ret
      exact ⟨by rw [e2.out] <;> rfl, rfl⟩
def ixErr (l : List Int) (ct : Int) (k : Nat) (n : Int) : Int := fstE [unl (inR n 0 (ct - 1)) 6, unl (decide (prevI l k < n)) 9]
theorem idxErr_eq (l : List Int) (ct : Int) : idxErr l ct = (eachS (ixErr l ct) l 0).2 := rfl
set_option maxHeartbeats 8000000 in
theorem r_IndexesErrL (l : List Int) (ct : Int) (A : Option Addr) (c : Nat) (w : World) (hs : Sl cI 1 w A l) (hl : l.length ≤ maxLen) (hc : 0 ≤ ct ∧ ct ≤ 1000000) :
    Calls Tryz.prog 134 #[.slice A l.length c, .int .i64 ct] w (Ret (.int .i64 (idxErr l ct)) w) := by
  have Hs := Lib.hid hs
  unfold maxLen at hl
  rw [idxErr_eq]
  obtain ⟨hc0, hc1⟩ := hc
  obtain ⟨n, Hn⟩ : ∃ n, Hid (l.length = n) := ⟨_, rfl⟩
  rw [Hn.out] at hl ⊢
  clear hs
  go_enter Tryz.func134, Tryz.ntmps134
  go_wp2
  go_loopw [5] (fun i wr => ∃ k : Nat, k ≤ n ∧ i = .int .i64 k ∧ Below w.heap.size w wr ∧ eachS (ixErr l ct) l 0 = eachS (ixErr l ct) (l.drop k) k) (fun i _ => n - (intOf i).toNat)
  case atStart => exact ⟨0, Nat.zero_le _, rfl, bl_refl _, rfl⟩
  case round =>
    obtain ⟨k, hk, rfl, hb0, hi0⟩ := hrel
    replace hi0 := Lib.hid hi0
    by_cases hkn : k < n
    · have hx : l[k]? = some (l[k]'(by rw [Hn.out]; exact hkn)) := List.getElem?_eq_getElem _
      generalize l[k]'(by rw [Hn.out]; exact hkn) = x at hx
      have hd := Lib.hid (eachS_drop (ixErr l ct) l k x hx)
      obtain ⟨b, off, rfl, hc⟩ := Hs.out k x hx
      have c0 : ∀ W, Below wr.heap.size wr W → W.cell? ⟨b, off + k, none⟩ = some (.int .i64 x) := later (by have := kcell hb0 (hc 0 _ rfl); simpa using this)
      clear hc
      cases hT : inR x 0 (ct - 1)
      · have hh : ixErr l ct k x = 6 := by simp [ixErr, hT, fstE, unl]
        have hE : Hid ((eachS (ixErr l ct) l 0).2 = 6) := Lib.hid (by rw [hi0.out, hd.out, hh]; rfl)
        clear hi0 hd hh
        have c0' := c0 wr (bl_refl _)
        go_wp2_with (go_at_call 12; (with_reducible refine (hT ▸ r_Within x 0 (ct - 1) _).mono ?_); rintro e w3 ⟨rfl, rfl⟩)
        go_ret
        exact ⟨by rw [hE.out] <;> rfl, hb0⟩
      · have hx0 : 0 ≤ x := by simp [inR] at hT; omega
        have c0' := c0 wr (bl_refl _)
        go_upto_region 6 with (go_at_call 12; (with_reducible refine (hT ▸ r_Within x 0 (ct - 1) _).mono ?_); rintro e w3 ⟨rfl, rfl⟩)
        clear c0'
        by_cases hk0 : k = 0
        · subst hk0
          have hh : ixErr l ct 0 x = 0 := by simp [ixErr, hT, fstE, unl, prevI]; omega
          have hi1 := Lib.hid (show eachS (ixErr l ct) l 0 = eachS (ixErr l ct) (l.drop 1) 1 by rw [hi0.out, hd.out, if_pos hh])
          clear hi0 hd hh
          refine wp_any (w0 := wr) ⟨[], [], [some 20, some 21, some 22, some 23, some 24, some 25, some 26, some 27, some 28, some 29, some 30, some 31, some 32, some 33], [[], [0], [0, 1], [0, 1, 2], [0, 1, 2], [0, 1, 2, 3, 4], [0, 1, 2, 3, 4, 5], [0, 1, 2], [0, 1, 2], [0, 1, 2, 8], [0, 1, 2, 7, 8, 9], [0, 1, 2, 7, 8, 9, 10], [0, 1, 2, 3, 4, 5, 6, 7, 8, 9, 10, 11], [0, 1, 2, 3, 4, 5, 6, 7, 8, 9, 10, 11, 12]], [[], [0], [1], [2], [2], [2, 3, 4], [2, 5], [2], [2], [2, 8], [2, 7, 9], [2, 10], [2, 6, 11], [2, 12]]⟩ (fun _ => []) (by kernel_rfl) (by kernel_rfl) (by (exact zE)) (fun u => by simp only [putD, Act.put, List.setIfInBounds_toArray, List.set_cons_zero, List.set_cons_succ, Nat.zero_add, Nat.reduceAdd]; rfl) ?_
          apply RGW.on (i := 0) rfl
          · exact zG
          · intro γ u W hcur hd
            clear hd
            (try dsimp only)
            exact ⟨rfl, zS⟩
          · exact zC
          · rfl
          dsimp only [nA, cA]
          apply RGW.on (i := 1) rfl
          · exact zG
          · intro γ u W hcur hd
            obtain ⟨⟨h0, -, -⟩, -⟩ := hd
            dsimp only at h0
            (try simp only [h0])
            exact ⟨rfl, zS⟩
          · exact zC
          · rfl
          dsimp only [nA, cA]
          apply RGW.on (i := 2) rfl
          · exact zG
          · intro γ u W hcur hd
            obtain ⟨⟨h1, -, -⟩, -⟩ := hd
            dsimp only at h1
            (try simp only [h1])
            exact ⟨rfl, zS⟩
          · exact zC
          · rfl
          dsimp only [nA, cA]
          first
          | apply RGW.on (i := 3) rfl
            · exact zG
            · intro γ u W hcur hd
              obtain ⟨⟨h2, -, -⟩, -⟩ := hd
              dsimp only at h2
              (try simp only [h2])
              refine ⟨?_, ?_⟩
              · (simp [Region.wanted, yielded, undef, *]; done)
              exact zS
            · exact zC
            · rfl
          | apply RGW.off (i := 3) rfl
            · exact zG
            · intro γ u W hcur hd
              obtain ⟨⟨h2, -, -⟩, -⟩ := hd
              dsimp only at h2
              (try simp only [h2])
              simp [Region.wanted, yielded, undef, *]
            · rfl
          dsimp only [nA, cA]
          first
          | apply RGW.on (i := 4) rfl
            · exact zG
            · intro γ u W hcur hd
              obtain ⟨⟨h2, -, -⟩, -⟩ := hd
              dsimp only at h2
              (try simp only [h2])
              refine ⟨?_, ?_⟩
              · (simp [Region.wanted, yielded, undef, *]; done)
              exact zS
            · exact zC
            · rfl
          | apply RGW.off (i := 4) rfl
            · exact zG
            · intro γ u W hcur hd
              obtain ⟨⟨h2, -, -⟩, -⟩ := hd
              dsimp only at h2
              (try simp only [h2])
              simp [Region.wanted, yielded, undef, *]
            · rfl
          dsimp only [nA, cA]
          first
          | apply RGW.on (i := 5) rfl
            · exact zG
            · intro γ u W hcur hd
              obtain ⟨⟨h2, -, -⟩, ⟨h3, -, -⟩, ⟨h4, -, -⟩, -⟩ := hd
              dsimp only at h2 h3 h4
              (try simp only [h2, h3, h4])
              refine ⟨?_, ?_⟩
              · (simp [Region.wanted, yielded, undef, *]; done)
              exact zS
            · exact zC
            · rfl
          | apply RGW.off (i := 5) rfl
            · exact zG
            · intro γ u W hcur hd
              obtain ⟨⟨h2, -, -⟩, ⟨h3, -, -⟩, ⟨h4, -, -⟩, -⟩ := hd
              dsimp only at h2 h3 h4
              (try simp only [h2, h3, h4])
              simp [Region.wanted, yielded, undef, *]
            · rfl
          dsimp only [nA, cA]
          first
          | apply RGW.on (i := 6) rfl
            · exact zG
            · intro γ u W hcur hd
              obtain ⟨⟨h2, -, -⟩, ⟨h5, -, -⟩, -⟩ := hd
              dsimp only at h2 h5
              (try simp only [h2, h5])
              refine ⟨?_, ?_⟩
              · (simp [Region.wanted, yielded, undef, *]; done)
              exact zS
            · exact zC
            · rfl
          | apply RGW.off (i := 6) rfl
            · exact zG
            · intro γ u W hcur hd
              obtain ⟨⟨h2, -, -⟩, ⟨h5, -, -⟩, -⟩ := hd
              dsimp only at h2 h5
              (try simp only [h2, h5])
              simp [Region.wanted, yielded, undef, *]
            · rfl
          dsimp only [nA, cA]
          first
          | apply RGW.on (i := 7) rfl
            · exact zG
            · intro γ u W hcur hd
              obtain ⟨⟨h2, -, -⟩, -⟩ := hd
              dsimp only at h2
              (try simp only [h2])
              refine ⟨?_, ?_⟩
              · (simp [Region.wanted, yielded, undef, *]; done)
              exact zS
            · exact zC
            · rfl
          | apply RGW.off (i := 7) rfl
            · exact zG
            · intro γ u W hcur hd
              obtain ⟨⟨h2, -, -⟩, -⟩ := hd
              dsimp only at h2
              (try simp only [h2])
              simp [Region.wanted, yielded, undef, *]
            · rfl
          dsimp only [nA, cA]
          first
          | apply RGW.on (i := 8) rfl
            · exact zG
            · intro γ u W hcur hd
              obtain ⟨⟨h2, -, -⟩, -⟩ := hd
              dsimp only at h2
              (try simp only [h2])
              refine ⟨?_, ?_⟩
              · (simp [Region.wanted, yielded, undef, *]; done)
              exact zS
            · exact zC
            · rfl
          | apply RGW.off (i := 8) rfl
            · exact zG
            · intro γ u W hcur hd
              obtain ⟨⟨h2, -, -⟩, -⟩ := hd
              dsimp only at h2
              (try simp only [h2])
              simp [Region.wanted, yielded, undef, *]
            · rfl
          dsimp only [nA, cA]
          first
          | apply RGW.on (i := 9) rfl
            · exact zG
            · intro γ u W hcur hd
              obtain ⟨⟨h2, -, -⟩, ⟨h8, -, -⟩, -⟩ := hd
              dsimp only at h2 h8
              (try simp only [h2, h8])
              refine ⟨?_, ?_⟩
              · (simp [Region.wanted, yielded, undef, *]; done)
              exact zS
            · exact zC
            · rfl
          | apply RGW.off (i := 9) rfl
            · exact zG
            · intro γ u W hcur hd
              obtain ⟨⟨h2, -, -⟩, ⟨h8, -, -⟩, -⟩ := hd
              dsimp only at h2 h8
              (try simp only [h2, h8])
              simp [Region.wanted, yielded, undef, *]
            · rfl
          dsimp only [nA, cA]
          first
          | apply RGW.on (i := 10) rfl
            · exact zG
            · intro γ u W hcur hd
              obtain ⟨⟨h2, -, -⟩, ⟨h7, -, -⟩, ⟨h9, -, -⟩, -⟩ := hd
              dsimp only at h2 h7 h9
              (try simp only [h2, h7, h9])
              refine ⟨?_, ?_⟩
              · (simp [Region.wanted, yielded, undef, *]; done)
              exact zS
            · exact zC
            · rfl
          | apply RGW.off (i := 10) rfl
            · exact zG
            · intro γ u W hcur hd
              obtain ⟨⟨h2, -, -⟩, ⟨h7, -, -⟩, ⟨h9, -, -⟩, -⟩ := hd
              dsimp only at h2 h7 h9
              (try simp only [h2, h7, h9])
              simp [Region.wanted, yielded, undef, *]
            · rfl
          dsimp only [nA, cA]
          first
          | apply RGW.on (i := 11) rfl
            · exact zG
            · intro γ u W hcur hd
              obtain ⟨⟨h2, -, -⟩, ⟨h10, -, -⟩, -⟩ := hd
              dsimp only at h2 h10
              (try simp only [h2, h10])
              refine ⟨?_, ?_⟩
              · (simp [Region.wanted, yielded, undef, *]; done)
              exact zS
            · exact zC
            · rfl
          | apply RGW.off (i := 11) rfl
            · exact zG
            · intro γ u W hcur hd
              obtain ⟨⟨h2, -, -⟩, ⟨h10, -, -⟩, -⟩ := hd
              dsimp only at h2 h10
              (try simp only [h2, h10])
              simp [Region.wanted, yielded, undef, *]
            · rfl
          dsimp only [nA, cA]
          first
          | apply RGW.on (i := 12) rfl
            · exact zG
            · intro γ u W hcur hd
              obtain ⟨⟨h2, -, -⟩, ⟨h6, -, -⟩, ⟨h11, -, -⟩, -⟩ := hd
              dsimp only at h2 h6 h11
              (try simp only [h2, h6, h11])
              refine ⟨?_, ?_⟩
              · (simp [Region.wanted, yielded, undef, *]; done)
              exact zS
            · exact zC
            · rfl
          | apply RGW.off (i := 12) rfl
            · exact zG
            · intro γ u W hcur hd
              obtain ⟨⟨h2, -, -⟩, ⟨h6, -, -⟩, ⟨h11, -, -⟩, -⟩ := hd
              dsimp only at h2 h6 h11
              (try simp only [h2, h6, h11])
              simp [Region.wanted, yielded, undef, *]
            · rfl
          dsimp only [nA, cA]
          apply RGW.on (i := 13) rfl
          · exact zG
          · intro γ u W hcur hd
            obtain ⟨⟨h2, -, -⟩, ⟨h12, -, -⟩, -⟩ := hd
            dsimp only at h2 h12
            (try simp only [h2, h12])
            exact ⟨rfl, zS⟩
          · exact zC
          · rfl
          dsimp only [nA, cA]
          refine RGW.fin (fun γ u wj hwj hd hdis => ?_)
          obtain ⟨⟨h0, -, -⟩, ⟨h1, -, -⟩, ⟨h2, -, -⟩, ⟨h3, -, -⟩, ⟨h4, -, -⟩, ⟨h5, -, -⟩, ⟨h6, -, -⟩, ⟨h7, -, -⟩, ⟨h8, -, -⟩, ⟨h9, -, -⟩, ⟨h10, -, -⟩, ⟨h11, -, -⟩, ⟨h12, -, -⟩, ⟨h13, -, -⟩, -⟩ := hd
          dsimp only at h0 h1 h2 h3 h4 h5 h6 h7 h8 h9 h10 h11 h12 h13
          clear hdis
          simp only [h0, h1, h2, h3, h4, h5, h6, h7, h8, h9, h10, h11, h12, h13]
          clear h13 h12 h11 h10 h9 h8 h7 h6 h5 h4 h3 h2 h1 h0
          clear u
          simp only [List.map_nil]
          refine PlanW.done ?_
          have hb3 := bl_tt hwj
          have hbj := bl_tr hb0 hwj
          go_wp2
          go_roundw
          case rel => exact ⟨1, by omega, by go_num, hbj, hi1.out⟩
          case measure => simp [intOf]; omega
        · obtain ⟨j, rfl⟩ : ∃ j, k = j + 1 := ⟨k - 1, by omega⟩
          have hy : l[j]? = some (l[j]'(by rw [Hn.out]; omega)) := List.getElem?_eq_getElem _
          generalize l[j]'(by rw [Hn.out]; omega) = y at hy
          obtain ⟨b2, off2, e2, hc⟩ := Hs.out j y hy
          injection e2 with e2
          injection e2 with e2 e3 _
          subst e2 e3
          have c1 : ∀ W, Below wr.heap.size wr W → W.cell? ⟨b, off + j, none⟩ = some (.int .i64 y) := later (by have := kcell hb0 (hc 0 _ rfl); simpa using this)
          have hp : prevI l (j + 1) = y := by simp [prevI, hy]
          have hh : ixErr l ct (j + 1) x = unl (decide (y < x)) 9 := by
            unfold ixErr
            rw [hp, hT]
            by_cases h : y < x <;> simp [fstE, unl, h]
          have hnx := Lib.hid fun h : ixErr l ct (j + 1) x = 0 => (show eachS (ixErr l ct) l 0 = eachS (ixErr l ct) (l.drop (j + 2)) (j + 2) by rw [hi0.out, hd.out, if_pos h])
          have hno := Lib.hid fun h : ixErr l ct (j + 1) x ≠ 0 => (show (eachS (ixErr l ct) l 0).2 = ixErr l ct (j + 1) x by rw [hi0.out, hd.out, if_neg h])
          replace hh := Lib.hid hh
          have hj0 : (0 : Int) < (j : Int) + 1 := by omega
          have hjn : j < n := by omega
          have hj1 : (j : Int) + 1 < n := by omega
          have hj2 : ((j + 1 : Nat) : Int) < n := by omega
          have hj3 : (j : Int) < n := by omega
          have hj4 : (0 : Int) ≤ (j : Int) + 1 := by omega
          clear hi0 hd hc hp hx hy hT
          refine wp_any (w0 := wr) ⟨[], [], [some 20, some 21, some 22, some 23, some 24, some 25, some 26, some 27, some 28, some 29, some 30, some 31, some 32, some 33], [[], [0], [0, 1], [0, 1, 2], [0, 1, 2], [0, 1, 2, 3, 4], [0, 1, 2, 3, 4, 5], [0, 1, 2], [0, 1, 2], [0, 1, 2, 8], [0, 1, 2, 7, 8, 9], [0, 1, 2, 7, 8, 9, 10], [0, 1, 2, 3, 4, 5, 6, 7, 8, 9, 10, 11], [0, 1, 2, 3, 4, 5, 6, 7, 8, 9, 10, 11, 12]], [[], [0], [1], [2], [2], [2, 3, 4], [2, 5], [2], [2], [2, 8], [2, 7, 9], [2, 10], [2, 6, 11], [2, 12]]⟩ (fun _ => []) (by kernel_rfl) (by kernel_rfl) (by (exact zE)) (fun u => by simp only [putD, Act.put, List.setIfInBounds_toArray, List.set_cons_zero, List.set_cons_succ, Nat.zero_add, Nat.reduceAdd]; rfl) ?_
          apply RGW.on (i := 0) rfl
          · exact zG
          · intro γ u W hcur hd
            clear hd
            (try dsimp only)
            exact ⟨rfl, zS⟩
          · exact zC
          · rfl
          dsimp only [nA, cA]
          apply RGW.on (i := 1) rfl
          · exact zG
          · intro γ u W hcur hd
            obtain ⟨⟨h0, -, -⟩, -⟩ := hd
            dsimp only at h0
            (try simp only [h0])
            exact ⟨rfl, zS⟩
          · exact zC
          · rfl
          dsimp only [nA, cA]
          apply RGW.on (i := 2) rfl
          · exact zG
          · intro γ u W hcur hd
            obtain ⟨⟨h1, -, -⟩, -⟩ := hd
            dsimp only at h1
            (try simp only [h1])
            exact ⟨rfl, zS⟩
          · exact zC
          · rfl
          dsimp only [nA, cA]
          first
          | apply RGW.on (i := 3) rfl
            · exact zG
            · intro γ u W hcur hd
              obtain ⟨⟨h2, -, -⟩, -⟩ := hd
              dsimp only at h2
              (try simp only [h2])
              refine ⟨?_, ?_⟩
              · (simp [Region.wanted, yielded, undef, *]; done)
              exact zS
            · exact zC
            · rfl
          | apply RGW.off (i := 3) rfl
            · exact zG
            · intro γ u W hcur hd
              obtain ⟨⟨h2, -, -⟩, -⟩ := hd
              dsimp only at h2
              (try simp only [h2])
              simp [Region.wanted, yielded, undef, *]
            · rfl
          dsimp only [nA, cA]
          first
          | apply RGW.on (i := 4) rfl
            · exact zG
            · intro γ u W hcur hd
              obtain ⟨⟨h2, -, -⟩, -⟩ := hd
              dsimp only at h2
              (try simp only [h2])
              refine ⟨?_, ?_⟩
              · (simp [Region.wanted, yielded, undef, *]; done)
              exact zS
            · exact zC
            · rfl
          | apply RGW.off (i := 4) rfl
            · exact zG
            · intro γ u W hcur hd
              obtain ⟨⟨h2, -, -⟩, -⟩ := hd
              dsimp only at h2
              (try simp only [h2])
              simp [Region.wanted, yielded, undef, *]
            · rfl
          dsimp only [nA, cA]
          first
          | apply RGW.on (i := 5) rfl
            · exact zG
            · intro γ u W hcur hd
              obtain ⟨⟨h2, -, -⟩, ⟨h3, -, -⟩, ⟨h4, -, -⟩, -⟩ := hd
              dsimp only at h2 h3 h4
              (try simp only [h2, h3, h4])
              refine ⟨?_, ?_⟩
              · (simp [Region.wanted, yielded, undef, *]; done)
              exact zS
            · exact zC
            · rfl
          | apply RGW.off (i := 5) rfl
            · exact zG
            · intro γ u W hcur hd
              obtain ⟨⟨h2, -, -⟩, ⟨h3, -, -⟩, ⟨h4, -, -⟩, -⟩ := hd
              dsimp only at h2 h3 h4
              (try simp only [h2, h3, h4])
              simp [Region.wanted, yielded, undef, *]
            · rfl
          dsimp only [nA, cA]
          first
          | apply RGW.on (i := 6) rfl
            · exact zG
            · intro γ u W hcur hd
              obtain ⟨⟨h2, -, -⟩, ⟨h5, -, -⟩, -⟩ := hd
              dsimp only at h2 h5
              (try simp only [h2, h5])
              refine ⟨?_, ?_⟩
              · (simp [Region.wanted, yielded, undef, *]; done)
              exact zS
            · exact zC
            · rfl
          | apply RGW.off (i := 6) rfl
            · exact zG
            · intro γ u W hcur hd
              obtain ⟨⟨h2, -, -⟩, ⟨h5, -, -⟩, -⟩ := hd
              dsimp only at h2 h5
              (try simp only [h2, h5])
              simp [Region.wanted, yielded, undef, *]
            · rfl
          dsimp only [nA, cA]
          first
          | apply RGW.on (i := 7) rfl
            · exact zG
            · intro γ u W hcur hd
              obtain ⟨⟨h2, -, -⟩, -⟩ := hd
              dsimp only at h2
              (try simp only [h2])
              refine ⟨?_, ?_⟩
              · (simp [Region.wanted, yielded, undef, *]; done)
              exact zS
            · exact zC
            · rfl
          | apply RGW.off (i := 7) rfl
            · exact zG
            · intro γ u W hcur hd
              obtain ⟨⟨h2, -, -⟩, -⟩ := hd
              dsimp only at h2
              (try simp only [h2])
              simp [Region.wanted, yielded, undef, *]
            · rfl
          dsimp only [nA, cA]
          first
          | apply RGW.on (i := 8) rfl
            · exact zG
            · intro γ u W hcur hd
              obtain ⟨⟨h2, -, -⟩, -⟩ := hd
              dsimp only at h2
              (try simp only [h2])
              refine ⟨?_, ?_⟩
              · (simp [Region.wanted, yielded, undef, *]; done)
              exact zS
            · exact zC
            · rfl
          | apply RGW.off (i := 8) rfl
            · exact zG
            · intro γ u W hcur hd
              obtain ⟨⟨h2, -, -⟩, -⟩ := hd
              dsimp only at h2
              (try simp only [h2])
              simp [Region.wanted, yielded, undef, *]
            · rfl
          dsimp only [nA, cA]
          first
          | apply RGW.on (i := 9) rfl
            · exact zG
            · intro γ u W hcur hd
              obtain ⟨⟨h2, -, -⟩, ⟨h8, -, -⟩, -⟩ := hd
              dsimp only at h2 h8
              (try simp only [h2, h8])
              refine ⟨?_, ?_⟩
              · (simp [Region.wanted, yielded, undef, *]; done)
              exact zS
            · exact zC
            · rfl
          | apply RGW.off (i := 9) rfl
            · exact zG
            · intro γ u W hcur hd
              obtain ⟨⟨h2, -, -⟩, ⟨h8, -, -⟩, -⟩ := hd
              dsimp only at h2 h8
              (try simp only [h2, h8])
              simp [Region.wanted, yielded, undef, *]
            · rfl
          dsimp only [nA, cA]
          first
          | apply RGW.on (i := 10) rfl
            · exact zG
            · intro γ u W hcur hd
              obtain ⟨⟨h2, -, -⟩, ⟨h7, -, -⟩, ⟨h9, -, -⟩, -⟩ := hd
              dsimp only at h2 h7 h9
              (try simp only [h2, h7, h9])
              refine ⟨?_, ?_⟩
              · (simp [Region.wanted, yielded, undef, *]; done)
              exact zS
            · exact zC
            · rfl
          | apply RGW.off (i := 10) rfl
            · exact zG
            · intro γ u W hcur hd
              obtain ⟨⟨h2, -, -⟩, ⟨h7, -, -⟩, ⟨h9, -, -⟩, -⟩ := hd
              dsimp only at h2 h7 h9
              (try simp only [h2, h7, h9])
              simp [Region.wanted, yielded, undef, *]
            · rfl
          dsimp only [nA, cA]
          first
          | apply RGW.on (i := 11) rfl
            · exact zG
            · intro γ u W hcur hd
              obtain ⟨⟨h2, -, -⟩, ⟨h10, -, -⟩, -⟩ := hd
              dsimp only at h2 h10
              (try simp only [h2, h10])
              refine ⟨?_, ?_⟩
              · (simp [Region.wanted, yielded, undef, *]; done)
              exact zS
            · exact zC
            · rfl
          | apply RGW.off (i := 11) rfl
            · exact zG
            · intro γ u W hcur hd
              obtain ⟨⟨h2, -, -⟩, ⟨h10, -, -⟩, -⟩ := hd
              dsimp only at h2 h10
              (try simp only [h2, h10])
              simp [Region.wanted, yielded, undef, *]
            · rfl
          dsimp only [nA, cA]
          first
          | apply RGW.on (i := 12) rfl
            · exact zG
            · intro γ u W hcur hd
              obtain ⟨⟨h2, -, -⟩, ⟨h6, -, -⟩, ⟨h11, -, -⟩, -⟩ := hd
              dsimp only at h2 h6 h11
              (try simp only [h2, h6, h11])
              refine ⟨?_, ?_⟩
              · (simp [Region.wanted, yielded, undef, *]; done)
              exact zS
            · exact zC
            · rfl
          | apply RGW.off (i := 12) rfl
            · exact zG
            · intro γ u W hcur hd
              obtain ⟨⟨h2, -, -⟩, ⟨h6, -, -⟩, ⟨h11, -, -⟩, -⟩ := hd
              dsimp only at h2 h6 h11
              (try simp only [h2, h6, h11])
              simp [Region.wanted, yielded, undef, *]
            · rfl
          dsimp only [nA, cA]
          apply RGW.on (i := 13) rfl
          · exact zG
          · intro γ u W hcur hd
            obtain ⟨⟨h2, -, -⟩, ⟨h12, -, -⟩, -⟩ := hd
            dsimp only at h2 h12
            (try simp only [h2, h12])
            exact ⟨rfl, zS⟩
          · exact zC
          · rfl
          dsimp only [nA, cA]
          refine RGW.fin (fun γ u wj hwj hd hdis => ?_)
          obtain ⟨⟨h0, -, -⟩, ⟨h1, -, -⟩, ⟨h2, -, -⟩, ⟨h3, -, -⟩, ⟨h4, -, -⟩, ⟨h5, -, -⟩, ⟨h6, -, -⟩, ⟨h7, -, -⟩, ⟨h8, -, -⟩, ⟨h9, -, -⟩, ⟨h10, -, -⟩, ⟨h11, -, -⟩, ⟨h12, -, -⟩, ⟨h13, -, -⟩, -⟩ := hd
          dsimp only at h0 h1 h2 h3 h4 h5 h6 h7 h8 h9 h10 h11 h12 h13
          clear hdis
          simp only [h0, h1, h2, h3, h4, h5, h6, h7, h8, h9, h10, h11, h12, h13]
          clear h13 h12 h11 h10 h9 h8 h7 h6 h5 h4 h3 h2 h1 h0
          clear u
          simp only [List.map_nil]
          refine PlanW.done ?_
          have hb3 := bl_tt hwj
          have hbj := bl_tr hb0 hwj
          by_cases hyx : y < x
          · have hi1 := Lib.hid (hnx.out (by rw [hh.out]; simp [unl, hyx]))
            have hle : ¬ x ≤ y := by omega
            clear hh hnx hno
            go_wp2
            go_roundw
            case rel => exact ⟨j + 2, by omega, by go_num, hbj, hi1.out⟩
            case measure => simp [intOf]; omega
          · have hE : Hid ((eachS (ixErr l ct) l 0).2 = 9) := Lib.hid (by
              have e1 : ixErr l ct (j + 1) x = 9 := by rw [hh.out]; simp [unl, hyx]
              have e := hno.out (by rw [e1]; decide)
              rw [e, e1])
            have hle : x ≤ y := by omega
            clear hh hnx hno
            go_wp2
            go_ret
            exact ⟨by rw [hE.out] <;> rfl, hbj⟩
    · have e : k = n := by omega
      subst e
      have hz := Lib.hid (show (eachS (ixErr l ct) l 0).2 = 0 by rw [hi0.out, List.drop_of_length_le (by rw [Hn.out]; exact Nat.le_refl _)]; rfl)
      go_wp2
      go_ret
      exact ⟨by rw [hz.out] <;> rfl, hb0⟩
end Go.Proofs.YtbdgblnccjpahaaGreatDoor
