/-
  Walk: the reference's string of streams.
  Walk: the law on strings.
  What the library's variables hold, out of a row's condition.
  How the laws' arguments read, continued: numbers that are the machine's.
-/
import Derived.Test.YtbdgblnccjpahaaGreatDoorVStrings6
import Derived.Test.YtbdgblnccjpahaaGreatDoorVStrings9
import Derived.Test.YtbdgblnccjpahaaGreatDoorVStrings5
import Derived.Test.YtbdgblnccjpahaaGreatDoorVStrings2
import Derived.Test.YtbdgblnccjpahaaGreatDoorU5
set_option linter.unusedSimpArgs false
set_option linter.unusedVariables false
namespace Go.Proofs.YtbdgblnccjpahaaGreatDoor
open Go.RowKit Go.Shelf
attribute [local go_sem] bl_al bl_drew bl_drewN bl_refl bx_al bx_drew bx_drewN bx_refl
set_option maxRecDepth 20000
set_option maxHeartbeats 4000000 in
theorem r_FormatStreams (l : List Sm) (A : Option Addr) (c : Nat) (w : World) (hs : Sl cSm 4 w A l) (hl : l.length ≤ 1000) (hn : ∀ s ∈ l, s.name.size ≤ 1000 ∧ Fits s.per ∧ Fits s.dl ∧ Fits s.len) :
    Calls Tryz.prog 53 #[.slice A l.length c] w (Ret (.string ⟨(fmtSms l).toArray⟩) w) := by
  have Hs := Lib.hid hs
  have hD := Lib.hid fun (s : Sm) (hm : s ∈ l) n (hn' : n = s.per ∨ n = s.dl ∨ n = s.len) W => r_Decimal n (by
    obtain ⟨h0, h1, h2, h3⟩ := hn s hm
    rcases hn' with rfl | rfl | rfl
    · exact h1
    · exact h2
    · exact h3) W
  have hsz := Lib.hid fun (s : Sm) (hm : s ∈ l) => (show s.name.size ≤ 1000 ∧ (Lib.itoa s.per).length ≤ 21 ∧ (Lib.itoa s.dl).length ≤ 21 ∧ (Lib.itoa s.len).length ≤ 21 by
    obtain ⟨h0, h1, h2, h3⟩ := hn s hm
    exact ⟨h0, Lib.itoa_length_le _ h1.1 h1.2, Lib.itoa_length_le _ h2.1 h2.2, Lib.itoa_length_le _ h3.1 h3.2⟩)
  have h0 : Hid (Lib.join ((l.take 0).map fmtSm) [59] = []) := rfl
  have hst := Lib.hid fun k s (h : l[k]? = some s) => (show Lib.join ((l.take (k + 1)).map fmtSm) [59] = (if k = 0 then [] else Lib.join ((l.take k).map fmtSm) [59] ++ [59]) ++ fmtSm s by
    have hk := (List.getElem?_eq_some_iff.1 h).1
    have e : (l.take (k + 1)).map fmtSm = (l.take k).map fmtSm ++ [fmtSm s] := by rw [List.take_add_one, h]; simp
    rw [e, join_snoc]
    by_cases h0 : k = 0
    · subst h0; rfl
    · rw [if_neg h0, if_neg]
      intro h2
      have h3 : ((l.take k).map fmtSm).length = 0 := by rw [h2]; rfl
      rw [List.length_map, List.length_take] at h3
      omega)
  have hlen := Lib.hid fun k (hk : k ≤ l.length) => (show (Lib.join ((l.take k).map fmtSm) [59]).length ≤ 1000 * 2001 by
    have := join_len ((l.take k).map fmtSm) [59] 2000 (fun x hx => by
      obtain ⟨s, hs, rfl⟩ := List.mem_map.1 hx
      obtain ⟨h0, h1, h2, h3⟩ := hn s (List.mem_of_mem_take hs)
      exact fmtSm_len s h0 h1 h2 h3)
    rw [List.length_map, List.length_take] at this
    simp only [List.length_singleton] at this
    have h9 : min k l.length * 2001 ≤ 1000 * 2001 := Nat.mul_le_mul_right _ (by omega)
    omega)
  have hfm : Hid (∀ s : Sm, fmtSm s = s.name.data.toList ++ [32] ++ Lib.itoa s.per ++ [32] ++ Lib.itoa s.dl ++ [32] ++ Lib.itoa s.len) := fun s => by simp [fmtSm, itoas, Lib.join_cons, Lib.joinTail]
  have hend : Hid (Lib.join ((l.take l.length).map fmtSm) [59] = fmtSms l) := Lib.hid (by rw [List.take_length]; rfl)
  clear hs hn
  obtain ⟨g, hg⟩ : ∃ g : Nat → List UInt8, ∀ k, Lib.join ((l.take k).map fmtSm) [59] = g k := ⟨_, fun _ => rfl⟩
  simp only [hg] at h0 hst hend hlen
  clear hg
  generalize fmtSms l = J at *
  obtain ⟨n, Hn⟩ : ∃ n, Hid (l.length = n) := ⟨_, rfl⟩
  rw [Hn.out] at hl hend hlen ⊢
  go_enter Tryz.func53, Tryz.ntmps53
  go_wp2
  go_loopw [3, 4] (fun s i wr => ∃ k : Nat, k ≤ n ∧ i = .int .i64 k ∧ s = .string ⟨(g k).toArray⟩ ∧ Below w.heap.size w wr) (fun _ i _ => n - (intOf i).toNat)
  case atStart => exact ⟨0, Nat.zero_le _, rfl, by rw [h0.out], bl_refl _⟩
  case round =>
    obtain ⟨k, hk, rfl, rfl, hb0⟩ := hrel
    by_cases hkn : k < n
    rotate_left
    · obtain rfl : n = k := by omega
      have he := Lib.hid hend.out
      go_wp2
      go_ret
      exact ⟨by first | rfl | rw [he.out] <;> rfl, hb0⟩
    have hx : l[k]? = some (l[k]'(by rw [Hn.out]; exact hkn)) := List.getElem?_eq_getElem _
    generalize l[k]'(by rw [Hn.out]; exact hkn) = x at hx
    have hgn := Lib.hid (hst.out k x hx)
    have hDx := Lib.hid (hD.out x (List.mem_of_getElem? hx))
    obtain ⟨hz0, hz1, hz2, hz3⟩ := hsz.out x (List.mem_of_getElem? hx)
    have hfx := Lib.hid (hfm.out x)
    have hgl := hlen.out k hk
    obtain ⟨b, off, rfl, hc⟩ := Hs.out k x hx
    obtain ⟨nm, per, dl, ln⟩ := x
    dsimp only at *
    have c0 : ∀ W, Below wr.heap.size wr W → W.cell? ⟨b, off + k * 4, none⟩ = some (.string nm) := fun W hW => by simpa using kcell (bl_tr hb0 hW) (hc 0 _ rfl)
    have c1 : ∀ W, Below wr.heap.size wr W → W.cell? ⟨b, off + k * 4 + 1, none⟩ = some (.int .i64 per) := fun W hW => kcell (bl_tr hb0 hW) (hc 1 _ rfl)
    have c2 : ∀ W, Below wr.heap.size wr W → W.cell? ⟨b, off + k * 4 + 2, none⟩ = some (.int .i64 dl) := fun W hW => kcell (bl_tr hb0 hW) (hc 2 _ rfl)
    have c3 : ∀ W, Below wr.heap.size wr W → W.cell? ⟨b, off + k * 4 + 3, none⟩ = some (.int .i64 ln) := fun W hW => kcell (bl_tr hb0 hW) (hc 3 _ rfl)
    have hkn2 : (k : Int) < n := by omega
    have hd1 := Lib.hid fun W => hDx.out per (.inl rfl) W
    have hd2 := Lib.hid fun W => hDx.out dl (.inr (.inl rfl)) W
    have hd3 := Lib.hid fun W => hDx.out ln (.inr (.inr rfl)) W
    clear hc hx hDx
    obtain ⟨P1, hP1⟩ : ∃ z, Hid (Lib.itoa per = z) := ⟨_, rfl⟩
    obtain ⟨P2, hP2⟩ : ∃ z, Hid (Lib.itoa dl = z) := ⟨_, rfl⟩
    obtain ⟨P3, hP3⟩ : ∃ z, Hid (Lib.itoa ln = z) := ⟨_, rfl⟩
    rw [hP1.out] at hz1 hd1 hfx
    rw [hP2.out] at hz2 hd2 hfx
    rw [hP3.out] at hz3 hd3 hfx
    clear hD hsz hst hlen hfm
    by_cases hk0 : k = 0
    case' pos =>
      subst hk0
      simp only [Nat.zero_mul, Nat.add_zero] at c0 c1 c2 c3
      rw [if_pos rfl, List.nil_append, hfx.out] at hgn
      have hk1 : ¬ (0 : Int) < ((0 : Nat) : Int) := by omega
      obtain ⟨G, hG⟩ : ∃ G, Hid (g 0 = G) := ⟨_, rfl⟩
      have hG0 : Hid (G = []) := Lib.hid (by rw [← hG.out, h0.out])
      have hres : Hid (g 1 = G ++ (nm.data.toList ++ [32] ++ P1 ++ [32] ++ P2 ++ [32] ++ P3)) := Lib.hid (by rw [hG0.out]; exact hgn.out)
      have hGn : G.length ≤ 2001001 := by rw [hG0.out]; simp
      clear hgl
      rw [hG.out]
      go_upto_region 7 with fail
    case' neg =>
      rw [if_neg hk0, hfx.out] at hgn
      have hk1 : (0 : Int) < k := by omega
      have hs0 : ¬ 9223372036854775807 < (g k).length + 1 := by omega
      replace hk0 := Lib.hid hk0
      go_upto_region 7 with fail
      rename_i hbr
      clear hbr
      obtain ⟨G, hG⟩ : ∃ G : List UInt8, Hid (g k ++ [59] = G) := ⟨g k ++ [59], rfl⟩
      have hres : Hid (g (k + 1) = G ++ (nm.data.toList ++ [32] ++ P1 ++ [32] ++ P2 ++ [32] ++ P3)) := Lib.hid (by rw [← hG.out]; exact hgn.out)
      have hGn : G.length ≤ 2001001 := by rw [← hG.out, List.length_append, List.length_singleton]; omega
      rw [ba_app]
      rw [show (⟨(g k).toArray⟩ : ByteArray).data.toList ++ (⟨#[59]⟩ : ByteArray).data.toList = G from hG.out]
    all_goals
      clear hk1
      have hs1 : ¬ 9223372036854775807 < G.length + nm.size := by omega
      have hs2 : ¬ 9223372036854775807 < G.length + nm.size + 1 := by omega
      have hs3 : ¬ 9223372036854775807 < G.length + nm.size + 1 + P1.length := by omega
      have hs4 : ¬ 9223372036854775807 < G.length + nm.size + 1 + P1.length + 1 := by omega
      have hs5 : ¬ 9223372036854775807 < G.length + nm.size + 1 + P1.length + 1 + P2.length := by omega
      have hs6 : ¬ 9223372036854775807 < G.length + nm.size + 1 + P1.length + 1 + P2.length + 1 := by omega
      have hs7 : ¬ 9223372036854775807 < G.length + nm.size + 1 + P1.length + 1 + P2.length + 1 + P3.length := by omega
      refine wp_any (w0 := wr) ⟨[31], [], [some 15, some 16, some 17, some 18, some 19, some 20, some 21, some 22, some 23, some 24, some 25, some 26, some 27, some 28, some 29, some 30, some 31, some 32, some 33, some 34, some 35, some 36, some 37, some 38, some 39, some 40, some 41, some 42, some 43, some 44, some 45, none], [[], [], [], [1, 2], [1, 2, 3], [1, 2, 3, 4], [0, 1, 2, 3, 4, 5], [0, 1, 2, 3, 4, 5, 6], [], [], [8, 9], [8, 9, 10], [8, 9, 10, 11], [8, 9, 10, 11, 12], [0, 1, 2, 3, 4, 5, 6, 7, 8, 9, 10, 11, 12, 13], [0, 1, 2, 3, 4, 5, 6, 7, 8, 9, 10, 11, 12, 13, 14], [], [], [16, 17], [16, 17, 18], [16, 17, 18, 19], [8, 9, 10, 11, 12, 13, 16, 17, 18, 19, 20], [0, 1, 2, 3, 4, 5, 6, 7, 8, 9, 10, 11, 12, 13, 14, 15, 16, 17, 18, 19, 20, 21], [0, 1, 2, 3, 4, 5, 6, 7, 8, 9, 10, 11, 12, 13, 14, 15, 16, 17, 18, 19, 20, 21, 22], [], [], [24, 25], [24, 25, 26], [24, 25, 26, 27], [8, 9, 10, 11, 12, 13, 16, 17, 18, 19, 20, 21, 24, 25, 26, 27, 28], [0, 1, 2, 3, 4, 5, 6, 7, 8, 9, 10, 11, 12, 13, 14, 15, 16, 17, 18, 19, 20, 21, 22, 23, 24, 25, 26, 27, 28, 29], [0, 1, 2, 3, 4, 5, 6, 7, 8, 9, 10, 11, 12, 13, 14, 15, 16, 17, 18, 19, 20, 21, 22, 23, 24, 25, 26, 27, 28, 29, 30]], [[], [], [], [1, 2], [3], [4], [0, 5], [6], [], [], [8, 9], [10], [11], [12], [7, 13], [14], [], [], [16, 17], [18], [19], [20], [15, 21], [22], [], [], [24, 25], [26], [27], [28], [23, 29], []]⟩ (fun _ => []) (by kernel_rfl) (by kernel_rfl) (by (exact zE)) (fun u => by simp only [putD, Act.put, List.setIfInBounds_toArray, List.set_cons_zero, List.set_cons_succ, Nat.zero_add, Nat.reduceAdd]; rfl) ?_
      apply RGW.on (i := 0) rfl
      · exact zG
      · intro γ u W hcur hd
        clear hd
        (try dsimp only)
        exact ⟨rfl, zS⟩
      · exact zC
      · rfl
      dsimp only [nA, cA]
      apply RGW.on (i := 1) rfl
      · exact zG
      · intro γ u W hcur hd
        clear hd
        (try dsimp only)
        exact ⟨rfl, zS⟩
      · exact zC
      · rfl
      dsimp only [nA, cA]
      apply RGW.on (i := 2) rfl
      · exact zG
      · intro γ u W hcur hd
        clear hd
        (try dsimp only)
        exact ⟨rfl, zS⟩
      · exact zC
      · rfl
      dsimp only [nA, cA]
      apply RGW.on (i := 3) rfl
      · exact zG
      · intro γ u W hcur hd
        obtain ⟨⟨h1, -, -⟩, ⟨h2, -, -⟩, -⟩ := hd
        dsimp only at h1 h2
        (try simp only [h1, h2])
        exact ⟨rfl, zS⟩
      · exact zC
      · rfl
      dsimp only [nA, cA]
      apply RGW.on (i := 4) rfl
      · exact zG
      · intro γ u W hcur hd
        obtain ⟨⟨h3, -, -⟩, -⟩ := hd
        dsimp only at h3
        (try simp only [h3])
        exact ⟨rfl, zS⟩
      · exact zC
      · rfl
      dsimp only [nA, cA]
      apply RGW.on (i := 5) rfl
      · exact zG
      · intro γ u W hcur hd
        obtain ⟨⟨h4, -, -⟩, -⟩ := hd
        dsimp only at h4
        (try simp only [h4])
        exact ⟨rfl, zS⟩
      · exact zC
      · rfl
      dsimp only [nA, cA]
      apply RGW.on (i := 6) rfl
      · exact zG
      · intro γ u W hcur hd
        obtain ⟨⟨h0, -, -⟩, ⟨h5, -, -⟩, -⟩ := hd
        dsimp only at h0 h5
        (try simp only [h0, h5])
        exact ⟨rfl, zS⟩
      · exact zC
      · rfl
      dsimp only [nA, cA]
      apply RGW.on (i := 7) rfl
      · exact zG
      · intro γ u W hcur hd
        obtain ⟨⟨h6, -, -⟩, -⟩ := hd
        dsimp only at h6
        (try simp only [h6])
        exact ⟨rfl, zS⟩
      · exact zC
      · rfl
      dsimp only [nA, cA]
      apply RGW.on (i := 8) rfl
      · exact zG
      · intro γ u W hcur hd
        clear hd
        (try dsimp only)
        exact ⟨rfl, zS⟩
      · exact zC
      · rfl
      dsimp only [nA, cA]
      apply RGW.on (i := 9) rfl
      · exact zG
      · intro γ u W hcur hd
        clear hd
        (try dsimp only)
        exact ⟨rfl, zS⟩
      · exact zC
      · rfl
      dsimp only [nA, cA]
      apply RGW.on (i := 10) rfl
      · exact zG
      · intro γ u W hcur hd
        obtain ⟨⟨h8, -, -⟩, ⟨h9, -, -⟩, -⟩ := hd
        dsimp only at h8 h9
        (try simp only [h8, h9])
        exact ⟨rfl, zS⟩
      · exact zC
      · rfl
      dsimp only [nA, cA]
      apply RGW.on (i := 11) rfl
      · exact zG
      · intro γ u W hcur hd
        obtain ⟨⟨h10, -, -⟩, -⟩ := hd
        dsimp only at h10
        (try simp only [h10])
        exact ⟨rfl, zS⟩
      · exact zC
      · rfl
      dsimp only [nA, cA]
      apply RGW.on (i := 12) rfl
      · exact zG
      · intro γ u W hcur hd
        obtain ⟨⟨h11, -, -⟩, -⟩ := hd
        dsimp only at h11
        (try simp only [h11])
        exact ⟨rfl, zS⟩
      · exact zC
      · rfl
      dsimp only [nA, cA]
      apply RGW.call (i := 13) rfl
      · exact zG
      · intro γ u W hcur hd
        obtain ⟨⟨h12, -, -⟩, -⟩ := hd
        dsimp only at h12
        (try simp only [h12])
        refine ⟨rfl, fun K hK => ?_⟩
        go_simp
        first
        | (go_at_call 114; (with_reducible refine (hd1.out _).mono ?_); rintro e w3 ⟨rfl, hb3⟩; replace hb3 := bl_tt hb3)
        | (go_at_call 114; (with_reducible refine (hd2.out _).mono ?_); rintro e w3 ⟨rfl, hb3⟩; replace hb3 := bl_tt hb3)
        | (go_at_call 114; (with_reducible refine (hd3.out _).mono ?_); rintro e w3 ⟨rfl, hb3⟩; replace hb3 := bl_tt hb3)
        (try dsimp only)
        exact hK.out _ _ rfl (by (exact zE))
      · exact zC
      · rfl
      dsimp only [nA, cA]
      apply RGW.on (i := 14) rfl
      · exact zG
      · intro γ u W hcur hd
        obtain ⟨⟨h7, -, -⟩, ⟨h13, -, -⟩, -⟩ := hd
        dsimp only at h7 h13
        (try simp only [h7, h13])
        exact ⟨rfl, zS⟩
      · exact zC
      · rfl
      dsimp only [nA, cA]
      apply RGW.on (i := 15) rfl
      · exact zG
      · intro γ u W hcur hd
        obtain ⟨⟨h14, -, -⟩, -⟩ := hd
        dsimp only at h14
        (try simp only [h14])
        exact ⟨rfl, zS⟩
      · exact zC
      · rfl
      dsimp only [nA, cA]
      apply RGW.on (i := 16) rfl
      · exact zG
      · intro γ u W hcur hd
        clear hd
        (try dsimp only)
        exact ⟨rfl, zS⟩
      · exact zC
      · rfl
      dsimp only [nA, cA]
      apply RGW.on (i := 17) rfl
      · exact zG
      · intro γ u W hcur hd
        clear hd
        (try dsimp only)
        exact ⟨rfl, zS⟩
      · exact zC
      · rfl
      dsimp only [nA, cA]
      apply RGW.on (i := 18) rfl
      · exact zG
      · intro γ u W hcur hd
        obtain ⟨⟨h16, -, -⟩, ⟨h17, -, -⟩, -⟩ := hd
        dsimp only at h16 h17
        (try simp only [h16, h17])
        exact ⟨rfl, zS⟩
      · exact zC
      · rfl
      dsimp only [nA, cA]
      apply RGW.on (i := 19) rfl
      · exact zG
      · intro γ u W hcur hd
        obtain ⟨⟨h18, -, -⟩, -⟩ := hd
        dsimp only at h18
        (try simp only [h18])
        exact ⟨rfl, zS⟩
      · exact zC
      · rfl
      dsimp only [nA, cA]
      apply RGW.on (i := 20) rfl
      · exact zG
      · intro γ u W hcur hd
        obtain ⟨⟨h19, -, -⟩, -⟩ := hd
        dsimp only at h19
        (try simp only [h19])
        exact ⟨rfl, zS⟩
      · exact zC
      · rfl
      dsimp only [nA, cA]
      apply RGW.call (i := 21) rfl
      · exact zG
      · intro γ u W hcur hd
        obtain ⟨⟨h20, -, -⟩, -⟩ := hd
        dsimp only at h20
        (try simp only [h20])
        refine ⟨rfl, fun K hK => ?_⟩
        go_simp
        first
        | (go_at_call 114; (with_reducible refine (hd1.out _).mono ?_); rintro e w3 ⟨rfl, hb3⟩; replace hb3 := bl_tt hb3)
        | (go_at_call 114; (with_reducible refine (hd2.out _).mono ?_); rintro e w3 ⟨rfl, hb3⟩; replace hb3 := bl_tt hb3)
        | (go_at_call 114; (with_reducible refine (hd3.out _).mono ?_); rintro e w3 ⟨rfl, hb3⟩; replace hb3 := bl_tt hb3)
        (try dsimp only)
        exact hK.out _ _ rfl (by (exact zE))
      · exact zC
      · rfl
      dsimp only [nA, cA]
      apply RGW.on (i := 22) rfl
      · exact zG
      · intro γ u W hcur hd
        obtain ⟨⟨h15, -, -⟩, ⟨h21, -, -⟩, -⟩ := hd
        dsimp only at h15 h21
        (try simp only [h15, h21])
        exact ⟨rfl, zS⟩
      · exact zC
      · rfl
      dsimp only [nA, cA]
      apply RGW.on (i := 23) rfl
      · exact zG
      · intro γ u W hcur hd
        obtain ⟨⟨h22, -, -⟩, -⟩ := hd
        dsimp only at h22
        (try simp only [h22])
        exact ⟨rfl, zS⟩
      · exact zC
      · rfl
      dsimp only [nA, cA]
      apply RGW.on (i := 24) rfl
      · exact zG
      · intro γ u W hcur hd
        clear hd
        (try dsimp only)
        exact ⟨rfl, zS⟩
      · exact zC
      · rfl
      dsimp only [nA, cA]
      apply RGW.on (i := 25) rfl
      · exact zG
      · intro γ u W hcur hd
        clear hd
        (try dsimp only)
        exact ⟨rfl, zS⟩
      · exact zC
      · rfl
      dsimp only [nA, cA]
      apply RGW.on (i := 26) rfl
      · exact zG
      · intro γ u W hcur hd
        obtain ⟨⟨h24, -, -⟩, ⟨h25, -, -⟩, -⟩ := hd
        dsimp only at h24 h25
        (try simp only [h24, h25])
        exact ⟨rfl, zS⟩
      · exact zC
      · rfl
      dsimp only [nA, cA]
      apply RGW.on (i := 27) rfl
      · exact zG
      · intro γ u W hcur hd
        obtain ⟨⟨h26, -, -⟩, -⟩ := hd
        dsimp only at h26
        (try simp only [h26])
        exact ⟨rfl, zS⟩
      · exact zC
      · rfl
      dsimp only [nA, cA]
      apply RGW.on (i := 28) rfl
      · exact zG
      · intro γ u W hcur hd
        obtain ⟨⟨h27, -, -⟩, -⟩ := hd
        dsimp only at h27
        (try simp only [h27])
        exact ⟨rfl, zS⟩
      · exact zC
      · rfl
      dsimp only [nA, cA]
      apply RGW.call (i := 29) rfl
      · exact zG
      · intro γ u W hcur hd
        obtain ⟨⟨h28, -, -⟩, -⟩ := hd
        dsimp only at h28
        (try simp only [h28])
        refine ⟨rfl, fun K hK => ?_⟩
        go_simp
        first
        | (go_at_call 114; (with_reducible refine (hd1.out _).mono ?_); rintro e w3 ⟨rfl, hb3⟩; replace hb3 := bl_tt hb3)
        | (go_at_call 114; (with_reducible refine (hd2.out _).mono ?_); rintro e w3 ⟨rfl, hb3⟩; replace hb3 := bl_tt hb3)
        | (go_at_call 114; (with_reducible refine (hd3.out _).mono ?_); rintro e w3 ⟨rfl, hb3⟩; replace hb3 := bl_tt hb3)
        (try dsimp only)
        exact hK.out _ _ rfl (by (exact zE))
      · exact zC
      · rfl
      dsimp only [nA, cA]
      apply RGW.on (i := 30) rfl
      · exact zG
      · intro γ u W hcur hd
        obtain ⟨⟨h23, -, -⟩, ⟨h29, -, -⟩, -⟩ := hd
        dsimp only at h23 h29
        (try simp only [h23, h29])
        exact ⟨rfl, zS⟩
      · exact zC
      · rfl
      dsimp only [nA, cA]
      refine RGW.skip (i := 31) rfl rfl ?_
      dsimp only [nA, cA]
      refine RGW.fin (fun γ u wd hwd hd hdis => ?_)
      obtain ⟨⟨h0, -, -⟩, ⟨h1, -, -⟩, ⟨h2, -, -⟩, ⟨h3, -, -⟩, ⟨h4, -, -⟩, ⟨h5, -, -⟩, ⟨h6, -, -⟩, ⟨h7, -, -⟩, ⟨h8, -, -⟩, ⟨h9, -, -⟩, ⟨h10, -, -⟩, ⟨h11, -, -⟩, ⟨h12, -, -⟩, ⟨h13, -, -⟩, ⟨h14, -, -⟩, ⟨h15, -, -⟩, ⟨h16, -, -⟩, ⟨h17, -, -⟩, ⟨h18, -, -⟩, ⟨h19, -, -⟩, ⟨h20, -, -⟩, ⟨h21, -, -⟩, ⟨h22, -, -⟩, ⟨h23, -, -⟩, ⟨h24, -, -⟩, ⟨h25, -, -⟩, ⟨h26, -, -⟩, ⟨h27, -, -⟩, ⟨h28, -, -⟩, ⟨h29, -, -⟩, ⟨h30, -, -⟩, -⟩ := hd
      dsimp only at h0 h1 h2 h3 h4 h5 h6 h7 h8 h9 h10 h11 h12 h13 h14 h15 h16 h17 h18 h19 h20 h21 h22 h23 h24 h25 h26 h27 h28 h29 h30
      clear hdis
      simp only [h0, h1, h2, h3, h4, h5, h6, h7, h8, h9, h10, h11, h12, h13, h14, h15, h16, h17, h18, h19, h20, h21, h22, h23, h24, h25, h26, h27, h28, h29, h30]
      clear h30 h29 h28 h27 h26 h25 h24 h23 h22 h21 h20 h19 h18 h17 h16 h15 h14 h13 h12 h11 h10 h9 h8 h7 h6 h5 h4 h3 h2 h1 h0
      clear u
      simp only [List.map_cons, List.map_nil]
      apply PlanW.step
      · exact zG
      · rfl
      intro K hK
      go_simp
      refine hK.out _ _ (by with_reducible first | assumption | exact bx_refl _ _) (fun hcur => ?_)
      clear hK K
      try simp only [Act.put, List.setIfInBounds_toArray, List.set_cons_zero, List.set_cons_succ]
      refine PlanW.done ?_
      have hb3 := bl_tt hwd
      have hbj := bl_tr hb0 hwd
      have hcat : ∀ M, Hid (M = G ++ (nm.data.toList ++ [32] ++ P1 ++ [32] ++ P2 ++ [32] ++ P3)) → ((⟨G.toArray⟩ : ByteArray) ++ nm ++ ⟨#[32]⟩ ++ ⟨P1.toArray⟩ ++ ⟨#[32]⟩ ++ ⟨P2.toArray⟩ ++ ⟨#[32]⟩ ++ ⟨P3.toArray⟩) = ⟨M.toArray⟩ := fun M h => by
        rw [h.out]
        simp only [ba_app, List.append_assoc]
      have hcat := hcat _ hres
      go_wp2
      go_roundw
      case rel => first | exact ⟨1, by omega, rfl, by first | rfl | rw [hcat], hbj⟩ | exact ⟨k + 1, by omega, by go_num, by first | rfl | rw [hcat], hbj⟩
      case measure => simp [intOf]; omega
end Go.Proofs.YtbdgblnccjpahaaGreatDoor
namespace Go.Proofs.YtbdgblnccjpahaaGreatDoor
open Go.RowKit Go.Shelf
attribute [local go_sem] bl_al bl_drew bl_drewN bl_refl bx_al bx_drew bx_drewN bx_refl
set_option maxRecDepth 20000
/-- A copy of a net. -/
def NtV (C : NC) (v : Value) (W : World) : Prop := ∃ (m : Nt) (Bp Bf Bm : Option Addr) (dp df dm : Nat), m.cn = C ∧ NtIn m Bp Bf Bm dp df dm W ∧ v = vNt Bp Bf Bm m.ps.length m.fs.length m.ms.length dp df dm
theorem NtV.below {C : NC} {v : Value} {W W' : World} (h : NtV C v W) (hb : Below W.heap.size W W') : NtV C v W' := by
  obtain ⟨m, Bp, Bf, Bm, dp, df, dm, h1, h2, h3⟩ := h
  exact ⟨m, Bp, Bf, Bm, dp, df, dm, h1, h2.below hb, h3⟩
/-- The numbers of a net are numbers of the machine. -/
def NtNum (n : Nt) : Prop := (∀ f ∈ n.fs, ∀ r ∈ f.ws, ∀ v ∈ r.l, Fits v) ∧ ∀ m ∈ n.ms, ∀ v ∈ m.r.l, Fits v
theorem few_fit {n : Nt} (hf : fewN n = true) (hN : NtNum n) : NtFit n := by
  unfold fewN at hf
  simp only [Bool.and_eq_true, decide_eq_true_eq, List.all_eq_true] at hf
  obtain ⟨-, h4, h5, h6⟩ := hf
  refine ⟨fun s hs => ?_, fun f hf => ⟨?_, hN.1 f hf⟩, fun m hm => ⟨?_, hN.2 m hm⟩⟩
  · have := h4 s hs
    unfold fewP at this
    simp at this
    omega
  · have h7 := h5 f hf
    unfold fewF at h7
    simp only [Bool.and_eq_true] at h7
    have := h7.1.1
    unfold fewP at this
    simp at this
    omega
  · have h7 := h6 m hm
    unfold fewM at h7
    simp only [Bool.and_eq_true] at h7
    have := h7.1
    unfold fewP at this
    simp at this
    omega
theorem fit_con {n m : Nt} (h : m.cn = n.cn) (hn : NtFit n) : NtFit m := by
  have e1 : m.ps = n.ps := congrArg NC.ps h
  have e2 : m.fs.map Fu.con = n.fs.map Fu.con := congrArg NC.fs h
  have e3 : m.ms.map Md.con = n.ms.map Md.con := congrArg NC.ms h
  refine ⟨fun s hs => hn.ps s (e1 ▸ hs), fun f hf => ?_, fun f hf => ?_⟩
  · have : f.con ∈ n.fs.map Fu.con := by rw [← e2]; exact List.mem_map.2 ⟨f, hf, rfl⟩
    obtain ⟨g, hg, hc⟩ := List.mem_map.1 this
    have h1 := hn.fs g hg
    have c1 : g.name = f.name := congrArg Prod.fst hc
    have c2 : g.ws.map (fun r : Rw => r.l) = f.ws.map (fun r : Rw => r.l) := congrArg Prod.snd hc
    refine ⟨c1 ▸ h1.1, fun r hr v hv => ?_⟩
    have : r.l ∈ g.ws.map (fun r : Rw => r.l) := by rw [c2]; exact List.mem_map.2 ⟨r, hr, rfl⟩
    obtain ⟨r', hr', e⟩ := List.mem_map.1 this
    exact h1.2 r' hr' v (by rw [e]; exact hv)
  · have : f.con ∈ n.ms.map Md.con := by rw [← e3]; exact List.mem_map.2 ⟨f, hf, rfl⟩
    obtain ⟨g, hg, hc⟩ := List.mem_map.1 this
    have h1 := hn.ms g hg
    have c1 : g.name = f.name := congrArg Prod.fst hc
    have c2 : g.r.l = f.r.l := congrArg Prod.snd hc
    exact ⟨c1 ▸ h1.1, c2 ▸ h1.2⟩
set_option maxHeartbeats 0 in
theorem r_BusStrings (l : List Sm) (n : Nt) (s : List UInt8) (A Ap Af Am : Option Addr) (c cp cf cm : Nat) (w : World) (hs : Sl cSm 4 w A l) (hc : l.length ≤ c) (hsf : ∀ x ∈ l, Fits x.per ∧ Fits x.dl ∧ Fits x.len) (hn : NtR n Ap Af Am cp cf cm w) (hN : NtNum n) (hE : Env w) :
    Calls Tryz.prog 6 #[.slice A l.length c, vNt Ap Af Am n.ps.length n.fs.length n.ms.length cp cf cm, .string ⟨s.toArray⟩] w (Ret (.bool true) w) := by
  have haw := Lib.hid fun W (hb : Below w.heap.size w W) => r_awake W (hE.tab.below hb)
  have hfs := Lib.hid fun W (hb : Below w.heap.size w W) => r_fewStreams l A c W (hs.below hb)
  have hfr : Hid (∀ W, Below w.heap.size w W → NtR n Ap Af Am cp cf cm W) := fun W hb => ⟨hn.pcap, hn.fcap, hn.mcap, hn.psl.below hb, hn.fsl.below hb, hn.msl.below hb, hn.pnm, fun f hf => ⟨(hn.fin f hf).nm, (hn.fin f hf).cap, (hn.fin f hf).sl.below hb, fun r hr => ⟨((hn.fin f hf).rows r hr).cap, ((hn.fin f hf).rows r hr).sl.below hb⟩⟩, fun m hm => ⟨(hn.min m hm).nm, (hn.min m hm).row.cap, (hn.min m hm).row.sl.below hb⟩⟩
  have hfw := Lib.hid fun W (hb : Below w.heap.size w W) => r_few n Ap Af Am cp cf cm W (hfr.out W hb)
  have HE := Lib.hid fun W (hb : Below w.heap.size w W) => hE.below hb
  have Hs := Lib.hid fun W (hb : Below w.heap.size w W) => hs.below hb
  have hfew := Lib.hid fun h : fewN n = true => few_net hn h
  have hfit := Lib.hid fun h : fewN n = true => few_fit h hN
  replace hsf := Lib.hid hsf
  replace hc := Lib.hid hc
  clear hn hs hE hfr hN
  dsimp only [vNt, aNt] at hfw
  change Calls Tryz.prog 6 #[.slice A l.length c, .agg #[.slice Ap n.ps.length cp, .slice Af n.fs.length cf, .slice Am n.ms.length cm], .string ⟨s.toArray⟩] w _
  cases hB : fewB l
  · rw [hB] at hfs
    clear hfew hfit
    generalize n.ps.length = np at *
    generalize n.fs.length = nf at *
    generalize n.ms.length = nm at *
    generalize l.length = ll at *
    go_enter Tryz.func6, Tryz.ntmps6
    go_upto_region 1 with fail
    first
    | apply absB1 (w0 := w) (g0 := w.heap.size)
    | apply absTB1 (w0 := w) (g0 := w.heap.size)
    | apply absIB1 (w0 := w) (g0 := w.heap.size)
    iterate 2 (focus exact zL)
    try clear hb3
    try clear hb0
    try clear k0
    intro wa hb0 k0
    (try simp only [List.setIfInBounds_toArray, List.set_cons_zero, List.set_cons_succ] at k0)
    go_wp2_with fail
    refine (haw.out wa hb0).mono ?_
    rintro e w1 ⟨rfl, hb1⟩
    replace hb0 := bl_tr hb0 hb1
    go_wp2_with fail
    refine (hfs.out _ hb0).mono ?_
    rintro e w2 ⟨rfl, rfl⟩
    go_wp2
    go_ret
    exact ⟨rfl, hb0⟩
  rw [hB] at hfs
  cases hF : fewN n
  · rw [hF] at hfw
    clear hfew hfit
    generalize n.ps.length = np at *
    generalize n.fs.length = nf at *
    generalize n.ms.length = nm at *
    generalize l.length = ll at *
    go_enter Tryz.func6, Tryz.ntmps6
    go_upto_region 1 with fail
    first
    | apply absB1 (w0 := w) (g0 := w.heap.size)
    | apply absTB1 (w0 := w) (g0 := w.heap.size)
    | apply absIB1 (w0 := w) (g0 := w.heap.size)
    iterate 2 (focus exact zL)
    try clear hb3
    try clear hb0
    try clear k0
    intro wa hb0 k0
    (try simp only [List.setIfInBounds_toArray, List.set_cons_zero, List.set_cons_succ] at k0)
    go_wp2_with fail
    refine (haw.out wa hb0).mono ?_
    rintro e w1 ⟨rfl, hb1⟩
    replace hb0 := bl_tr hb0 hb1
    replace k0 := k0.below hb1
    go_wp2_with fail
    refine (hfs.out _ hb0).mono ?_
    rintro e w2 ⟨rfl, rfl⟩
    have L0 := k0.cell
    go_wp2_with fail
    refine (hfw.out _ hb0).mono ?_
    rintro e w2 ⟨rfl, hb2⟩
    go_wp2
    go_ret
    exact ⟨rfl, bl_tr hb0 hb2⟩
  rw [hF] at hfw
  obtain ⟨hni, hp12, hf12, hm8⟩ := hfew.out hF
  have hnf := hfit.out hF
  clear hfew hfit
  by_cases hlong : (300 < s.length ∧ s.length ≤ 60000) ∨ 60010 < s.length
  · clear hsf hc hni hp12 hf12 hm8 hnf HE Hs
    generalize n.ps.length = np at *
    generalize n.fs.length = nf at *
    generalize n.ms.length = nm at *
    generalize l.length = ll at *
    go_enter Tryz.func6, Tryz.ntmps6
    go_upto_region 1 with fail
    first
    | apply absB1 (w0 := w) (g0 := w.heap.size)
    | apply absTB1 (w0 := w) (g0 := w.heap.size)
    | apply absIB1 (w0 := w) (g0 := w.heap.size)
    iterate 2 (focus exact zL)
    try clear hb3
    try clear hb0
    try clear k0
    intro wa hb0 k0
    (try simp only [List.setIfInBounds_toArray, List.set_cons_zero, List.set_cons_succ] at k0)
    go_wp2_with fail
    refine (haw.out wa hb0).mono ?_
    rintro e w1 ⟨rfl, hb1⟩
    replace hb0 := bl_tr hb0 hb1
    replace k0 := k0.below hb1
    go_wp2_with fail
    refine (hfs.out _ hb0).mono ?_
    rintro e w2 ⟨rfl, rfl⟩
    have L0 := k0.cell
    go_wp2_with fail
    refine (hfw.out _ hb0).mono ?_
    rintro e w2 ⟨rfl, hb2⟩
    by_cases h3 : 60010 < s.length
    · have i1 : (300 : Int) < s.length := by omega
      have i2 : ¬ (s.length : Int) ≤ 60000 := by omega
      have i3 : (60010 : Int) < s.length := by omega
      clear hlong h3
      go_wp2
      go_ret
      exact ⟨rfl, bl_tr hb0 hb2⟩
    · have i1 : (300 : Int) < s.length := by omega
      have i2 : (s.length : Int) ≤ 60000 := by omega
      clear hlong h3
      go_wp2
      go_ret
      exact ⟨rfl, bl_tr hb0 hb2⟩
  have hS : s.length ≤ 900 ∨ 60000 < s.length := by omega
  have hSn : s.length ≤ 50000 ∧ FewS s ∨ 60000 < s.length := by
    rcases hS with h | h
    · exact .inl ⟨by omega, few_short h⟩
    · exact .inr h
  have hl8 : l.length ≤ 8 := by
    unfold fewB at hB
    rw [Bool.and_eq_true, decide_eq_true_eq] at hB
    omega
  have hl30 : ∀ x ∈ l, x.name.size ≤ 30 := fun x hx => by
    unfold fewB at hB
    rw [Bool.and_eq_true, List.all_eq_true] at hB
    have := hB.2 x hx
    simp at this
    omega
  have hfl : ∀ x ∈ l, x.name.size ≤ 1000 ∧ Fits x.per ∧ Fits x.dl ∧ Fits x.len := fun x hx => ⟨by have := hl30 x hx; omega, hsf.out x hx⟩
  have hsm := Lib.hid fun W (hb : Below w.heap.size w W) => (show SmIn l A c W from ⟨by omega, hc.out, fun x hx => by have := hl30 x hx; unfold maxLen; omega, Hs.out W hb⟩)
  have hni' := Lib.hid fun W (hb : Below w.heap.size w W) => hni.below hb
  have hcs := Lib.hid fun W (hb : Below w.heap.size w W) => r_CopyStreams l A c W (hsm.out W hb)
  have hcn : Hid (∀ W, Below w.heap.size w W → Calls Tryz.prog 35 #[.agg #[.slice Ap n.ps.length cp, .slice Af n.fs.length cf, .slice Am n.ms.length cm]] W (fun e w' => Below W.heap.size W w' ∧ ∃ v, e = .returned v ∧ NtV n.cn v w')) := Lib.hid fun W hb => (r_CopyNet n Ap Af Am cp cf cm W (hni'.out W hb)).mono fun e w' ⟨h1, m, Bp, Bf, Bm, dp, df, dm, h2, h3, h4⟩ => ⟨h1, _, h4, m, Bp, Bf, Bm, dp, df, dm, ntEq_cn.1 h2, h3, by
    have e1 : m.ps.length = n.ps.length := by rw [h2.ps]
    have e2 : m.fs.length = n.fs.length := by have := congrArg List.length h2.fs; simpa using this
    have e3 : m.ms.length = n.ms.length := by have := congrArg List.length h2.ms; simpa using this
    rw [e1, e2, e3]⟩
  have hfS := Lib.hid fun A' c' W (h : SmIn l A' c' W) (hb : Below w.heap.size w W) => c_FormatStreams l A' c' W h.sl (by omega) hfl (HE.out W hb)
  have hfN : Hid (∀ v W, NtV n.cn v W → Below w.heap.size w W → Calls Tryz.prog 34 #[v] W (Ret (.string ⟨(fmtNt n.cn).toArray⟩) W)) := Lib.hid fun v W ⟨m, Bp, Bf, Bm, dp, df, dm, h1, h2, h3⟩ hb => by
    rw [h3, ← h1]
    exact c_FormatNet m Bp Bf Bm dp df dm W h2 (fit_con h1 hnf) (HE.out W hb)
  have hrS := Lib.hid fun W (hb : Below w.heap.size w W) => r_FormatStreams l A c W (Hs.out W hb) (by omega) hfl
  have hrN := Lib.hid fun W (hb : Below w.heap.size w W) => (show Calls Tryz.prog 54 #[.agg #[.slice Ap n.ps.length cp, .slice Af n.fs.length cf, .slice Am n.ms.length cm]] W _ from r_FormatNet n Ap Af Am cp cf cm W (hni'.out W hb) hnf)
  have hpS := Lib.hid fun W (hb : Below w.heap.size w W) => c_PsU s W hS (HE.out W hb)
  have hpN := Lib.hid fun W (hb : Below w.heap.size w W) => c_PnU s W hSn (HE.out W hb)
  have hqS := Lib.hid fun W : World => r_PsU s W hS
  have hqN := Lib.hid fun W : World => r_PnU s W hSn
  have hse := Lib.hid fun W (hb : Below w.heap.size w W) => r_StreamsErr l A c W (hsm.out W hb)
  have hne := Lib.hid fun W (hb : Below w.heap.size w W) => (show Calls Tryz.prog 32 #[.agg #[.slice Ap n.ps.length cp, .slice Af n.fs.length cf, .slice Am n.ms.length cm]] W _ from r_NetErr n Ap Af Am cp cf cm W (hni'.out W hb))
  have hv1 := Lib.hid fun (h : smsErr l = 0) W (hb : Below w.heap.size w W) => (show Calls Tryz.prog 15 #[.string ⟨(fmtSms l).toArray⟩] W (fun e w' => Below W.heap.size W w' ∧ ∃ A2 c2, e = .returned (.tuple #[.slice A2 l.length c2, .int .i64 0]) ∧ Sl cSm 4 w' A2 l) from by
    obtain ⟨h1, h2, h3⟩ := sms_read h
    have := c_PsU (fmtSms l) W (.inl h3) (HE.out W hb)
    unfold PsU at this
    rw [h1, h2] at this
    exact this)
  have hv2 := Lib.hid fun (h : netErr n = 0) W (hb : Below w.heap.size w W) => (show Calls Tryz.prog 33 #[.string ⟨(fmtNt n.cn).toArray⟩] W (fun e w' => Below W.heap.size W w' ∧ ∃ (m : Nt) (Bp Bf Bm : Option Addr) (dp df dm : Nat), m.cn = n.cn ∧ NtOw m Bp Bf Bm dp df dm w' ∧ e = .returned (.tuple #[.agg #[.slice Bp m.ps.length dp, .slice Bf m.fs.length df, .slice Bm m.ms.length dm], .int .i64 0])) from by
    obtain ⟨h1, h2, h3, h4⟩ := net_read h
    have := c_PnU (fmtNt n.cn) W (.inl ⟨h3, h4⟩) (HE.out W hb)
    unfold PnU at this
    rw [h1, h2] at this
    exact this)
  have hpsl : (psL s).length ≤ 1000 := by
    unfold psL
    split
    · rename_i h0
      have : ¬ 60000 < s.length := fun h => by rw [psE_long h] at h0; cases h0
      rw [psV_len]
      have := splitC_len 59 s
      omega
    · simp
  have hsml := Lib.hid fun A2 c2 A3 c3 W (h1 : Sl cSm 4 W A2 (psL s)) (h2 : Sl cSm 4 W A3 (psL s)) => r_SameStreamsE (psL s) A2 A3 c2 c3 W h1 h2 hpsl
  have hsml2 := Lib.hid fun A2 c2 W (h1 : Sl cSm 4 W A2 l) (hb : Below w.heap.size w W) => r_SameStreamsE l A2 A c2 c W h1 (Hs.out W hb) (by omega)
  have hsn := Lib.hid fun (m : Nt) Bp Bf Bm dp df dm W (h1 : NtIn m Bp Bf Bm dp df dm W) (h : m.cn = n.cn) (hb : Below w.heap.size w W) => (show Calls Tryz.prog 36 #[.agg #[.slice Bp m.ps.length dp, .slice Bf m.fs.length df, .slice Bm m.ms.length dm], .agg #[.slice Ap n.ps.length cp, .slice Af n.fs.length cf, .slice Am n.ms.length cm]] W (Ret (.bool true) W) from r_SameNetE m n Bp Bf Bm Ap Af Am dp df dm cp cf cm W h1 (hni'.out W hb) h.symm)
  clear hfl hl30 hpsl hni hnf hS hSn hB hF hp12 hf12 hm8 hsm hni' HE Hs
  obtain ⟨CN, hCN⟩ : ∃ z, Hid (n.cn = z) := ⟨_, rfl⟩
  rw [hCN.out] at hcn hfN hrN hv2 hsn
  obtain ⟨XS, hXS⟩ : ∃ z, Hid (fmtSms l = z) := ⟨_, rfl⟩
  rw [hXS.out] at hfS hrS hv1
  obtain ⟨XN, hXN⟩ : ∃ z, Hid (fmtNt CN = z) := ⟨_, rfl⟩
  rw [hXN.out] at hfN hrN hv2
  obtain ⟨es, hes⟩ : ∃ z, Hid (smsErr l = z) := ⟨_, rfl⟩
  obtain ⟨en, hen⟩ : ∃ z, Hid (netErr n = z) := ⟨_, rfl⟩
  rw [hes.out] at hse hv1
  rw [hen.out] at hne hv2
  unfold PsU at hpS hqS
  unfold PnU at hpN hqN
  obtain ⟨eS, heS⟩ : ∃ z, Hid (psE s = z) := ⟨_, rfl⟩
  obtain ⟨eN, heN⟩ : ∃ z, Hid (pnE s = z) := ⟨_, rfl⟩
  rw [heS.out] at hpS hqS
  rw [heN.out] at hpN hqN
  generalize psL s = LS at *
  generalize pnN s = CS at *
  obtain ⟨np, Hp⟩ : ∃ k, Hid (n.ps.length = k) := ⟨_, rfl⟩
  obtain ⟨nf, Hf⟩ : ∃ k, Hid (n.fs.length = k) := ⟨_, rfl⟩
  obtain ⟨nm, Hm⟩ : ∃ k, Hid (n.ms.length = k) := ⟨_, rfl⟩
  rw [Hp.out, Hf.out, Hm.out] at hfw hcn hrN hne hsn ⊢
  obtain ⟨ll, Hl⟩ : ∃ k, Hid (l.length = k) := ⟨_, rfl⟩
  rw [Hl.out] at hfs hcs hfS hrS hse hv1 hsml2 hl8 ⊢
  go_enter Tryz.func6, Tryz.ntmps6
  go_upto_region 1 with fail
  first
  | apply absB1 (w0 := w) (g0 := w.heap.size)
  | apply absTB1 (w0 := w) (g0 := w.heap.size)
  | apply absIB1 (w0 := w) (g0 := w.heap.size)
  iterate 2 (focus exact zL)
  try clear hb3
  try clear hb0
  try clear k0
  intro wa hb0 k0
  (try simp only [List.setIfInBounds_toArray, List.set_cons_zero, List.set_cons_succ] at k0)
  go_wp2_with fail
  refine (haw.out wa hb0).mono ?_
  rintro e w1 ⟨rfl, hb1⟩
  replace hb0 := bl_tr hb0 hb1
  replace k0 := k0.below hb1
  go_wp2_with fail
  refine (hfs.out _ hb0).mono ?_
  rintro e w2 ⟨rfl, rfl⟩
  have L0 := k0.cell
  go_wp2_with fail
  refine (hfw.out _ hb0).mono ?_
  rintro e w3 ⟨rfl, hb3⟩
  replace hb0 := bl_tr hb0 hb3
  replace k0 := k0.below hb3
  clear L0
  obtain ⟨sl, Hsl⟩ : ∃ k, Hid (s.length = k) := ⟨_, rfl⟩
  rw [Hsl.out] at hlong
  by_cases h3 : 60000 < sl
  case' pos =>
    have i1 : (300 : Int) < s.length := by rw [Hsl.out]; omega
    have i2 : ¬ (s.length : Int) ≤ 60000 := by rw [Hsl.out]; omega
    have i3 : ¬ (60010 : Int) < s.length := by rw [Hsl.out]; omega
    clear hlong h3
    go_upto_region 5 with fail
    clear i1 i2 i3
  case' neg =>
    have i1 : ¬ (300 : Int) < s.length := by rw [Hsl.out]; omega
    have i3 : ¬ (60010 : Int) < s.length := by rw [Hsl.out]; omega
    clear hlong h3
    go_upto_region 5 with fail
    clear i1 i3
  all_goals
    have L0 := k0.later
    have hsz := hb0.size
    clear haw hfs hfw
    refine wp_any (w0 := w3) ⟨[], [], [some 46, some 47, some 48, some 49, some 50, some 51, some 7, some 8], [[], [0], [0, 1], [], [0, 1, 2, 3], [0, 1, 2, 3, 4], [0, 1, 2, 3, 4, 5], [0, 1, 2, 3, 4, 5, 6]], [[], [0], [1], [], [3], [4], [1, 2], [4, 5]]⟩ (fun _ => []) (by kernel_rfl) (by kernel_rfl) (by (exact zE)) (fun u => by simp only [putD, Act.put, List.setIfInBounds_toArray, List.set_cons_zero, List.set_cons_succ, Nat.zero_add, Nat.reduceAdd]; rfl) ?_
    apply RGW.on (i := 0) rfl
    · exact zG
    · intro γ u W hcur hd
      clear hd
      (try dsimp only)
      exact ⟨rfl, zS⟩
    · exact zC
    · rfl
    dsimp only [nA, cA]
    apply RGW.gh (⟨fun γ => .slice (γ 1).A ll (γ 1).c, fun γ W => SmIn l (γ 1).A (γ 1).c W, fun _ => []⟩) (i := 1) rfl
    · exact zG
    · intro γ u W hcur hd
      obtain ⟨⟨h0, -, -⟩, -⟩ := hd
      dsimp only at h0
      (try simp only [h0])
      refine ⟨rfl, fun K hK => ?_⟩
      go_simp
      first
      | (go_at_call 11; (with_reducible refine (hcs.out _ (bl_tr hb0 hcur)).mono ?_); rintro e w4 ⟨Ax, cx, rfl, hb4, hox⟩; dsimp only; exact hK.out ⟨0, undef, Ax, cx⟩ _ _ (by simp [up]) hb4 (by simpa [up] using hox) (by simp))
      | (go_at_call 35; (with_reducible refine (hcn.out _ (bl_tr hb0 hcur)).mono ?_); rintro e w4 ⟨hb4, vv, rfl, hov⟩; dsimp only; exact hK.out ⟨0, vv, none, 0⟩ _ _ (by simp [up]) hb4 (by simpa [up] using hov) (by simp))
      | (go_at_call 16; (with_reducible refine (hfS.out _ _ _ r1 (bl_tr hb0 hcur)).mono ?_); rintro e w4 ⟨rfl, hb3⟩; replace hb3 := bl_tt hb3)
      | (go_at_call 34; (with_reducible refine (hfN.out _ _ r4 (bl_tr hb0 hcur)).mono ?_); rintro e w4 ⟨rfl, hb3⟩; replace hb3 := bl_tt hb3)
    · first
      | exact zC
      | intro γ γ' hg
        try dsimp only
        have e1 := hg 1 (by decide)
        simp only [e1]
        try exact ⟨trivial, fun _ h => h⟩
    · intro γ W W' hbl hR
      first | exact hR.below hbl | exact own_below hR hbl | exact trivial | exact ⟨hR.1.below hbl, hR.2⟩
    · rfl
    dsimp only [nA, cA]
    apply RGW.call (i := 2) rfl
    · exact zG
    · intro γ u W hcur hd
      obtain ⟨⟨h1, r1, -⟩, -⟩ := hd
      dsimp only at h1 r1
      (try simp only [h1])
      refine ⟨rfl, fun K hK => ?_⟩
      go_simp
      first
      | (go_at_call 11; (with_reducible refine (hcs.out _ (bl_tr hb0 hcur)).mono ?_); rintro e w4 ⟨Ax, cx, rfl, hb4, hox⟩; dsimp only; exact hK.out ⟨0, undef, Ax, cx⟩ _ _ (by simp [up]) hb4 (by simpa [up] using hox) (by simp))
      | (go_at_call 35; (with_reducible refine (hcn.out _ (bl_tr hb0 hcur)).mono ?_); rintro e w4 ⟨hb4, vv, rfl, hov⟩; dsimp only; exact hK.out ⟨0, vv, none, 0⟩ _ _ (by simp [up]) hb4 (by simpa [up] using hov) (by simp))
      | (go_at_call 16; (with_reducible refine (hfS.out _ _ _ r1 (bl_tr hb0 hcur)).mono ?_); rintro e w4 ⟨rfl, hb3⟩; replace hb3 := bl_tt hb3)
      | (go_at_call 34; (with_reducible refine (hfN.out _ _ r4 (bl_tr hb0 hcur)).mono ?_); rintro e w4 ⟨rfl, hb3⟩; replace hb3 := bl_tt hb3)
      (try dsimp only)
      exact hK.out _ _ rfl (by (exact zE))
    · first
      | exact zC
      | intro γ γ' hg
        try dsimp only
        have e1 := hg 1 (by decide)
        simp only [e1]
    · rfl
    dsimp only [nA, cA]
    apply RGW.on (i := 3) rfl
    · exact zG
    · intro γ u W hcur hd
      clear hd
      (try dsimp only)
      exact ⟨rfl, zS⟩
    · exact zC
    · rfl
    dsimp only [nA, cA]
    apply RGW.gh (⟨fun γ => (γ 4).v, fun γ W => NtV CN (γ 4).v W, fun _ => []⟩) (i := 4) rfl
    · exact zG
    · intro γ u W hcur hd
      obtain ⟨⟨h3, -, -⟩, -⟩ := hd
      dsimp only at h3
      (try simp only [h3])
      refine ⟨rfl, fun K hK => ?_⟩
      go_simp
      first
      | (go_at_call 11; (with_reducible refine (hcs.out _ (bl_tr hb0 hcur)).mono ?_); rintro e w4 ⟨Ax, cx, rfl, hb4, hox⟩; dsimp only; exact hK.out ⟨0, undef, Ax, cx⟩ _ _ (by simp [up]) hb4 (by simpa [up] using hox) (by simp))
      | (go_at_call 35; (with_reducible refine (hcn.out _ (bl_tr hb0 hcur)).mono ?_); rintro e w4 ⟨hb4, vv, rfl, hov⟩; dsimp only; exact hK.out ⟨0, vv, none, 0⟩ _ _ (by simp [up]) hb4 (by simpa [up] using hov) (by simp))
      | (go_at_call 16; (with_reducible refine (hfS.out _ _ _ r1 (bl_tr hb0 hcur)).mono ?_); rintro e w4 ⟨rfl, hb3⟩; replace hb3 := bl_tt hb3)
      | (go_at_call 34; (with_reducible refine (hfN.out _ _ r4 (bl_tr hb0 hcur)).mono ?_); rintro e w4 ⟨rfl, hb3⟩; replace hb3 := bl_tt hb3)
    · first
      | exact zC
      | intro γ γ' hg
        try dsimp only
        have e1 := hg 1 (by decide)
        have e4 := hg 4 (by decide)
        simp only [e1, e4]
        try exact ⟨trivial, fun _ h => h⟩
    · intro γ W W' hbl hR
      first | exact hR.below hbl | exact own_below hR hbl | exact trivial | exact ⟨hR.1.below hbl, hR.2⟩
    · rfl
    dsimp only [nA, cA]
    apply RGW.call (i := 5) rfl
    · exact zG
    · intro γ u W hcur hd
      obtain ⟨⟨h4, r4, -⟩, -⟩ := hd
      dsimp only at h4 r4
      (try simp only [h4])
      refine ⟨rfl, fun K hK => ?_⟩
      go_simp
      first
      | (go_at_call 11; (with_reducible refine (hcs.out _ (bl_tr hb0 hcur)).mono ?_); rintro e w4 ⟨Ax, cx, rfl, hb4, hox⟩; dsimp only; exact hK.out ⟨0, undef, Ax, cx⟩ _ _ (by simp [up]) hb4 (by simpa [up] using hox) (by simp))
      | (go_at_call 35; (with_reducible refine (hcn.out _ (bl_tr hb0 hcur)).mono ?_); rintro e w4 ⟨hb4, vv, rfl, hov⟩; dsimp only; exact hK.out ⟨0, vv, none, 0⟩ _ _ (by simp [up]) hb4 (by simpa [up] using hov) (by simp))
      | (go_at_call 16; (with_reducible refine (hfS.out _ _ _ r1 (bl_tr hb0 hcur)).mono ?_); rintro e w4 ⟨rfl, hb3⟩; replace hb3 := bl_tt hb3)
      | (go_at_call 34; (with_reducible refine (hfN.out _ _ r4 (bl_tr hb0 hcur)).mono ?_); rintro e w4 ⟨rfl, hb3⟩; replace hb3 := bl_tt hb3)
      (try dsimp only)
      exact hK.out _ _ rfl (by (exact zE))
    · first
      | exact zC
      | intro γ γ' hg
        try dsimp only
        have e1 := hg 1 (by decide)
        have e4 := hg 4 (by decide)
        simp only [e1, e4]
    · rfl
    dsimp only [nA, cA]
    apply RGW.on (i := 6) rfl
    · exact zG
    · intro γ u W hcur hd
      obtain ⟨⟨h1, r1, -⟩, ⟨h2, -, -⟩, -⟩ := hd
      dsimp only at h1 h2 r1
      (try simp only [h1, h2])
      exact ⟨rfl, zS⟩
    · first
      | exact zC
      | intro γ γ' hg
        try dsimp only
        have e1 := hg 1 (by decide)
        have e4 := hg 4 (by decide)
        simp only [e1, e4]
    · rfl
    dsimp only [nA, cA]
    apply RGW.on (i := 7) rfl
    · exact zG
    · intro γ u W hcur hd
      obtain ⟨⟨h4, r4, -⟩, ⟨h5, -, -⟩, -⟩ := hd
      dsimp only at h4 h5 r4
      (try simp only [h4, h5])
      exact ⟨rfl, zS⟩
    · first
      | exact zC
      | intro γ γ' hg
        try dsimp only
        have e1 := hg 1 (by decide)
        have e4 := hg 4 (by decide)
        simp only [e1, e4]
    · rfl
    dsimp only [nA, cA]
    refine RGW.fin (fun γ u wd hwd hd hdis => ?_)
    obtain ⟨⟨h0, -, -⟩, ⟨h1, r1, b1⟩, ⟨h2, -, -⟩, ⟨h3, -, -⟩, ⟨h4, r4, b4⟩, ⟨h5, -, -⟩, ⟨h6, -, -⟩, ⟨h7, -, -⟩, -⟩ := hd
    dsimp only at h0 h1 h2 h3 h4 h5 h6 h7 r1 r4 b1 b4
    clear hdis
    simp only [h0, h1, h2, h3, h4, h5, h6, h7]
    clear h7 h6 h5 h4 h3 h2 h1 h0
    clear u
    simp only [List.map_nil]
    refine PlanW.done ?_
    have hb3 := bl_tt hwd
    clear L0 r1 r4 hcs hcn hfS hfN
    replace hb0 := bl_tr hb0 hwd
    replace k0 := k0.below hwd
    go_wp2_with fail
    refine (hpS.out _ hb0).mono ?_
    rintro e w4 ⟨hb4, A4, c4, rfl, hx4⟩
    replace hb0 := bl_tr hb0 hb4
    replace k0 := k0.below hb4
    clear hpS
    go_wp2_with fail
    refine (hpN.out _ hb0).mono ?_
    rintro e w5 ⟨hb5, m5, Bp, Bf, Bm, dp, df, dm, hc5, ho5, rfl⟩
    replace hb0 := bl_tr hb0 hb5
    replace k0 := k0.below hb5
    replace hx4 := hx4.below hb5
    clear hpN
    replace hc5 := Lib.hid hc5
    replace ho5 := Lib.hid ho5
    replace hx4 := Lib.hid hx4
    go_upto_region 8 with fail
    have k11 := Blk.new w5 58 #[.slice Bp m5.ps.length dp, .slice Bf m5.fs.length df, .slice Bm m5.ms.length dm]
    have hb6 := bl_al (.cells #[.slice Bp m5.ps.length dp, .slice Bf m5.fs.length df, .slice Bm m5.ms.length dm] 58) (bl_refl w5)
    replace hb0 := bl_tr hb0 hb6
    replace k0 := k0.below hb6
    replace hx4 := Lib.hid (hx4.out.below hb6)
    replace ho5 := Lib.hid (ho5.out.below hb6)
    obtain ⟨g11, hg11⟩ : ∃ g, Hid (w5.heap.size = g) := ⟨_, rfl⟩
    rw [hg11.out] at k11 ⊢
    generalize w5.alloc (.cells #[.slice Bp m5.ps.length dp, .slice Bf m5.fs.length df, .slice Bm m5.ms.length dm] 58) = w6 at *
    go_wp2_with fail
    refine (hqS.out _).mono ?_
    rintro e w7 ⟨hb7, A7, c7, rfl, hx7⟩
    replace hb0 := bl_tr hb0 hb7
    replace k0 := k0.below hb7
    replace k11 := k11.below hb7
    replace hx4 := Lib.hid (hx4.out.below hb7)
    replace ho5 := Lib.hid (ho5.out.below hb7)
    replace hx7 := Lib.hid hx7
    clear hqS
    go_wp2_with fail
    refine (hqN.out _).mono ?_
    rintro e w8 ⟨hb8, m8, Cp, Cf, Cm, ep, ef, em, hc8, ho8, rfl⟩
    replace hb0 := bl_tr hb0 hb8
    replace k0 := k0.below hb8
    replace k11 := k11.below hb8
    replace hx4 := Lib.hid (hx4.out.below hb8)
    replace ho5 := Lib.hid (ho5.out.below hb8)
    replace hx7 := Lib.hid (hx7.out.below hb8)
    replace hc8 := Lib.hid hc8
    replace ho8 := Lib.hid ho8
    clear hqN
    go_upto_region 10 with fail
    have k15 := Blk.new w8 58 #[.slice Cp m8.ps.length ep, .slice Cf m8.fs.length ef, .slice Cm m8.ms.length em]
    have hb9 := bl_al (.cells #[.slice Cp m8.ps.length ep, .slice Cf m8.fs.length ef, .slice Cm m8.ms.length em] 58) (bl_refl w8)
    replace hb0 := bl_tr hb0 hb9
    replace k0 := k0.below hb9
    replace k11 := k11.below hb9
    replace hx4 := Lib.hid (hx4.out.below hb9)
    replace ho5 := Lib.hid (ho5.out.below hb9)
    replace hx7 := Lib.hid (hx7.out.below hb9)
    replace ho8 := Lib.hid (ho8.out.below hb9)
    obtain ⟨g15, hg15⟩ : ∃ g, Hid (w8.heap.size = g) := ⟨_, rfl⟩
    rw [hg15.out] at k15 ⊢
    generalize w8.alloc (.cells #[.slice Cp m8.ps.length ep, .slice Cf m8.fs.length ef, .slice Cm m8.ms.length em] 58) = w9 at *
    go_wp2_with fail
    refine (hrS.out _ hb0).mono ?_
    rintro e w10 ⟨rfl, hb10⟩
    replace hb0 := bl_tr hb0 hb10
    replace k0 := k0.below hb10
    replace k11 := k11.below hb10
    replace k15 := k15.below hb10
    replace hx4 := Lib.hid (hx4.out.below hb10)
    replace ho5 := Lib.hid (ho5.out.below hb10)
    replace hx7 := Lib.hid (hx7.out.below hb10)
    replace ho8 := Lib.hid (ho8.out.below hb10)
    have L0 := k0.cell
    clear hrS
    go_wp2_with fail
    refine (hrN.out _ hb0).mono ?_
    rintro e w11 ⟨rfl, hb11⟩
    replace hb0 := bl_tr hb0 hb11
    replace k0 := k0.below hb11
    replace k11 := k11.below hb11
    replace k15 := k15.below hb11
    replace hx4 := Lib.hid (hx4.out.below hb11)
    replace ho5 := Lib.hid (ho5.out.below hb11)
    replace hx7 := Lib.hid (hx7.out.below hb11)
    replace ho8 := Lib.hid (ho8.out.below hb11)
    clear L0 hrN
    go_wp2_with fail
    refine (hsml.out _ _ _ _ _ hx4.out hx7.out).mono ?_
    rintro e w12 ⟨rfl, hb12⟩
    replace hb0 := bl_tr hb0 hb12
    replace k0 := k0.below hb12
    replace k11 := k11.below hb12
    replace k15 := k15.below hb12
    replace hx4 := Lib.hid (hx4.out.below hb12)
    replace ho5 := Lib.hid (ho5.out.below hb12)
    replace hx7 := Lib.hid (hx7.out.below hb12)
    replace ho8 := Lib.hid (ho8.out.below hb12)
    have hsnn := Lib.hid (show Calls Tryz.prog 36 #[.agg #[.slice Bp m5.ps.length dp, .slice Bf m5.fs.length df, .slice Bm m5.ms.length dm], .agg #[.slice Cp m8.ps.length ep, .slice Cf m8.fs.length ef, .slice Cm m8.ms.length em]] w12 (Ret (.bool true) w12) from r_SameNetE m5 m8 Bp Bf Bm Cp Cf Cm dp df dm ep ef em w12 ho5.out.net ho8.out.net (hc8.out.trans hc5.out.symm))
    have L11 := k11.cell
    have L15 := k15.cell
    clear hx4 hx7 hsml
    go_wp2_with fail
    refine hsnn.out.mono ?_
    rintro e w13 ⟨rfl, hb13⟩
    replace hb0 := bl_tr hb0 hb13
    replace k0 := k0.below hb13
    clear L11 L15 hsnn k11 k15 ho5 ho8 hc5 hc8
    go_wp2_with fail
    refine (hse.out _ hb0).mono ?_
    rintro e w14 ⟨rfl, hb14⟩
    replace hb0 := bl_tr hb0 hb14
    replace k0 := k0.below hb14
    clear hse
    by_cases hes0 : es = 0
    case' pos =>
      subst hes0
      go_wp2_with fail
      refine (hv1.out (by trivial) _ hb0).mono ?_
      rintro e w15 ⟨hb15, A15, c15, rfl, hx15⟩
      replace hb0 := bl_tr hb0 hb15
      replace k0 := k0.below hb15
      go_wp2_with fail
      refine (hsml2.out _ _ _ hx15 hb0).mono ?_
      rintro e w16 ⟨rfl, hb16⟩
      replace hb0 := bl_tr hb0 hb16
      replace k0 := k0.below hb16
      clear hv1 hsml2 hx15 hb15 hb16 hes
    case' neg =>
      have hes1 : (es == 0) = false := by simp [hes0]
      replace hes0 := Lib.hid hes0
    all_goals
      have L0 := k0.cell
      go_wp2_with fail
      refine (hne.out _ hb0).mono ?_
      rintro e w17 ⟨rfl, hb17⟩
      replace hb0 := bl_tr hb0 hb17
      replace k0 := k0.below hb17
      clear L0
      by_cases hen0 : en = 0
      · subst hen0
        go_wp2_with fail
        refine (hv2.out (by trivial) _ hb0).mono ?_
        rintro e w18 ⟨hb18, m18, Dp, Df, Dm, fp, ff, fm, hc18, ho18, rfl⟩
        replace hb0 := bl_tr hb0 hb18
        replace k0 := k0.below hb18
        go_upto_region 19 with fail
        have k19 := Blk.new w18 58 #[.slice Dp m18.ps.length fp, .slice Df m18.fs.length ff, .slice Dm m18.ms.length fm]
        have hb19 := bl_al (.cells #[.slice Dp m18.ps.length fp, .slice Df m18.fs.length ff, .slice Dm m18.ms.length fm] 58) (bl_refl w18)
        replace hb0 := bl_tr hb0 hb19
        replace k0 := k0.below hb19
        have hsnn := Lib.hid (hsn.out m18 Dp Df Dm fp ff fm _ (ho18.below hb19).net hc18 hb0)
        obtain ⟨g19, hg19⟩ : ∃ g, Hid (w18.heap.size = g) := ⟨_, rfl⟩
        rw [hg19.out] at k19 ⊢
        generalize w18.alloc (.cells #[.slice Dp m18.ps.length fp, .slice Df m18.fs.length ff, .slice Dm m18.ms.length fm] 58) = w19 at *
        have L0 := k0.cell
        have L19 := k19.cell
        clear hc18 ho18
        go_wp2_with fail
        refine hsnn.out.mono ?_
        rintro e w20 ⟨rfl, hb20⟩
        go_wp2
        go_ret
        exact ⟨rfl, bl_tr hb0 hb20⟩
      · have hen1 : (en != 0) = true := by simp [hen0]
        replace hen0 := Lib.hid hen0
        go_wp2
        go_ret
        exact ⟨rfl, hb0⟩
end Go.Proofs.YtbdgblnccjpahaaGreatDoor
namespace Go.Proofs.YtbdgblnccjpahaaGreatDoor
open Go.ChangeShapes Go.WideShapes Go.ChangeAt Go.RowKit Go.Deep
set_option maxRecDepth 20000
/-- What the library's variables hold, out of the row's condition. -/
theorem env_of {W : World} (h : laidMetH Tryz.prog Rows.busStringsRow.laid W) : Env W := by
  rw [MakeChecks.laidMetH_plain _ _ _ (by kernel_rfl)] at h
  obtain ⟨ps, ⟨g0, t0, cs0, f0, p0, q0, hg0, ht0, hv0, hd0, ⟨g1, t1, cs1, f1, p1, q1, hg1, ht1, hv1, hd1, ⟨g2, t2, cs2, f2, p2, q2, hg2, ht2, hv2, hd2, ⟨g3, t3, cs3, f3, p3, q3, hg3, ht3, hv3, hd3, ⟨g4, t4, cs4, f4, p4, q4, hg4, ht4, hv4, hd4, ⟨g5, t5, cs5, f5, p5, q5, hg5, ht5, hv5, hd5, _, _⟩, _⟩, _⟩, _⟩, _⟩, _⟩, _, _⟩ := h
  have hT : Tab W := by
    obtain rfl := Option.some.inj ((show Tryz.prog.globalNamed "math/bits.deBruijn64tab" = some 2 by kernel_rfl).symm.trans hg1)
    obtain rfl := Option.some.inj ((show (Tryz.prog.globals[2 ]?).map (·.type) = some 260 by kernel_rfl).symm.trans ht1)
    have hlaid : (Rows.laid_math_bits_deBruijn64tab : DataW Unit) = Lib.tabData .u8 (Lib.deBruijn64tab.map fun n : Nat => (n : Int)) := rfl
    rw [hlaid] at hd1
    have hc := Lib.cells_of_tab Tryz.underlying260 Tryz.underlying5 (by kernel_rfl) (by kernel_rfl) hd1
    intro j hj
    have hlen : Lib.deBruijn64tab.length = 64 := by kernel_rfl
    have h1 := World.var?_cell (show Tryz.prog.globalNamed "math/bits.deBruijn64tab" = some 2 by kernel_rfl) hv1 j
    have h2 : cs1.toList[j]? = some (.int .u8 ((Lib.deBruijn64tab.getD j 0 : Nat) : Int)) := by
      rw [hc]
      simp [List.getD, List.getElem?_eq_getElem (show j < Lib.deBruijn64tab.length by omega)]
    rw [h1]
    simpa using h2
  refine ⟨hT, ?_, ?_, ?_⟩
  · have e5 : t5 = 190 := by
      have h := (show (Tryz.prog.globalNamed "strconv.ErrSyntax").bind (fun g => (Tryz.prog.globals[g]?).map (·.type)) = some 190 by kernel_rfl)
      rw [hg5] at h
      exact Option.some.inj (ht5.symm.trans h)
    subst e5
    obtain ⟨f', u, v, e, -, -⟩ := iface_of_trod Tryz.underlying190 hd5
    exact ⟨u, v, by rw [hv5]; congr 1; apply Array.toList_inj.1; exact e⟩
  · have e4 : t4 = 190 := by
      have h := (show (Tryz.prog.globalNamed "strconv.ErrRange").bind (fun g => (Tryz.prog.globals[g]?).map (·.type)) = some 190 by kernel_rfl)
      rw [hg4] at h
      exact Option.some.inj (ht4.symm.trans h)
    subst e4
    obtain ⟨f', u, v, e, -, -⟩ := iface_of_trod Tryz.underlying190 hd4
    exact ⟨u, v, by rw [hv4]; congr 1; apply Array.toList_inj.1; exact e⟩
  · have e2 : t2 = 284 := by
      have h := (show (Tryz.prog.globalNamed "internal/strconv.uint64pow10").bind (fun g => (Tryz.prog.globals[g]?).map (·.type)) = some 284 by kernel_rfl)
      rw [hg2] at h
      exact Option.some.inj (ht2.symm.trans h)
    subst e2
    have hlaid : (Rows.laid_internal_strconv_uint64pow10 : DataW Unit) = Lib.tabData .u64 Lib.pow10Tab := rfl
    rw [hlaid] at hd2
    have hc := Lib.cells_of_tab Tryz.underlying284 Tryz.underlying242 (by kernel_rfl) (by kernel_rfl) hd2
    unfold Lib.TabIs
    rw [hv2, ← hc]
end Go.Proofs.YtbdgblnccjpahaaGreatDoor
namespace Go.Proofs.YtbdgblnccjpahaaGreatDoor
open Go.ChangeShapes Go.WideShapes Go.ChangeAt Go.RowKit Go.Deep
set_option maxRecDepth 20000
section
variable {H : Type} {enc : TypeId × Value → H} {w : World} {base : Nat} {spare : Nat → Bool} {held : Bool} {fuel : Nat} {cs : List Value} {y : DataW H × List MemPlace}
theorem rd_intF (h : DataW.trod enc Tryz.prog w base spare held fuel 3 cs = some y) : ∃ x, cs = [.int .i64 x] ∧ Fits x := by
  obtain ⟨x, e, -, hw⟩ := DataW.trod_int Tryz.underlying3 h
  refine ⟨x, e, ?_⟩
  rw [Lit.wf, Bool.and_eq_true, decide_eq_true_eq, decide_eq_true_eq] at hw
  exact ⟨hw.1, hw.2⟩
theorem rd_IsF (h : DataW.trod enc Tryz.prog w base spare held fuel 23 cs = some y) : ∃ A c, ∃ l : List Int, cs = [.slice A l.length c] ∧ l.length ≤ c ∧ c ≤ maxLen ∧ Sl cI 1 w A l ∧ ∀ v ∈ l, Fits v :=
  rd_slice (c := cI) (ok := Fits) Tryz.underlying23 ci (by decide) (fun _ => rfl) (fun _ _ _ hz => rd_intF hz) h
theorem rd_SmF (h : DataW.trod enc Tryz.prog w base spare held fuel 43 cs = some y) : ∃ s : Sm, cs = cSm s ∧ Fits s.per ∧ Fits s.dl ∧ Fits s.len := by
  obtain ⟨xs, n, -, -, hl, hlen, hf⟩ := DataW.trod_struct Tryz.underlying43 h
  rw [cSm4] at hl
  obtain ⟨c0, c1, c2, c3, rfl⟩ := len4 hl
  obtain ⟨x0, x1, x2, x3, rfl⟩ := len4 (show xs.length = 4 from hlen)
  have h0 := hf 0 _ rfl
  have h1 := hf 1 _ rfl
  have h2 := hf 2 _ rfl
  have h3 := hf 3 _ rfl
  simp [ci, cS1] at h0 h1 h2 h3
  obtain ⟨s, e0, -, hs⟩ := DataW.trod_string Tryz.underlying9 h0
  obtain ⟨a, e1, f1⟩ := rd_intF h1
  obtain ⟨b, e2, f2⟩ := rd_intF h2
  obtain ⟨c, e3, f3⟩ := rd_intF h3
  simp at e0 e1 e2 e3
  exact ⟨⟨s, a, b, c⟩, by rw [e0, e1, e2, e3]; rfl, f1, f2, f3⟩
theorem rd_SmsF (h : DataW.trod enc Tryz.prog w base spare held fuel 22 cs = some y) : ∃ A c, ∃ l : List Sm, cs = [.slice A l.length c] ∧ l.length ≤ c ∧ c ≤ maxLen ∧ Sl cSm 4 w A l ∧ ∀ s ∈ l, Fits s.per ∧ Fits s.dl ∧ Fits s.len :=
  rd_slice (c := cSm) (ok := fun s : Sm => Fits s.per ∧ Fits s.dl ∧ Fits s.len) Tryz.underlying22 cSm4 (by decide) (fun _ => rfl) (fun _ _ _ hz => rd_SmF hz) h
def RwF (r : Rw) (w : World) : Prop := RwR r w ∧ ∀ v ∈ r.l, Fits v
def FuF (f : Fu) (w : World) : Prop := FuR f w ∧ ∀ r ∈ f.ws, ∀ v ∈ r.l, Fits v
def MdF (f : Md) (w : World) : Prop := MdR f w ∧ ∀ v ∈ f.r.l, Fits v
theorem rd_RwF (h : DataW.trod enc Tryz.prog w base spare held fuel 23 cs = some y) : ∃ r : Rw, cs = cRw r ∧ RwF r w := by
  obtain ⟨A, c, l, e, h1, -, h3, h4⟩ := rd_IsF h
  exact ⟨⟨A, c, l⟩, e, ⟨h1, h3⟩, h4⟩
theorem rd_RwsF (h : DataW.trod enc Tryz.prog w base spare held fuel 53 cs = some y) : ∃ A c, ∃ l : List Rw, cs = [.slice A l.length c] ∧ l.length ≤ c ∧ c ≤ maxLen ∧ Sl cRw 1 w A l ∧ ∀ r ∈ l, RwF r w :=
  rd_slice (c := cRw) (ok := fun r : Rw => RwF r w) Tryz.underlying53 cRw1 (by decide) (fun _ => rfl) (fun _ _ _ hz => rd_RwF hz) h
theorem rd_FuF (h : DataW.trod enc Tryz.prog w base spare held fuel 144 cs = some y) : ∃ f : Fu, cs = cFu f ∧ FuF f w := by
  obtain ⟨xs, n, -, -, hl, hlen, hf⟩ := DataW.trod_struct Tryz.underlying144 h
  rw [cFu2] at hl
  obtain ⟨c0, c1, rfl⟩ := len2 hl
  obtain ⟨x0, x1, rfl⟩ := len2 (show xs.length = 2 from hlen)
  have h0 := hf 0 _ rfl
  have h1 := hf 1 _ rfl
  simp [cTx1, cWs1] at h0 h1
  obtain ⟨s, e0, -, hs⟩ := DataW.trod_string Tryz.underlying9 h0
  obtain ⟨A, c, l, e1, g1, -, g3, g4⟩ := rd_RwsF h1
  simp at e0 e1
  exact ⟨⟨s, A, c, l⟩, by rw [e0, e1]; rfl, ⟨hs, g1, g3, fun r hr => (g4 r hr).1⟩, fun r hr => (g4 r hr).2⟩
theorem rd_MdF (h : DataW.trod enc Tryz.prog w base spare held fuel 146 cs = some y) : ∃ f : Md, cs = cMd f ∧ MdF f w := by
  obtain ⟨xs, n, -, -, hl, hlen, hf⟩ := DataW.trod_struct Tryz.underlying146 h
  rw [cMd2] at hl
  obtain ⟨c0, c1, rfl⟩ := len2 hl
  obtain ⟨x0, x1, rfl⟩ := len2 (show xs.length = 2 from hlen)
  have h0 := hf 0 _ rfl
  have h1 := hf 1 _ rfl
  simp [cTx1, cRw1] at h0 h1
  obtain ⟨s, e0, -, hs⟩ := DataW.trod_string Tryz.underlying9 h0
  obtain ⟨r, e1, hr⟩ := rd_RwF h1
  simp [cRw] at e0 e1
  exact ⟨⟨s, r⟩, by rw [e0, e1]; rfl, ⟨hs, hr.1⟩, hr.2⟩
theorem rd_FusF (h : DataW.trod enc Tryz.prog w base spare held fuel 55 cs = some y) : ∃ A c, ∃ l : List Fu, cs = [.slice A l.length c] ∧ l.length ≤ c ∧ c ≤ maxLen ∧ Sl cFu 2 w A l ∧ ∀ f ∈ l, FuF f w :=
  rd_slice (c := cFu) (ok := fun f : Fu => FuF f w) Tryz.underlying55 cFu2 (by decide) (fun _ => rfl) (fun _ _ _ hz => rd_FuF hz) h
theorem rd_MdsF (h : DataW.trod enc Tryz.prog w base spare held fuel 56 cs = some y) : ∃ A c, ∃ l : List Md, cs = [.slice A l.length c] ∧ l.length ≤ c ∧ c ≤ maxLen ∧ Sl cMd 2 w A l ∧ ∀ f ∈ l, MdF f w :=
  rd_slice (c := cMd) (ok := fun f : Md => MdF f w) Tryz.underlying56 cMd2 (by decide) (fun _ => rfl) (fun _ _ _ hz => rd_MdF hz) h
theorem rd_NtF (h : DataW.trod enc Tryz.prog w base spare held fuel 58 cs = some y) : ∃ (n : Nt) (Ap Af Am : Option Addr) (cp cf cm : Nat), cs = [.slice Ap n.ps.length cp, .slice Af n.fs.length cf, .slice Am n.ms.length cm] ∧ NtR n Ap Af Am cp cf cm w ∧ NtNum n := by
  obtain ⟨xs, n, -, -, hl, hlen, hf⟩ := DataW.trod_struct Tryz.underlying58 h
  rw [cNt3] at hl
  obtain ⟨c0, c1, c2, rfl⟩ := len3 hl
  obtain ⟨x0, x1, x2, rfl⟩ := len3 (show xs.length = 3 from hlen)
  have h0 := hf 0 _ rfl
  have h1 := hf 1 _ rfl
  have h2 := hf 2 _ rfl
  simp [cTs1, cFs1, cMm1] at h0 h1 h2
  obtain ⟨Ap, cp, ps, e0, a1, -, a3, a4⟩ := rd_Txs h0
  obtain ⟨Af, cf, fs, e1, b1, -, b3, b4⟩ := rd_FusF h1
  obtain ⟨Am, cm, ms, e2, d1, -, d3, d4⟩ := rd_MdsF h2
  simp at e0 e1 e2
  exact ⟨⟨ps, fs, ms⟩, Ap, Af, Am, cp, cf, cm, by rw [e0, e1, e2], ⟨a1, b1, d1, a3, b3, d3, a4, fun f hf => (b4 f hf).1, fun f hf => (d4 f hf).1⟩, fun f hf => (b4 f hf).2, fun f hf => (d4 f hf).2⟩
end
end Go.Proofs.YtbdgblnccjpahaaGreatDoor
