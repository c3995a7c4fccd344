/-
  Walk: the reference's streams of a string.
  Walk: the reference's string of a number.
  Walk: the reference's numbers joined.
  Walk: the reference's string of a net.
-/
import Derived.Test.YtbdgblnccjpahaaGreatDoorVStrings5
import Derived.Test.YtbdgblnccjpahaaGreatDoorU12
import Derived.Test.YtbdgblnccjpahaaGreatDoorU7
import Derived.Test.YtbdgblnccjpahaaGreatDoorU10
import Derived.Test.YtbdgblnccjpahaaGreatDoorU14
set_option linter.unusedSimpArgs false
set_option linter.unusedVariables false
namespace Go.Proofs.YtbdgblnccjpahaaGreatDoor
open Go.RowKit Go.Shelf
attribute [local go_sem] bl_al bl_drew bl_drewN bl_refl bx_al bx_drew bx_drewN bx_refl
set_option maxRecDepth 20000
theorem part_split (p : List UInt8) : ((splitC 32 p).length ≠ 4 → partOk p = false) ∧ ((splitC 32 p).length = 4 → splitC 32 p = (cutC 32 p).1 :: prt p ∧ (prt p).length = 3) := by
  rw [splitC_cut]
  cases h : (cutC 32 p).2.2
  · have hc := cutC_no 32 p h
    have : (prt p).length = 1 := by unfold prt; rw [hc]; rfl
    refine ⟨fun _ => ?_, fun h4 => by simp at h4⟩
    unfold partOk
    rw [this]
    simp
  · simp only [if_true, List.length_cons]
    refine ⟨fun h4 => ?_, fun h4 => ⟨rfl, by unfold prt; omega⟩⟩
    unfold partOk
    have : ¬ (prt p).length = 3 := by unfold prt; omega
    simp [this]
/-- The box of three numbers, of which so many are set. -/
def arr3 (v : Nat → Int) (j : Nat) : Array Value := #[.int .i64 (if 0 < j then v 0 else 0), .int .i64 (if 1 < j then v 1 else 0), .int .i64 (if 2 < j then v 2 else 0)]
theorem arr3_set (v : Nat → Int) : ∀ j, j < 3 → (arr3 v j).setIfInBounds j (.int .i64 (v j)) = arr3 v (j + 1)
  | 0, _ => rfl
  | 1, _ => rfl
  | 2, _ => rfl
  | j + 3, h => by omega
theorem arr3_get (v : Nat → Int) : ∀ j, j < 3 → (arr3 v j)[j]? = some (.int .i64 0)
  | 0, _ => rfl
  | 1, _ => rfl
  | 2, _ => rfl
  | j + 3, h => by omega
set_option maxHeartbeats 8000000 in
theorem r_ParseStreams (l : List UInt8) (w : World) (hl : l.length ≤ 900) :
    Calls Tryz.prog 51 #[.string ⟨l.toArray⟩] w (fun e w' => Below w.heap.size w w' ∧
      (psE l ≠ 0 → e = .returned (.tuple #[.slice none 0 0, .int .i64 (psE l)])) ∧
      (psE l = 0 → ∃ A2 c2, e = .returned (.tuple #[.slice A2 (splitC 59 l).length c2, .int .i64 0]) ∧ w'.ownsRow w.heap.size 43 4 (.slice A2 (splitC 59 l).length c2) (splitC 59 l).length ((psV (splitC 59 l)).flatMap cSm))) := by
  obtain ⟨i0, hi, hz0, hz1, hz2⟩ := info_parts infoSmz
  have hcut := Lib.hid fun W => r_CutB l 59 W (by omega)
  have hlen := splitC_len 59 l
  have hmem := Lib.hid (splitC_mem 59 l)
  have hE1 : Hid (psOk (splitC 59 l) = false → psE l = 7) := fun h => by rw [psE, if_neg (by omega), h]; rfl
  have hE2 : Hid (psOk (splitC 59 l) = true → psE l = smsErr (psV (splitC 59 l))) := fun h => by rw [psE, if_neg (by omega), h]; rfl
  generalize psE l = E at *
  obtain ⟨xs, hxs⟩ : ∃ xs, Hid (splitC 59 l = xs) := ⟨_, rfl⟩
  rw [hxs.out] at hlen hmem hcut hE1 hE2 ⊢
  obtain ⟨n, Hn⟩ : ∃ n, Hid (xs.length = n) := ⟨_, rfl⟩
  rw [Hn.out] at hlen hcut ⊢
  have hst := Lib.hid fun k p (h : xs[k]? = some p) => (show psOk (xs.take (k + 1)) = (psOk (xs.take k) && partOk p) ∧ psV (xs.take (k + 1)) = psV (xs.take k) ++ [partSm p] by
    rw [List.take_add_one, h]
    exact ⟨psOk_snoc _ _, psV_snoc _ _⟩)
  have hl6 : ¬ (60000 : Int) < l.length := by omega
  go_enter Tryz.func51, Tryz.ntmps51
  go_upto_region 4 with fail
  clear hl6
  go_wp2_with fail
  refine (hcut.out _).mono ?_
  rintro e w1 ⟨A1, c1, rfl, hb1, ho1⟩
  have hsl : Hid (Sl cB 1 w1 A1 xs) := own_slC (cs := cB) (fun _ => rfl) (by decide) (by rw [Hn.out]; exact ho1)
  clear ho1 hcut
  go_wp2
  go_loopw [4, 6] (fun v i wr => ∃ k : Nat, k ≤ n ∧ i = .int .i64 k ∧ Below w1.heap.size w1 wr ∧ Hid (psOk (xs.take k) = true) ∧ wr.ownsRow w1.heap.size 43 4 v k ((psV (xs.take k)).flatMap cSm)) (fun _ i _ => n - (intOf i).toNat)
  case atStart => exact ⟨0, Nat.zero_le _, rfl, bl_refl _, rfl, World.ownsRow_nil _ _ _ _⟩
  case round =>
    obtain ⟨k, hk, rfl, hb0, hok, ho⟩ := hrel
    obtain ⟨vA, vc, rfl⟩ := own_slice ho
    replace ho := Lib.hid ho
    by_cases hkn : k < n
    rotate_left
    · obtain rfl : n = k := by omega
      have ht : xs.take n = xs := by rw [← Hn.out, List.take_length]
      rw [ht] at hok ho
      have hEs := Lib.hid (hE2.out hok.out)
      have hnl := psV_len xs
      rw [Hn.out] at hnl
      have hcap : n ≤ vc := by
        rcases ho.out.2 with ⟨h, -⟩ | ⟨_, _, _, e, _, _, h, _⟩
        · injection h with _ h1 h2
          omega
        · injection e with _ _ e
          omega
      have hsm : SmIn (psV xs) vA vc wr := ⟨by omega, by omega, fun s hs => by
        obtain ⟨p, hp, rfl⟩ := List.mem_map.1 hs
        have h3 := hmem.out p hp
        have h4 := (cutC_len 32 p).1
        show (cutC 32 p).1.length ≤ maxLen
        unfold maxLen
        omega, own_slC (cs := cSm) (fun _ => rfl) (by decide) (by rw [hnl]; exact ho.out)⟩
      have hse := Lib.hid (r_StreamsErr (psV xs) vA vc wr hsm)
      rw [hnl, ← hEs.out] at hse
      replace hnl := Lib.hid hnl
      go_wp2_with fail
      refine hse.out.mono ?_
      rintro e w5 ⟨rfl, hb5⟩
      replace hb0 := bl_tr hb0 hb5
      replace ho := Lib.hid (own_below ho.out hb5)
      clear hb5 hse hsm
      by_cases hE0 : E = 0
      · subst hE0
        go_wp2
        go_ret2
        exact ⟨bl_tr hb1 hb0, by first | exact ⟨vA, vc, rfl, own_mono hb1.size ho.out⟩ | exact ⟨fun h => absurd rfl h, fun _ => ⟨vA, vc, rfl, own_mono hb1.size ho.out⟩⟩⟩
      · have hne : (E != 0) = true := by simp [hE0]
        replace hE0 := Lib.hid hE0
        go_wp2
        go_ret2
        exact ⟨bl_tr hb1 hb0, by first | exact ⟨fun _ => rfl, fun h => absurd h hE0.out⟩ | simp [hE0.out]⟩
    have hx : xs[k]? = some (xs[k]'(by rw [Hn.out]; exact hkn)) := List.getElem?_eq_getElem _
    generalize xs[k]'(by rw [Hn.out]; exact hkn) = p at hx
    obtain ⟨s1, s2⟩ := hst.out k p hx
    have hpl := hmem.out p (List.mem_of_getElem? hx)
    rw [hok.out, Bool.true_and] at s1
    have hcp := Lib.hid fun W => r_CutB p 32 W (by omega)
    obtain ⟨t1, t2⟩ := part_split p
    obtain ⟨b, off, rfl, hc⟩ := hsl.out k p hx
    have c0 : wr.cell? ⟨b, off + k, none⟩ = some (.string ⟨p.toArray⟩) := by simpa using kcell hb0 (hc 0 _ rfl)
    have hkn2 : (k : Int) < n := by omega
    have hbad := Lib.hid fun (h : partOk p = false) => (show E = 7 from hE1.out (psOk_prefix (List.take_prefix (k + 1) xs) (by rw [s1, h])))
    clear hc
    replace s1 := Lib.hid s1
    replace hx := Lib.hid hx
    have hpd : Hid (partOk p = (natsOk (prt p) && decide ((prt p).length = 3) && decide ((cutC 32 p).1 ≠ []))) := rfl
    have hpv : Hid (partSm p = ⟨⟨(cutC 32 p).1.toArray⟩, (natsV (prt p))[0]?.getD 0, (natsV (prt p))[1]?.getD 0, (natsV (prt p))[2]?.getD 0⟩) := rfl
    have hpm := Lib.hid fun q (hq : q ∈ prt p) => (show q.length ≤ 60000 by
      have h1 := splitC_mem 32 (cutC 32 p).2.1 q hq
      have h2 := (cutC_len 32 p).2
      omega)
    have hlen2 := splitC_len 32 p
    obtain ⟨Y, hY⟩ : ∃ z, Hid (splitC 32 p = z) := ⟨_, rfl⟩
    rw [hY.out] at t1 t2 hcp hlen2
    generalize prt p = P at *
    obtain ⟨a1, ha1⟩ : ∃ z, Hid ((cutC 32 p).1 = z) := ⟨_, rfl⟩
    rw [ha1.out] at t2 hpd hpv
    by_cases h2 : Y.length = 4
    rotate_left
    · have hb := Lib.hid (hbad.out (t1 h2))
      have h2' : ((Y.length : Int) != 4) = true := by simp; omega
      replace h2 := Lib.hid h2
      clear t1 t2 hbad
      go_wp2_with fail
      refine (hcp.out _).mono ?_
      rintro e w2 ⟨A2, c2, rfl, hb2, -⟩
      go_wp2
      go_ret2
      exact ⟨bl_tr hb1 (bl_tr hb0 hb2), fun _ => by rw [hb.out] <;> rfl, fun h => absurd (h.symm.trans hb.out) (by decide)⟩
    obtain ⟨hYe, hP3⟩ := t2 h2
    rw [hYe] at hcp
    clear t1 t2 h2 hlen2 hpl
    replace hYe := Lib.hid hYe
    match P, hP3 with
    | [q0, q1, q2], _ =>
    simp only [List.length_cons, List.length_nil, Nat.zero_add, Nat.reduceAdd] at hcp
    go_wp2_with fail
    refine (hcp.out _).mono ?_
    rintro e w2 ⟨A2, c2, rfl, hb2, ho2⟩
    have hs2 := own_slC (cs := cB) (l := [a1, q0, q1, q2]) (fun _ => rfl) (by decide) ho2
    obtain ⟨b2, o2, rfl, hc0⟩ := hs2 0 a1 rfl
    have d0 : ∀ W, Below w2.heap.size w2 W → W.cell? ⟨b2, o2, none⟩ = some (.string ⟨a1.toArray⟩) := later (by simpa using hc0 0 _ rfl)
    have dq : Hid (∀ j q, [q0, q1, q2][j]? = some q → ∀ W, Below w2.heap.size w2 W → W.cell? ⟨b2, o2 + (j + 1), none⟩ = some (.string ⟨q.toArray⟩)) := Lib.hid fun j q hq => by
      obtain ⟨b3, o3, e3, hc1⟩ := hs2 (j + 1) q (by simpa using hq)
      injection e3 with e3
      injection e3 with e3 e4 _
      subst e3 e4
      exact later (by simpa using hc1 0 _ rfl)
    have d00 := d0 w2 (bl_refl _)
    clear hs2 hc0 ho2 hcp c0
    replace hb0 := bl_tr hb0 hb2
    replace ho := Lib.hid (own_below ho.out hb2)
    clear hb2
    cases a1 with
    | nil =>
      have hb := Lib.hid (hbad.out (by rw [hpd.out]; simp))
      go_wp2
      go_ret2
      exact ⟨bl_tr hb1 hb0, fun _ => by rw [hb.out] <;> rfl, fun h => absurd (h.symm.trans hb.out) (by decide)⟩
    | cons x0 xr =>
      replace hpd := Lib.hid (show partOk p = natsOk [q0, q1, q2] by rw [hpd.out]; simp)
      have hbad2 := Lib.hid fun (h : natsOk [q0, q1, q2] = false) => hbad.out (hpd.out.trans h)
      clear hbad
      obtain ⟨v, hv⟩ : ∃ v : Nat → Int, Hid (∀ j, v j = (natsV [q0, q1, q2])[j]?.getD 0) := ⟨_, fun _ => rfl⟩
      have hv2 : Hid (∀ j q m, [q0, q1, q2][j]? = some q → natS q = some m → v j = (m : Int)) := Lib.hid fun j q m h1 h2 => by
        rw [hv.out, natsV, List.getElem?_map, h1]
        simp [h2]
      go_upto_region 12 with fail
      have kB := Blk.new w2 176 (arr3 v 0)
      have hbB := bl_al (.cells (arr3 v 0) 176) (bl_refl w2)
      change Blk (w2.alloc (.cells #[.int .i64 0, .int .i64 0, .int .i64 0] 176)) w2.heap.size 176 (arr3 v 0) at kB
      change Below w2.heap.size w2 (w2.alloc (.cells #[.int .i64 0, .int .i64 0, .int .i64 0] 176)) at hbB
      generalize w2.alloc (.cells #[.int .i64 0, .int .i64 0, .int .i64 0] 176) = wA at *
      go_wp2
      go_loopw [9] (fun i wr => ∃ j : Nat, j ≤ 3 ∧ i = .int .i64 j ∧ Below w2.heap.size w2 wr ∧ Hid (natsOk ([q0, q1, q2].take j) = true) ∧ Blk wr w2.heap.size 176 (arr3 v j)) (fun i _ => 3 - (intOf i).toNat)
      case atStart => exact ⟨0, by omega, rfl, hbB, rfl, kB⟩
      case round =>
        clear kB hbB
        obtain ⟨j, hj, rfl, hbq, hnk, kB⟩ := hrel
        by_cases hj3 : j < 3
        · obtain ⟨q, hq⟩ : ∃ q, [q0, q1, q2][j]? = some q := ⟨_, List.getElem?_eq_getElem (by simpa using hj3)⟩
          have hnk2 : natsOk ([q0, q1, q2].take (j + 1)) = (natS q).isSome := by
            rw [List.take_add_one, hq]
            show natsOk (List.take j [q0, q1, q2] ++ [q]) = _
            rw [natsOk_snoc, hnk.out, Bool.true_and]
          have hql := hpm.out q (List.mem_of_getElem? hq)
          have hnum := Lib.hid (r_natural q wr (by omega))
          have c1 := dq.out j q hq wr hbq
          have hvq := Lib.hid fun m => hv2.out j q m hq
          have hj3i : (j : Int) < 3 := by omega
          have hj4i : (j : Int) + 1 < 4 := by omega
          replace hq := Lib.hid hq
          have hjb := Lib.hid fun (h : natsOk ([q0, q1, q2].take (j + 1)) = false) => hbad2.out (natsOk_prefix (List.take_prefix _ _) h)
          generalize natS q = r at *
          clear hnk
          cases r with
          | none =>
            have hb := Lib.hid (hjb.out (by rw [hnk2]; rfl))
            replace hnk2 := Lib.hid hnk2
            go_wp2_with fail
            refine hnum.out.mono ?_
            rintro e w3 ⟨hb3, x, rfl, -⟩
            go_wp2
            go_ret2
            exact ⟨bl_tr hb1 (bl_tr hb0 (bl_tr hbq hb3)), fun _ => by rw [hb.out] <;> rfl, fun h => absurd (h.symm.trans hb.out) (by decide)⟩
          | some m =>
            replace hnk2 := Lib.hid hnk2
            go_wp2_with fail
            refine hnum.out.mono ?_
            rintro e w3 ⟨hb3, x, rfl, hx3⟩
            obtain rfl := hx3 m rfl
            have hvm := hvq.out m rfl
            replace hbq := bl_tr hbq hb3
            replace kB := kB.below hb3
            have LB : w3.cell? ⟨w2.heap.size, j, none⟩ = some (.int .i64 0) := by rw [kB.cell]; exact arr3_get v j hj3
            have FB := kB.frozen j
            clear hb3 c1 hnum
            go_wp2
            go_roundw
            case rel => exact ⟨j + 1, by omega, by go_num, bl_setA _ hbq, Lib.hid (by rw [hnk2.out]; rfl), by have := kB.set j (.int .i64 (v j)); rw [arr3_set v j hj3, hvm] at this; exact this⟩
            case measure => simp [intOf]; omega
        · obtain rfl : j = 3 := by omega
          have hnok : natsOk [q0, q1, q2] = true := hnk.out
          have hgo := Lib.hid (show psOk (xs.take (k + 1)) = true by rw [s1.out, hpd.out, hnok])
          have hpsm : partSm p = ⟨⟨(x0 :: xr).toArray⟩, v 0, v 1, v 2⟩ := by
            rw [hpv.out, hv.out, hv.out, hv.out]
          rw [hpsm] at s2
          replace s2 := Lib.hid s2
          change Blk wr w2.heap.size 176 #[.int .i64 (v 0), .int .i64 (v 1), .int .i64 (v 2)] at kB
          generalize v 0 = v0 at *
          generalize v 1 = v1 at *
          generalize v 2 = v2 at *
          have d0' : ∀ W, Below wr.heap.size wr W → W.cell? ⟨b2, o2, none⟩ = some (.string ⟨(x0 :: xr).toArray⟩) := fun W hW => d0 W (bl_tr hbq hW)
          have LB := kB.later
          have hszA := (bl_tr hb0 hbq).size
          clear hnk hnok hpsm hv hv2 hbad2 d00 d0 dq hpm hst hpv hj
          replace ho := Lib.hid (own_below ho.out hbq)
          replace hb0 := bl_tr hb0 hbq
          generalize w2.heap.size = bxq at *
          clear hbq
          go_upto_region 19 with fail
          refine wp_any (w0 := wr) ⟨[12, 13], [], [some 56, some 57, some 58, some 59, some 60, some 61, some 62, some 63, some 64, some 65, some 66, some 67, none, none], [[], [], [1], [1, 2], [], [4], [], [6], [], [8], [1, 2, 3, 4, 5, 6, 7, 8, 9], [1, 2, 3, 4, 5, 6, 7, 8, 9, 10], [0, 1, 2, 3, 4, 5, 6, 7, 8, 9, 10, 11], [0, 1, 2, 3, 4, 5, 6, 7, 8, 9, 10, 11, 12]], [[], [], [1], [2], [], [4], [], [6], [], [8], [3, 5, 7, 9], [10], [], []]⟩ (fun _ => ownL (.slice vA k vc)) (by kernel_rfl) (by kernel_rfl) (by (exact zE)) (fun u => by simp only [putD, Act.put, List.setIfInBounds_toArray, List.set_cons_zero, List.set_cons_succ, Nat.zero_add, Nat.reduceAdd]; rfl) ?_
          apply RGW.on (i := 0) rfl
          · exact zG
          · intro γ u W hcur hd
            clear hd
            (try dsimp only)
            exact ⟨rfl, zS⟩
          · exact zC
          · rfl
          dsimp only [nA, cA]
          apply RGW.on (i := 1) rfl
          · exact zG
          · intro γ u W hcur hd
            clear hd
            (try dsimp only)
            exact ⟨rfl, zS⟩
          · exact zC
          · rfl
          dsimp only [nA, cA]
          apply RGW.on (i := 2) rfl
          · exact zG
          · intro γ u W hcur hd
            obtain ⟨⟨h1, -, -⟩, -⟩ := hd
            dsimp only at h1
            (try simp only [h1])
            exact ⟨rfl, zS⟩
          · exact zC
          · rfl
          dsimp only [nA, cA]
          apply RGW.on (i := 3) rfl
          · exact zG
          · intro γ u W hcur hd
            obtain ⟨⟨h2, -, -⟩, -⟩ := hd
            dsimp only at h2
            (try simp only [h2])
            exact ⟨rfl, zS⟩
          · exact zC
          · rfl
          dsimp only [nA, cA]
          apply RGW.on (i := 4) rfl
          · exact zG
          · intro γ u W hcur hd
            clear hd
            (try dsimp only)
            exact ⟨rfl, zS⟩
          · exact zC
          · rfl
          dsimp only [nA, cA]
          apply RGW.on (i := 5) rfl
          · exact zG
          · intro γ u W hcur hd
            obtain ⟨⟨h4, -, -⟩, -⟩ := hd
            dsimp only at h4
            (try simp only [h4])
            exact ⟨rfl, zS⟩
          · exact zC
          · rfl
          dsimp only [nA, cA]
          apply RGW.on (i := 6) rfl
          · exact zG
          · intro γ u W hcur hd
            clear hd
            (try dsimp only)
            exact ⟨rfl, zS⟩
          · exact zC
          · rfl
          dsimp only [nA, cA]
          apply RGW.on (i := 7) rfl
          · exact zG
          · intro γ u W hcur hd
            obtain ⟨⟨h6, -, -⟩, -⟩ := hd
            dsimp only at h6
            (try simp only [h6])
            exact ⟨rfl, zS⟩
          · exact zC
          · rfl
          dsimp only [nA, cA]
          apply RGW.on (i := 8) rfl
          · exact zG
          · intro γ u W hcur hd
            clear hd
            (try dsimp only)
            exact ⟨rfl, zS⟩
          · exact zC
          · rfl
          dsimp only [nA, cA]
          apply RGW.on (i := 9) rfl
          · exact zG
          · intro γ u W hcur hd
            obtain ⟨⟨h8, -, -⟩, -⟩ := hd
            dsimp only at h8
            (try simp only [h8])
            exact ⟨rfl, zS⟩
          · exact zC
          · rfl
          dsimp only [nA, cA]
          apply RGW.on (i := 10) rfl
          · exact zG
          · intro γ u W hcur hd
            obtain ⟨⟨h3, -, -⟩, ⟨h5, -, -⟩, ⟨h7, -, -⟩, ⟨h9, -, -⟩, -⟩ := hd
            dsimp only at h3 h5 h7 h9
            (try simp only [h3, h5, h7, h9])
            exact ⟨rfl, zS⟩
          · exact zC
          · rfl
          dsimp only [nA, cA]
          apply RGW.bslice (i := 11) rfl
          · exact zG
          · intro γ u W hcur hd
            obtain ⟨⟨h10, -, -⟩, -⟩ := hd
            dsimp only at h10
            (try simp only [h10])
            refine ⟨rfl, fun K hK => ?_⟩
            go_simp
            exact hK.out _ _ rfl rfl
          · exact zC
          · rfl
          · rfl
          dsimp only [nA, cA]
          refine RGW.skip (i := 12) rfl rfl ?_
          dsimp only [nA, cA]
          refine RGW.skip (i := 13) rfl rfl ?_
          dsimp only [nA, cA]
          refine RGW.fin (fun γ u wd hwd hd hdis => ?_)
          obtain ⟨⟨h0, -, -⟩, ⟨h1, -, -⟩, ⟨h2, -, -⟩, ⟨h3, -, -⟩, ⟨h4, -, -⟩, ⟨h5, -, -⟩, ⟨h6, -, -⟩, ⟨h7, -, -⟩, ⟨h8, -, -⟩, ⟨h9, -, -⟩, ⟨h10, -, -⟩, ⟨h11, r11, b11⟩, -⟩ := hd
          dsimp only at h0 h1 h2 h3 h4 h5 h6 h7 h8 h9 h10 h11 r11 b11
          clear hdis
          simp only [h0, h1, h2, h3, h4, h5, h6, h7, h8, h9, h10, h11]
          clear h11 h10 h9 h8 h7 h6 h5 h4 h3 h2 h1 h0
          replace b11 := b11 _ (List.mem_singleton.2 rfl)
          generalize hγ11 : (γ 11).n = g11 at *
          clear hγ11
          clear u
          simp only [List.map_cons, List.map_nil]
          apply PlanW.step
          · exact zG
          · rfl
          intro K hK
          (refine wp_appT _ _ rfl Tryz.underlying22 hi hz0 hz1 hz2 rfl (by decide) (.slice vA k vc) k _ [.string ⟨(x0 :: xr).toArray⟩, .int .i64 v0, .int .i64 v1, .int .i64 v2] rfl rfl (own_below ho.out hwd) r11 rfl (by intro u hu; simp at hu; rcases hu with rfl | rfl | rfl | rfl <;> rfl) (by unfold maxLen; omega) (by omega) (Nat.le_trans hszA hwd.size) ?_; intro v' w' hown' hbx' hnew'; obtain ⟨zA, zC, rfl⟩ := own_slice hown'; refine hK.out _ _ hbx' (fun hcur => ?_))
          clear hK K
          try simp only [Act.put, List.setIfInBounds_toArray, List.set_cons_zero, List.set_cons_succ]
          apply PlanW.step
          · exact zG
          · rfl
          intro K hK
          go_simp
          refine hK.out _ _ (by with_reducible first | assumption | exact bx_refl _ _) (fun hcur => ?_)
          clear hK K
          try simp only [Act.put, List.setIfInBounds_toArray, List.set_cons_zero, List.set_cons_succ]
          refine PlanW.done ?_
          have hb3 := bl_tt hwd
          have hb9 := bx_below (bl_tr hb0 hwd) hbx' (fun z hz => ownL_ge ho.out z hz)
          have hown9 := Lib.hid (show w'.ownsRow w1.heap.size 43 4 (.slice zA (k + 1) zC) (k + 1) ((psV (xs.take (k + 1))).flatMap cSm) by rw [s2.out, List.flatMap_append]; exact hown')
          clear hown' hbx' hcur hnew' r11
          go_wp2
          go_roundw
          case rel => exact ⟨k + 1, by omega, by go_num, hb9, hgo, hown9.out⟩
          case measure => simp [intOf]; omega
end Go.Proofs.YtbdgblnccjpahaaGreatDoor
namespace Go.Proofs.YtbdgblnccjpahaaGreatDoor
open Go.RowKit Go.Shelf
attribute [local go_sem] bl_al bl_drew bl_drewN bl_refl bx_al bx_drew bx_drewN bx_refl
set_option maxRecDepth 20000
theorem r_Size9 (x : Int) (w : World) (h0 : -1000 ≤ x) (h1 : x ≤ 1000) : Calls Tryz.prog 153 #[.int .i64 x] w (Same (.int .i64 (x.natAbs : Nat)) w) := by
  have e : max x (-x) = (x.natAbs : Int) := by omega
  have e1 : max x (-1 * x) = (x.natAbs : Int) := by omega
  go_enter Tryz.func153, Tryz.ntmps153
  go_wp2
  go_ret
  exact ⟨by simp [e], rfl⟩
def dz (m : Nat) : List UInt8 := if m = 0 then [] else Lib.decDigits m
theorem dz_step {m : Nat} (h : m ≠ 0) : dz m = dz (m / 10) ++ [UInt8.ofNat (48 + m % 10)] := by
  unfold dz
  rw [if_neg h]
  by_cases h2 : m < 10
  · rw [if_pos (by omega), Lib.decDigits_one h2, Nat.mod_eq_of_lt h2]
    rfl
  · rw [if_neg (by omega)]
    conv => lhs; rw [Lib.decDigits]
    rw [dif_neg h2]
set_option maxHeartbeats 4000000 in
theorem r_Decimal (v : Int) (hv : Fits v) (w : World) : Calls Tryz.prog 114 #[.int .i64 v] w (Ret (.string ⟨(Lib.itoa v).toArray⟩) w) := by
  have hlen := Lib.itoa_length_le v hv.1 hv.2
  obtain ⟨hv0, hv1⟩ := hv
  by_cases h0 : v = 0
  · subst h0
    have e : Lib.itoa 0 = [48] := by decide +kernel
    rw [e]
    go_enter Tryz.func114, Tryz.ntmps114
    go_wp2
    go_ret
    exact ⟨rfl, bl_refl _⟩
  obtain ⟨sg, hsg⟩ : ∃ sg : List UInt8, Hid (sg = if v < 0 then [45] else []) := ⟨_, rfl⟩
  have hout : Hid (Lib.itoa v = sg ++ dz v.natAbs) := Lib.hid (by
    rw [hsg.out, Lib.itoa, dz, if_neg (show ¬ v.natAbs = 0 by omega)]
    by_cases hn : v < 0
    · rw [if_pos hn, if_pos hn]; rfl
    · rw [if_neg hn, if_neg hn, show v.toNat = v.natAbs by omega]; rfl)
  have hsl : sg.length ≤ 1 := by rw [hsg.out]; split <;> simp
  obtain ⟨J, hJ⟩ : ∃ J, Hid (Lib.itoa v = J) := ⟨_, rfl⟩
  obtain ⟨N, hN⟩ : ∃ N, Hid (dz v.natAbs = N) := ⟨_, rfl⟩
  rw [hJ.out, hN.out] at hout
  rw [hJ.out] at hlen ⊢
  have hNl : N.length ≤ 21 := by have := congrArg List.length hout.out; simp at this; omega
  replace h0 := Lib.hid h0
  have key : ∀ (s : List UInt8), s = sg → s = sg := fun _ h => h
  by_cases hneg : v < 0
  case' pos => have hs : Hid (sg = [45]) := Lib.hid (by rw [hsg.out, if_pos hneg])
  case' neg => have hs : Hid (sg = []) := Lib.hid (by rw [hsg.out, if_neg hneg])
  all_goals
    rw [hs.out] at hout hsl
    have hne : (v == 0) = false := by simpa using h0.out
    clear hsg key
    go_enter Tryz.func114, Tryz.ntmps114
    go_wp2
    go_loopw [0, 3] (fun n s wr => ∃ (x : Int) (r : List UInt8), n = .int .i64 x ∧ s = .string ⟨r.toArray⟩ ∧ (-9223372036854775808 ≤ x ∧ x ≤ 9223372036854775807) ∧ dz x.natAbs ++ r = N ∧ Below w.heap.size w wr) (fun n _ _ => (intOf n).natAbs)
    case atStart => exact ⟨v, [], rfl, rfl, ⟨hv0, hv1⟩, by rw [List.append_nil]; exact hN.out, bl_refl _⟩
    case round =>
      obtain ⟨x, r, rfl, rfl, ⟨hx0, hx1⟩, hr, hb0⟩ := hrel
      have hrl : r.length ≤ 21 := by have := congrArg List.length hr; simp at this; omega
      by_cases hx : x = 0
      · subst hx
        have hr2 : r = N := by rw [← hr]; rfl
        subst hr2
        have hsz : ¬ 9223372036854775807 < 1 + r.length := by omega
        replace hr := Lib.hid hr
        go_wp2
        go_ret
        refine ⟨?_, hb0⟩
        first
          | exact congrArg (fun z => Ending.returned (.string z)) (by rw [hout.out]; exact ba_app _ _)
          | (rw [hout.out]; rfl)
      · have hxne : (x == 0) = false := by simpa using hx
        have hm : x.natAbs ≠ 0 := by omega
        rw [dz_step hm, List.append_assoc] at hr
        have hd0 : -9 ≤ x.tmod 10 ∧ x.tmod 10 ≤ 9 := by
          have h1 := Int.tmod_lt_of_pos x (show (0 : Int) < 10 by decide)
          have h2 := Int.lt_tmod_of_pos x (show (0 : Int) < 10 by decide)
          omega
        have hda : (x.tmod 10).natAbs = x.natAbs % 10 := by rw [Int.natAbs_tmod]; rfl
        have hqa : (x.tdiv 10).natAbs = x.natAbs / 10 := by rw [Int.natAbs_tdiv]; rfl
        have hq0 : -9223372036854775808 ≤ x.tdiv 10 ∧ x.tdiv 10 ≤ 9223372036854775807 := by omega
        replace hr := Lib.hid hr
        replace hx := Lib.hid hx
        replace hm := Lib.hid hm
        have hcs := Lib.hid fun W => r_Size9 (x.tmod 10) W (by omega) (by omega)
        rw [hda] at hcs
        obtain ⟨ch, hch⟩ : ∃ ch, Hid (UInt8.ofNat (48 + x.natAbs % 10) = ch) := ⟨_, rfl⟩
        have hchn : (ch.toNat : Int) = 48 + (x.natAbs : Int) % 10 := by
          rw [← hch.out]
          have : (UInt8.ofNat (48 + x.natAbs % 10)).toNat = 48 + x.natAbs % 10 := by simp; omega
          rw [this]
          omega
        have hcv : (convert 186 9 (.slice (some ⟨wr.heap.size, 0, none⟩) 1 1)).run Tryz.prog (wr.alloc (.cells #[.int .u8 (48 + (x.natAbs : Int) % 10)] 5)) = .ok (.string ⟨#[ch]⟩) (wr.alloc (.cells #[.int .u8 (48 + (x.natAbs : Int) % 10)] 5)) := by
          have h := run_convert_bytes_back (P := Tryz.prog) (wr.alloc (.cells #[.int .u8 (48 + (x.natAbs : Int) % 10)] 5)) 186 9 5 ⟨wr.heap.size, 0, none⟩ 1 [ch] Tryz.underlying186 Tryz.underlying5 Tryz.underlying9 (fun j hj => by
            have : j = 0 := by simp at hj; omega
            subst this
            have h2 := (Blk.new wr 5 #[.int .u8 (48 + (x.natAbs : Int) % 10)]).cell 0
            rw [← hchn] at h2 ⊢
            simp [Addr.add])
          exact h
        have hs1 : ¬ 9223372036854775807 < 1 + r.length := by omega
        have hr9 : Hid (dz (x.natAbs / 10) ++ (ch :: r) = N) := Lib.hid (by rw [← hch.out]; have h := hr.out; rw [List.singleton_append] at h; exact h)
        have hm9 : x.natAbs / 10 < x.natAbs := by have := hm.out; omega
        replace hchn := Lib.hid hchn
        replace hr := Lib.hid hr.out
        go_upto_region 9 with (go_at_call 153; (with_reducible refine (hcs.out _).mono ?_); rintro e w3 ⟨rfl, rfl⟩)
        have hcat : (⟨#[ch]⟩ : ByteArray) ++ ⟨r.toArray⟩ = ⟨(ch :: r).toArray⟩ := by rw [ba_app]; rfl
        rw [hcat]
        have hb9 := bl_al (.cells #[.int .u8 (48 + (x.natAbs : Int) % 10)] 5) hb0
        generalize wr.alloc (.cells #[.int .u8 (48 + (x.natAbs : Int) % 10)] 5) = w5 at *
        clear hcv hcs hcat
        replace hqa := Lib.hid hqa
        go_wp2
        go_roundw
        case rel => exact ⟨x.tdiv 10, ch :: r, rfl, rfl, hq0, by rw [hqa.out]; exact hr9.out, hb9⟩
        case measure =>
          show (x.tdiv 10).natAbs < x.natAbs
          rw [hqa.out]
          exact hm9
end Go.Proofs.YtbdgblnccjpahaaGreatDoor
namespace Go.Proofs.YtbdgblnccjpahaaGreatDoor
open Go.RowKit Go.Shelf
attribute [local go_sem] bl_al bl_drew bl_drewN bl_refl bx_al bx_drew bx_drewN bx_refl
set_option maxRecDepth 20000
/-- One more is joined. -/
theorem join_snoc (xs : List (List UInt8)) (x sep : List UInt8) : Lib.join (xs ++ [x]) sep = (if xs = [] then [] else Lib.join xs sep ++ sep) ++ x := by
  cases xs with
  | nil => simp [Lib.join_one]
  | cons y ys =>
    rw [List.cons_append, Lib.join_cons, if_neg (by simp), Lib.join_cons]
    simp [Lib.joinTail]
set_option maxHeartbeats 4000000 in
theorem r_joined (L : List Int) (sep : UInt8) (A : Option Addr) (c : Nat) (w : World) (hs : Sl cI 1 w A L) (hl : L.length ≤ 1000) (hf : ∀ n ∈ L, Fits n) :
    Calls Tryz.prog 115 #[.slice A L.length c, .string ⟨#[sep]⟩] w (Ret (.string ⟨(Lib.join (itoas L) [sep]).toArray⟩) w) := by
  have Hs := Lib.hid hs
  have hD := Lib.hid fun n (hn : n ∈ L) W => r_Decimal n (hf n hn) W
  have hItl := Lib.hid fun n (hn : n ∈ L) => Lib.itoa_length_le n (hf n hn).1 (hf n hn).2
  have h0 : Hid (Lib.join (itoas (L.take 0)) [sep] = []) := rfl
  have hst := Lib.hid fun k n (h : L[k]? = some n) => (show Lib.join (itoas (L.take (k + 1))) [sep] = (if k = 0 then [] else Lib.join (itoas (L.take k)) [sep] ++ [sep]) ++ Lib.itoa n by
    have hk := (List.getElem?_eq_some_iff.1 h).1
    have e : itoas (L.take (k + 1)) = itoas (L.take k) ++ [Lib.itoa n] := by rw [List.take_add_one, h]; simp [itoas]
    rw [e, join_snoc]
    by_cases h0 : k = 0
    · subst h0; rfl
    · rw [if_neg h0, if_neg]
      intro h2
      have h3 : (itoas (L.take k)).length = 0 := by rw [h2]; rfl
      rw [itoas, List.length_map, List.length_take] at h3
      omega)
  have hlen := Lib.hid fun k (hk : k ≤ L.length) => (show (Lib.join (itoas (L.take k)) [sep]).length ≤ 1000 * 22 by
    have := join_len (itoas (L.take k)) [sep] 21 (fun x hx => by
      obtain ⟨n, hn, rfl⟩ := List.mem_map.1 hx
      exact hItl.out n (List.mem_of_mem_take hn))
    simp [itoas] at this
    unfold itoas
    rw [List.map_take]
    omega)
  have hend : Hid (Lib.join (itoas (L.take L.length)) [sep] = Lib.join (itoas L) [sep]) := Lib.hid (by rw [List.take_length])
  clear hs hf
  obtain ⟨g, hg⟩ : ∃ g : Nat → List UInt8, ∀ k, Lib.join (itoas (L.take k)) [sep] = g k := ⟨_, fun _ => rfl⟩
  simp only [hg] at h0 hst hend hlen
  clear hg
  generalize Lib.join (itoas L) [sep] = J at *
  obtain ⟨n, Hn⟩ : ∃ n, Hid (L.length = n) := ⟨_, rfl⟩
  rw [Hn.out] at hl hend hlen ⊢
  go_enter Tryz.func115, Tryz.ntmps115
  go_wp2
  go_loopw [5, 6] (fun s i wr => ∃ k : Nat, k ≤ n ∧ i = .int .i64 k ∧ s = .string ⟨(g k).toArray⟩ ∧ Below w.heap.size w wr) (fun _ i _ => n - (intOf i).toNat)
  case atStart => exact ⟨0, Nat.zero_le _, rfl, by rw [h0.out], bl_refl _⟩
  case round =>
    obtain ⟨k, hk, rfl, rfl, hb0⟩ := hrel
    by_cases hkn : k < n
    rotate_left
    · obtain rfl : n = k := by omega
      have he := Lib.hid hend.out
      go_wp2
      go_ret
      exact ⟨by first | rfl | rw [he.out] <;> rfl, hb0⟩
    have hx : L[k]? = some (L[k]'(by rw [Hn.out]; exact hkn)) := List.getElem?_eq_getElem _
    generalize L[k]'(by rw [Hn.out]; exact hkn) = x at hx
    have hgn := Lib.hid (hst.out k x hx)
    have hDx := Lib.hid (hD.out x (List.mem_of_getElem? hx))
    have hIl := hItl.out x (List.mem_of_getElem? hx)
    have hgl := hlen.out k hk
    obtain ⟨b, off, rfl, hc⟩ := Hs.out k x hx
    have c0 : ∀ W, Below wr.heap.size wr W → W.cell? ⟨b, off + k, none⟩ = some (.int .i64 x) := fun W hW => by simpa using kcell (bl_tr hb0 hW) (hc 0 _ rfl)
    have hkn2 : (k : Int) < n := by omega
    clear hc hx
    generalize Lib.itoa x = X at *
    by_cases hk0 : k = 0
    · subst hk0
      rw [if_pos rfl, List.nil_append] at hgn
      have hg0 := Lib.hid h0.out
      have hs1 : ¬ 9223372036854775807 < (g 0).length + X.length := by omega
      have c1 := c0 wr (bl_refl _)
      simp only [Nat.add_zero] at c1
      go_wp2_with fail
      refine (hDx.out _).mono ?_
      rintro e w1 ⟨rfl, hb1⟩
      have hcat : (⟨(g 0).toArray⟩ : ByteArray) ++ ⟨X.toArray⟩ = ⟨(g 1).toArray⟩ := by rw [ba_app]; show (⟨(g 0 ++ X).toArray⟩ : ByteArray) = _; rw [hg0.out, hgn.out]; rfl
      go_wp2
      go_roundw
      case rel => exact ⟨1, by omega, rfl, rfl, bl_tr hb0 hb1⟩
      case measure => simp [intOf]; omega
    · rw [if_neg hk0] at hgn
      have hk1 : (0 : Int) < k := by omega
      have hs0 : ¬ 9223372036854775807 < (g k).length + 1 := by omega
      have hs1 : ¬ 9223372036854775807 < (g k).length + 1 + X.length := by omega
      have c1 := c0 wr (bl_refl _)
      replace hk0 := Lib.hid hk0
      go_wp2_with fail
      refine (hDx.out _).mono ?_
      rintro e w1 ⟨rfl, hb1⟩
      have hcat : ((⟨(g k).toArray⟩ : ByteArray) ++ ⟨#[sep]⟩) ++ ⟨X.toArray⟩ = ⟨(g (k + 1)).toArray⟩ := by rw [ba_app, ba_app, hgn.out]
      go_wp2
      go_roundw
      case rel => exact ⟨k + 1, by omega, by go_num, rfl, bl_tr hb0 hb1⟩
      case measure => simp [intOf]; omega
end Go.Proofs.YtbdgblnccjpahaaGreatDoor
namespace Go.Proofs.YtbdgblnccjpahaaGreatDoor
open Go.RowKit Go.Shelf
attribute [local go_sem] bl_al bl_drew bl_drewN bl_refl bx_al bx_drew bx_drewN bx_refl
set_option maxRecDepth 20000
/-- Something, and behind it so many of a list, joined. -/
def jn (S : List UInt8) (L : List (List UInt8)) (c : UInt8) (k : Nat) : List UInt8 := S ++ Lib.join (L.take k) [c]
theorem jn_zero (S L c) : jn S L c 0 = S := by simp [jn, Lib.join_nil]
theorem jn_end (S L c) : jn S L c L.length = S ++ Lib.join L [c] := by simp [jn]
theorem jn_step {S L c} {k : Nat} {x : List UInt8} (h : L[k]? = some x) : jn S L c (k + 1) = (if k = 0 then jn S L c k else jn S L c k ++ [c]) ++ x := by
  have hk := (List.getElem?_eq_some_iff.1 h).1
  unfold jn
  have e : L.take (k + 1) = L.take k ++ [x] := by rw [List.take_add_one, h]; simp
  rw [e, join_snoc]
  by_cases h0 : k = 0
  · subst h0; simp [Lib.join_nil]
  · rw [if_neg h0, if_neg]
    · simp
    intro h2
    have h3 : (L.take k).length = 0 := by rw [h2]; rfl
    rw [List.length_take] at h3
    omega
theorem jn_len {S L c} (k : Nat) (b : Nat) (hb : ∀ x ∈ L, x.length ≤ b) : (jn S L c k).length ≤ S.length + L.length * (b + 1) := by
  have := join_len (L.take k) [c] b (fun x hx => hb x (List.mem_of_mem_take hx))
  rw [List.length_take] at this
  simp only [List.length_singleton] at this
  have h9 : min k L.length * (b + 1) ≤ L.length * (b + 1) := Nat.mul_le_mul_right _ (by omega)
  unfold jn
  rw [List.length_append]
  omega
set_option maxHeartbeats 8000000 in
theorem r_FormatNet (n : Nt) (Ap Af Am : Option Addr) (cp cf cm : Nat) (w : World) (hn : NtIn n Ap Af Am cp cf cm w) (hft : NtFit n) :
    Calls Tryz.prog 54 #[vNt Ap Af Am n.ps.length n.fs.length n.ms.length cp cf cm] w (Ret (.string ⟨(fmtNt n.cn).toArray⟩) w) := by
  have Hn := Lib.hid hn
  have hpl := hn.plen
  have hfl := hn.flen
  have hml := hn.mlen
  have hjw := Lib.hid fun (r : Rw) (h : (∃ f ∈ n.fs, r ∈ f.ws) ∨ ∃ m ∈ n.ms, r = m.r) (A' : Option Addr) c' W (hs : Sl cI 1 W A' r.l) => (show Calls Tryz.prog 115 #[.slice A' r.l.length c', .string ⟨#[43]⟩] W (Ret (.string ⟨(fmtWay r.l).toArray⟩) W) from r_joined r.l 43 A' c' W hs (by
    rcases h with ⟨f, hf, hr⟩ | ⟨m, hm, rfl⟩
    · exact ((hn.fin f hf).rows r hr).len
    · exact (hn.min m hm).row.len) (by
    rcases h with ⟨f, hf, hr⟩ | ⟨m, hm, rfl⟩
    · exact (hft.fs f hf).2 r hr
    · exact (hft.ms m hm).2))
  have hwlen := Lib.hid fun (f : Fu) (hf : f ∈ n.fs) (r : Rw) (hr : r ∈ f.ws) => fmtWay_len r.l ((hn.fin f hf).rows r hr).len ((hft.fs f hf).2 r hr)
  have hflen := Lib.hid fun (f : Fu) (hf : f ∈ n.fs) => fmtFu_len f (hft.fs f hf).1 (hn.fin f hf).len (fun r hr => ((hn.fin f hf).rows r hr).len) (hft.fs f hf).2
  have hmlen := Lib.hid fun (m : Md) (hm : m ∈ n.ms) => fmtWay_len m.r.l (hn.min m hm).row.len (hft.ms m hm).2
  have hpname := Lib.hid fun (p : ByteArray) (hp : p ∈ n.ps) => hft.ps p hp
  have hfname := Lib.hid fun (f : Fu) (hf : f ∈ n.fs) => (hft.fs f hf).1
  have hmname := Lib.hid fun (f : Md) (hf : f ∈ n.ms) => (hft.ms f hf).1
  -- what is there after so many parts, functions, modes
  obtain ⟨S1, hS1⟩ : ∃ S1, jn [] (n.ps.map fun p => p.data.toList) 44 n.ps.length ++ [47] = S1 := ⟨_, rfl⟩
  obtain ⟨S2, hS2⟩ : ∃ S2, jn S1 (n.fs.map fun f => fmtFu f.con) 59 n.fs.length ++ [47] = S2 := ⟨_, rfl⟩
  replace hS1 := Lib.hid hS1.symm
  replace hS2 := Lib.hid hS2.symm
  have hout : Hid (fmtNt n.cn = jn S2 (n.ms.map fun m => fmtMd m.con) 59 n.ms.length) := Lib.hid (by
    have e1 := jn_end [] (n.ps.map fun p => p.data.toList) 44
    have e2 := jn_end S1 (n.fs.map fun f => fmtFu f.con) 59
    have e3 := jn_end S2 (n.ms.map fun f => fmtMd f.con) 59
    rw [List.length_map] at e1 e2 e3
    rw [e3, hS2.out, e2, hS1.out, e1]
    simp [fmtNt, Nt.cn, List.map_map, Function.comp_def])
  have hl1 : ∀ k, (jn [] (n.ps.map fun p => p.data.toList) 44 k).length ≤ 1001000 := fun k => by
    have := jn_len (S := []) (L := n.ps.map fun p => p.data.toList) (c := 44) k 1000 (fun x hx => by
      obtain ⟨p, hp, rfl⟩ := List.mem_map.1 hx
      exact hft.ps p hp)
    rw [List.length_map] at this
    simp only [List.length_nil] at this
    omega
  have hl2 : ∀ k, (jn S1 (n.fs.map fun f => fmtFu f.con) 59 k).length ≤ 22005000000 := fun k => by
    have := jn_len (S := S1) (L := n.fs.map fun f => fmtFu f.con) (c := 59) k 22003000 (fun x hx => by
      obtain ⟨p, hp, rfl⟩ := List.mem_map.1 hx
      exact (hflen.out p hp).1)
    have h1 : S1.length ≤ 1001001 := by rw [hS1.out, List.length_append, List.length_singleton]; have := hl1 n.ps.length; omega
    rw [List.length_map] at this
    omega
  have hl3 : ∀ k, (jn S2 (n.ms.map fun f => fmtMd f.con) 59 k).length ≤ 22105000000 := fun k => by
    have := jn_len (S := S2) (L := n.ms.map fun f => fmtMd f.con) (c := 59) k 24001 (fun x hx => by
      obtain ⟨f, hf, rfl⟩ := List.mem_map.1 hx
      have h1 := hmlen.out f hf
      have h2 := hmname.out f hf
      have hz : f.name.data.toList.length = f.name.size := rfl
      unfold fmtMd Md.con
      dsimp only
      rw [List.length_append, List.length_append, hz, List.length_singleton]
      omega)
    have h1 : S2.length ≤ 22005000001 := by rw [hS2.out, List.length_append, List.length_singleton]; have := hl2 n.fs.length; omega
    rw [List.length_map] at this
    omega
  have hst1 := Lib.hid fun k p (h : n.ps[k]? = some p) => (show jn [] (n.ps.map fun p => p.data.toList) 44 (k + 1) = (if k = 0 then _ else _) ++ p.data.toList from jn_step (by rw [List.getElem?_map, h]; rfl))
  have hst2 := Lib.hid fun k f (h : n.fs[k]? = some f) => (show jn S1 (n.fs.map fun f => fmtFu f.con) 59 (k + 1) = (if k = 0 then _ else _) ++ fmtFu f.con from jn_step (by rw [List.getElem?_map, h]; rfl))
  have hst3 := Lib.hid fun k f (h : n.ms[k]? = some f) => (show jn S2 (n.ms.map fun f => fmtMd f.con) 59 (k + 1) = (if k = 0 then _ else _) ++ fmtMd f.con from jn_step (by rw [List.getElem?_map, h]; rfl))
  have hz1 : Hid (jn [] (n.ps.map fun p => p.data.toList) 44 0 = []) := jn_zero _ _ _
  have hz2 : Hid (jn S1 (n.fs.map fun f => fmtFu f.con) 59 0 = S1) := jn_zero _ _ _
  have hz3 : Hid (jn S2 (n.ms.map fun f => fmtMd f.con) 59 0 = S2) := jn_zero _ _ _
  clear hn hft
  generalize fmtNt n.cn = OUT at *
  generalize jn [] (n.ps.map fun p => p.data.toList) 44 = g1 at *
  generalize jn S1 (n.fs.map fun f => fmtFu f.con) 59 = g2 at *
  generalize jn S2 (n.ms.map fun f => fmtMd f.con) 59 = g3 at *
  change Calls Tryz.prog 54 #[.agg #[.slice Ap n.ps.length cp, .slice Af n.fs.length cf, .slice Am n.ms.length cm]] w _
  obtain ⟨np, Hp⟩ : ∃ k, Hid (n.ps.length = k) := ⟨_, rfl⟩
  obtain ⟨nf, Hf⟩ : ∃ k, Hid (n.fs.length = k) := ⟨_, rfl⟩
  obtain ⟨nm, Hm⟩ : ∃ k, Hid (n.ms.length = k) := ⟨_, rfl⟩
  rw [Hp.out] at hpl hS1 ⊢
  rw [Hf.out] at hfl hS2 ⊢
  rw [Hm.out] at hml hout ⊢
  go_enter Tryz.func54, Tryz.ntmps54
  go_upto_region 1 with fail
  first
  | apply absB1 (w0 := w) (g0 := w.heap.size)
  | apply absTB1 (w0 := w) (g0 := w.heap.size)
  | apply absIB1 (w0 := w) (g0 := w.heap.size)
  iterate 2 (focus exact zL)
  try clear hb3
  try clear hb0
  try clear k0
  intro wa hb0 k0
  (try simp only [List.setIfInBounds_toArray, List.set_cons_zero, List.set_cons_succ] at k0)
  have L0 := k0.cell
  go_wp2
  go_loopw [3, 4] (fun s i wr => ∃ k : Nat, k ≤ np ∧ i = .int .i64 k ∧ s = .string ⟨(g1 k).toArray⟩ ∧ Below w.heap.size w wr ∧ Blk wr w.heap.size 58 #[.slice Ap np cp, .slice Af nf cf, .slice Am nm cm]) (fun _ i _ => np - (intOf i).toNat)
  case atStart => exact ⟨0, Nat.zero_le _, rfl, by rw [hz1.out], hb0, k0⟩
  case round =>
    clear hb0 k0 L0
    obtain ⟨k, hk, rfl, rfl, hb0, k0⟩ := hrel
    have L0 := k0.cell
    have hgl := hl1 k
    by_cases hkn : k < np
    · have hx : n.ps[k]? = some (n.ps[k]'(by rw [Hp.out]; exact hkn)) := List.getElem?_eq_getElem _
      generalize n.ps[k]'(by rw [Hp.out]; exact hkn) = p at hx
      have hps := hpname.out p (List.mem_of_getElem? hx)
      have hgn := hst1.out k p hx
      obtain ⟨b, off, rfl, hc⟩ := Hn.out.psl k p hx
      have c0 : wr.cell? ⟨b, off + k, none⟩ = some (.string p) := by simpa [cS] using kcell hb0 (hc 0 _ rfl)
      have hkn2 : (k : Int) < np := by omega
      clear hc hx
      by_cases hk0 : k = 0
      · rw [if_pos hk0] at hgn
        have hk1 : ¬ (0 : Int) < k := by omega
        have hs1 : ¬ 9223372036854775807 < (g1 k).length + p.size := by omega
        have hcat : (⟨(g1 k).toArray⟩ : ByteArray) ++ p = ⟨(g1 (k + 1)).toArray⟩ := by rw [hgn, ba_app]
        replace hk0 := Lib.hid hk0
        replace hgn := Lib.hid hgn
        replace hcat := Lib.hid hcat
        go_wp2
        go_roundw
        case rel => exact ⟨k + 1, by omega, by go_num, by first | rfl | rw [hcat.out], hb0, k0⟩
        case measure => simp [intOf]; omega
      · rw [if_neg hk0] at hgn
        have hk1 : (0 : Int) < k := by omega
        have hs0 : ¬ 9223372036854775807 < (g1 k).length + 1 := by omega
        have hs1 : ¬ 9223372036854775807 < (g1 k).length + 1 + p.size := by omega
        have hcat : (⟨(g1 k).toArray⟩ : ByteArray) ++ ⟨#[44]⟩ ++ p = ⟨(g1 (k + 1)).toArray⟩ := by rw [hgn, ba_app, ba_app]
        replace hk0 := Lib.hid hk0
        replace hgn := Lib.hid hgn
        replace hcat := Lib.hid hcat
        go_wp2
        go_roundw
        case rel => exact ⟨k + 1, by omega, by go_num, by first | rfl | rw [hcat.out], hb0, k0⟩
        case measure => simp [intOf]; omega
    obtain rfl : np = k := by omega
    have hs0 : ¬ 9223372036854775807 < (g1 np).length + 1 := by omega
    have hcat : (⟨(g1 np).toArray⟩ : ByteArray) ++ ⟨#[47]⟩ = ⟨(g2 0).toArray⟩ := by rw [ba_app, hz2.out, hS1.out]
    clear hkn hst1 hz1 hl1 hpname
    go_wp2
    clear L0
    go_loopw [3, 5] (fun s i wr => ∃ k : Nat, k ≤ nf ∧ i = .int .i64 k ∧ s = .string ⟨(g2 k).toArray⟩ ∧ Below w.heap.size w wr ∧ Blk wr w.heap.size 58 #[.slice Ap np cp, .slice Af nf cf, .slice Am nm cm]) (fun _ i _ => nf - (intOf i).toNat)
    case atStart => exact ⟨0, Nat.zero_le _, rfl, by first | rfl | rw [hcat], hb0, k0⟩
    case round =>
      clear hb0 k0 hcat hs0 hgl
      obtain ⟨k, hk, rfl, rfl, hb0, k0⟩ := hrel
      have L0 := k0.cell
      have hgl := hl2 k
      by_cases hkn : k < nf
      · have hx : n.fs[k]? = some (n.fs[k]'(by rw [Hf.out]; exact hkn)) := List.getElem?_eq_getElem _
        generalize n.fs[k]'(by rw [Hf.out]; exact hkn) = f at hx
        have hm := List.mem_of_getElem? hx
        have hfs := hfname.out f hm
        have hgn := Lib.hid (hst2.out k f hx)
        have hff := Lib.hid (Hn.out.fin f hm)
        have hwl := (Hn.out.fin f hm).len
        have hwx := Lib.hid fun r hr => hwlen.out f hm r hr
        have hjx := Lib.hid fun (r : Rw) (hr : r ∈ f.ws) => hjw.out r (.inl ⟨f, hm, hr⟩)
        obtain ⟨b, off, rfl, hc⟩ := Hn.out.fsl k f hx
        have c0 : wr.cell? ⟨b, off + k * 2, none⟩ = some (.string f.name) := by simpa using kcell hb0 (hc 0 _ rfl)
        have c1 := Lib.hid fun W (hb : Below w.heap.size w W) => kcell hb (hc 1 _ rfl)
        have hkn2 : (k : Int) < nf := by omega
        have hfc : Hid (fmtFu f.con = f.name.data.toList ++ [61] ++ Lib.join (f.ws.map fun r => fmtWay r.l) [44]) := Lib.hid (by simp [fmtFu, Fu.con, Function.comp_def])
        clear hc hx hm
        obtain ⟨fname, fA, fc, ws⟩ := f
        dsimp only at *
        obtain ⟨fw, Hfw⟩ : ∃ k, Hid (ws.length = k) := ⟨_, rfl⟩
        rw [Hfw.out] at c1 hwl
        by_cases hk0 : k = 0
        case' pos =>
          have hk1 : ¬ (0 : Int) < k := by omega
          obtain ⟨G, hG⟩ : ∃ G, Hid (g2 k = G) := ⟨_, rfl⟩
          have hres := Lib.hid (show g2 (k + 1) = G ++ (fname.data.toList ++ [61] ++ Lib.join (ws.map fun r => fmtWay r.l) [44]) by rw [hgn.out, if_pos hk0, hG.out, hfc.out])
          have hGl : G.length ≤ 22005000001 := by rw [← hG.out]; omega
          rw [hG.out]
          replace hk0 := Lib.hid hk0
          go_upto_region 14 with fail
          rename ¬ 0 < k => hbr
          clear hbr
        case' neg =>
          have hk1 : (0 : Int) < k := by omega
          have hs0 : ¬ 9223372036854775807 < (g2 k).length + 1 := by omega
          obtain ⟨G, hG⟩ : ∃ G : List UInt8, Hid (g2 k ++ [59] = G) := ⟨g2 k ++ [59], rfl⟩
          have hres := Lib.hid (show g2 (k + 1) = G ++ (fname.data.toList ++ [61] ++ Lib.join (ws.map fun r => fmtWay r.l) [44]) by rw [hgn.out, if_neg hk0, hG.out, hfc.out])
          have hGl : G.length ≤ 22005000001 := by rw [← hG.out, List.length_append, List.length_singleton]; omega
          replace hk0 := Lib.hid hk0
          go_upto_region 14 with fail
          rename 0 < k => hbr
          clear hbr hs0
          rw [ba_app]
          rw [show (⟨(g2 k).toArray⟩ : ByteArray).data.toList ++ (⟨#[59]⟩ : ByteArray).data.toList = G from hG.out]
        all_goals
          clear hk1 hG hk0 hgl
          have hs1 : ¬ 9223372036854775807 < G.length + fname.size := by omega
          have hs2 : ¬ 9223372036854775807 < G.length + fname.size + 1 := by omega
          have hcat : Hid ((⟨G.toArray⟩ : ByteArray) ++ fname ++ ⟨#[61]⟩ = ⟨(jn (G ++ fname.data.toList ++ [61]) (ws.map fun r => fmtWay r.l) 44 0).toArray⟩) := Lib.hid (by rw [jn_zero, ba_app, ba_app])
          have hjl : ∀ j, (jn (G ++ fname.data.toList ++ [61]) (ws.map fun r => fmtWay r.l) 44 j).length ≤ 22105000000 := fun j => by
            have := jn_len (S := G ++ fname.data.toList ++ [61]) (L := ws.map fun r => fmtWay r.l) (c := 44) j 22000 (fun x hx => by
              obtain ⟨r, hr, rfl⟩ := List.mem_map.1 hx
              exact hwx.out r hr)
            have h1 : fname.data.toList.length = fname.size := rfl
            rw [List.length_map, List.length_append, List.length_append, List.length_singleton, h1, Hfw.out] at this
            omega
          have hjst := Lib.hid fun j r (h : ws[j]? = some r) => (show jn (G ++ fname.data.toList ++ [61]) (ws.map fun r => fmtWay r.l) 44 (j + 1) = (if j = 0 then _ else _) ++ fmtWay r.l from jn_step (by rw [List.getElem?_map, h]; rfl))
          have hje := Lib.hid (show jn (G ++ fname.data.toList ++ [61]) (ws.map fun r => fmtWay r.l) 44 fw = g2 (k + 1) by
            have := jn_end (G ++ fname.data.toList ++ [61]) (ws.map fun r => fmtWay r.l) 44
            rw [List.length_map, Hfw.out] at this
            rw [this, hres.out]
            simp)
          generalize jn (G ++ fname.data.toList ++ [61]) (ws.map fun r => fmtWay r.l) 44 = gw at *
          clear hres
          go_wp2
          clear L0
          go_loopw [3, 6] (fun s i wr => ∃ j : Nat, j ≤ fw ∧ i = .int .i64 j ∧ s = .string ⟨(gw j).toArray⟩ ∧ Below w.heap.size w wr ∧ Blk wr w.heap.size 58 #[.slice Ap np cp, .slice (some ⟨b, off, none⟩) nf cf, .slice Am nm cm]) (fun _ i _ => fw - (intOf i).toNat)
          case atStart => exact ⟨0, Nat.zero_le _, rfl, by first | rfl | rw [hcat.out], hb0, k0⟩
          case round =>
            clear hb0 k0 c0
            obtain ⟨j, hj, rfl, rfl, hb0, k0⟩ := hrel
            have L0 := k0.cell
            have hgl := hjl j
            have c1' := c1.out wr hb0
            by_cases hjn : j < fw
            · have hx : ws[j]? = some (ws[j]'(by rw [Hfw.out]; exact hjn)) := List.getElem?_eq_getElem _
              generalize ws[j]'(by rw [Hfw.out]; exact hjn) = r at hx
              have hr := List.mem_of_getElem? hx
              have hrl := hwx.out r hr
              have hgr := Lib.hid (hjst.out j r hx)
              have hjr := Lib.hid (hjx.out r hr r.A r.c wr ((hff.out.rows r hr).sl.below hb0))
              obtain ⟨b2, off2, e2, hc⟩ := hff.out.sl j r hx
              dsimp only at e2
              subst e2
              have c2 : wr.cell? ⟨b2, off2 + j, none⟩ = some (.slice r.A r.l.length r.c) := by simpa using kcell hb0 (hc 0 _ rfl)
              have hjn2 : (j : Int) < fw := by omega
              obtain ⟨R, hR⟩ : ∃ R, Hid (fmtWay r.l = R) := ⟨_, rfl⟩
              rw [hR.out] at hrl hgr hjr
              generalize r.l.length = rl at *
              clear hc hx
              by_cases hj0 : j = 0
              · have hj1 : ¬ (0 : Int) < j := by omega
                have hs1 : ¬ 9223372036854775807 < (gw j).length + R.length := by omega
                have hcat : Hid ((⟨(gw j).toArray⟩ : ByteArray) ++ ⟨R.toArray⟩ = ⟨(gw (j + 1)).toArray⟩) := Lib.hid (by rw [hgr.out, if_pos hj0, ba_app])
                replace hj0 := Lib.hid hj0
                go_wp2_with fail
                refine hjr.out.mono ?_
                rintro e w1 ⟨rfl, hb1⟩
                go_wp2
                go_roundw
                case rel => exact ⟨j + 1, by omega, by go_num, by first | rfl | rw [hcat.out], bl_tr hb0 hb1, k0.below hb1⟩
                case measure => simp [intOf]; omega
              · have hj1 : (0 : Int) < j := by omega
                have hs0 : ¬ 9223372036854775807 < (gw j).length + 1 := by omega
                have hs1 : ¬ 9223372036854775807 < (gw j).length + 1 + R.length := by omega
                have hcat : Hid ((⟨(gw j).toArray⟩ : ByteArray) ++ ⟨#[44]⟩ ++ ⟨R.toArray⟩ = ⟨(gw (j + 1)).toArray⟩) := Lib.hid (by rw [hgr.out, if_neg hj0, ba_app, ba_app])
                replace hj0 := Lib.hid hj0
                go_wp2_with fail
                refine hjr.out.mono ?_
                rintro e w1 ⟨rfl, hb1⟩
                go_wp2
                go_roundw
                case rel => exact ⟨j + 1, by omega, by go_num, by first | rfl | rw [hcat.out], bl_tr hb0 hb1, k0.below hb1⟩
                case measure => simp [intOf]; omega
            obtain rfl : fw = j := by omega
            go_wp2
            go_roundw
            case rel => exact ⟨k + 1, by omega, by go_num, by first | rfl | rw [hje.out], hb0, k0⟩
            case measure => simp [intOf]; omega
      obtain rfl : nf = k := by omega
      have hs0 : ¬ 9223372036854775807 < (g2 nf).length + 1 := by omega
      have hcat : (⟨(g2 nf).toArray⟩ : ByteArray) ++ ⟨#[47]⟩ = ⟨(g3 0).toArray⟩ := by rw [ba_app, hz3.out, hS2.out]
      clear hkn hst2 hz2 hl2 hfname hwlen hflen
      go_wp2
      clear L0
      go_loopw [3, 7] (fun s i wr => ∃ k : Nat, k ≤ nm ∧ i = .int .i64 k ∧ s = .string ⟨(g3 k).toArray⟩ ∧ Below w.heap.size w wr ∧ Blk wr w.heap.size 58 #[.slice Ap np cp, .slice Af nf cf, .slice Am nm cm]) (fun _ i _ => nm - (intOf i).toNat)
      case atStart => exact ⟨0, Nat.zero_le _, rfl, by first | rfl | rw [hcat], hb0, k0⟩
      case round =>
        clear hb0 k0 hcat hs0 hgl
        obtain ⟨k, hk, rfl, rfl, hb0, k0⟩ := hrel
        have L0 := k0.cell
        have hgl := hl3 k
        by_cases hkn : k < nm
        · have hx : n.ms[k]? = some (n.ms[k]'(by rw [Hm.out]; exact hkn)) := List.getElem?_eq_getElem _
          generalize n.ms[k]'(by rw [Hm.out]; exact hkn) = f at hx
          have hm := List.mem_of_getElem? hx
          have hfs := hmname.out f hm
          have hgn := Lib.hid (hst3.out k f hx)
          have hrl := hmlen.out f hm
          have hrs := Lib.hid fun W (hb : Below w.heap.size w W) => ((Hn.out.min f hm).row.sl.below hb)
          have hjr := Lib.hid fun W (hb : Below w.heap.size w W) => hjw.out f.r (.inr ⟨f, hm, rfl⟩) f.r.A f.r.c W (hrs.out W hb)
          obtain ⟨b, off, rfl, hc⟩ := Hn.out.msl k f hx
          have c0 := fun W (hb : Below wr.heap.size wr W) => kcell (bl_tr hb0 hb) (hc 0 _ rfl)
          have c1 := fun W (hb : Below wr.heap.size wr W) => kcell (bl_tr hb0 hb) (hc 1 _ rfl)
          simp only [Nat.add_zero] at c0
          have hkn2 : (k : Int) < nm := by omega
          have hfc : Hid (fmtMd f.con = f.name.data.toList ++ [61] ++ fmtWay f.r.l) := rfl
          clear hc hx hm hrs
          obtain ⟨fname, ⟨rA, rc, rl⟩⟩ := f
          dsimp only [vRw] at *
          obtain ⟨R, hR⟩ : ∃ R, Hid (fmtWay rl = R) := ⟨_, rfl⟩
          rw [hR.out] at hrl hjr hfc
          generalize rl.length = rn at *
          by_cases hk0 : k = 0
          case' pos =>
            have hk1 : ¬ (0 : Int) < k := by omega
            obtain ⟨G, hG⟩ : ∃ G, Hid (g3 k = G) := ⟨_, rfl⟩
            have hres := Lib.hid (show g3 (k + 1) = G ++ (fname.data.toList ++ [61] ++ R) by rw [hgn.out, if_pos hk0, hG.out, hfc.out])
            have hGl : G.length ≤ 22105000001 := by rw [← hG.out]; omega
            rw [hG.out]
            replace hk0 := Lib.hid hk0
            go_upto_region 27 with fail
            try (rename ¬ 0 < k => hbr; clear hbr)
          case' neg =>
            have hk1 : (0 : Int) < k := by omega
            have hs0 : ¬ 9223372036854775807 < (g3 k).length + 1 := by omega
            obtain ⟨G, hG⟩ : ∃ G : List UInt8, Hid (g3 k ++ [59] = G) := ⟨g3 k ++ [59], rfl⟩
            have hres := Lib.hid (show g3 (k + 1) = G ++ (fname.data.toList ++ [61] ++ R) by rw [hgn.out, if_neg hk0, hG.out, hfc.out])
            have hGl : G.length ≤ 22105000001 := by rw [← hG.out, List.length_append, List.length_singleton]; omega
            replace hk0 := Lib.hid hk0
            go_upto_region 27 with fail
            try (rename 0 < k => hbr; clear hbr)
            clear hs0
            rw [ba_app]
            rw [show (⟨(g3 k).toArray⟩ : ByteArray).data.toList ++ (⟨#[59]⟩ : ByteArray).data.toList = G from hG.out]
          all_goals
            clear hk1 hG hk0 hgl L0
            have LB := k0.later
            have hs1 : ¬ 9223372036854775807 < G.length + fname.size := by omega
            have hs2 : ¬ 9223372036854775807 < G.length + fname.size + 1 := by omega
            have hs3 : ¬ 9223372036854775807 < G.length + fname.size + 1 + R.length := by omega
            have hcat : Hid ((⟨G.toArray⟩ : ByteArray) ++ fname ++ ⟨#[61]⟩ ++ ⟨R.toArray⟩ = ⟨(g3 (k + 1)).toArray⟩) := Lib.hid (by rw [hres.out, ba_app, ba_app, ba_app]; simp)
            refine wp_any (w0 := wr) ⟨[17], [], [some 88, some 89, some 90, some 91, some 92, some 93, some 94, some 95, some 96, some 97, some 98, some 99, some 100, some 101, some 102, some 103, some 104, none], [[], [], [1], [], [1, 2, 3], [1, 2, 3, 4], [1, 2, 3, 4, 5], [0, 1, 2, 3, 4, 5, 6], [0, 1, 2, 3, 4, 5, 6, 7], [], [9], [], [9, 10, 11], [9, 10, 11, 12], [9, 10, 11, 12, 13], [9, 10, 11, 12, 13, 14], [0, 1, 2, 3, 4, 5, 6, 7, 8, 9, 10, 11, 12, 13, 14, 15], [0, 1, 2, 3, 4, 5, 6, 7, 8, 9, 10, 11, 12, 13, 14, 15, 16]], [[], [], [1], [], [2, 3], [4], [5], [0, 6], [7], [], [9], [], [10, 11], [12], [13], [14], [8, 15], []]⟩ (fun _ => []) (by kernel_rfl) (by kernel_rfl) (by (exact zE)) (fun u => by simp only [putD, Act.put, List.setIfInBounds_toArray, List.set_cons_zero, List.set_cons_succ, Nat.zero_add, Nat.reduceAdd]; rfl) ?_
            apply RGW.on (i := 0) rfl
            · exact zG
            · intro γ u W hcur hd
              clear hd
              (try dsimp only)
              exact ⟨rfl, zS⟩
            · exact zC
            · rfl
            dsimp only [nA, cA]
            apply RGW.on (i := 1) rfl
            · exact zG
            · intro γ u W hcur hd
              clear hd
              (try dsimp only)
              exact ⟨rfl, zS⟩
            · exact zC
            · rfl
            dsimp only [nA, cA]
            apply RGW.on (i := 2) rfl
            · exact zG
            · intro γ u W hcur hd
              obtain ⟨⟨h1, -, -⟩, -⟩ := hd
              dsimp only at h1
              (try simp only [h1])
              exact ⟨rfl, zS⟩
            · exact zC
            · rfl
            dsimp only [nA, cA]
            apply RGW.on (i := 3) rfl
            · exact zG
            · intro γ u W hcur hd
              clear hd
              (try dsimp only)
              exact ⟨rfl, zS⟩
            · exact zC
            · rfl
            dsimp only [nA, cA]
            apply RGW.on (i := 4) rfl
            · exact zG
            · intro γ u W hcur hd
              obtain ⟨⟨h2, -, -⟩, ⟨h3, -, -⟩, -⟩ := hd
              dsimp only at h2 h3
              (try simp only [h2, h3])
              exact ⟨rfl, zS⟩
            · exact zC
            · rfl
            dsimp only [nA, cA]
            apply RGW.on (i := 5) rfl
            · exact zG
            · intro γ u W hcur hd
              obtain ⟨⟨h4, -, -⟩, -⟩ := hd
              dsimp only at h4
              (try simp only [h4])
              exact ⟨rfl, zS⟩
            · exact zC
            · rfl
            dsimp only [nA, cA]
            apply RGW.on (i := 6) rfl
            · exact zG
            · intro γ u W hcur hd
              obtain ⟨⟨h5, -, -⟩, -⟩ := hd
              dsimp only at h5
              (try simp only [h5])
              exact ⟨rfl, zS⟩
            · exact zC
            · rfl
            dsimp only [nA, cA]
            apply RGW.on (i := 7) rfl
            · exact zG
            · intro γ u W hcur hd
              obtain ⟨⟨h0, -, -⟩, ⟨h6, -, -⟩, -⟩ := hd
              dsimp only at h0 h6
              (try simp only [h0, h6])
              exact ⟨rfl, zS⟩
            · exact zC
            · rfl
            dsimp only [nA, cA]
            apply RGW.on (i := 8) rfl
            · exact zG
            · intro γ u W hcur hd
              obtain ⟨⟨h7, -, -⟩, -⟩ := hd
              dsimp only at h7
              (try simp only [h7])
              exact ⟨rfl, zS⟩
            · exact zC
            · rfl
            dsimp only [nA, cA]
            apply RGW.on (i := 9) rfl
            · exact zG
            · intro γ u W hcur hd
              clear hd
              (try dsimp only)
              exact ⟨rfl, zS⟩
            · exact zC
            · rfl
            dsimp only [nA, cA]
            apply RGW.on (i := 10) rfl
            · exact zG
            · intro γ u W hcur hd
              obtain ⟨⟨h9, -, -⟩, -⟩ := hd
              dsimp only at h9
              (try simp only [h9])
              exact ⟨rfl, zS⟩
            · exact zC
            · rfl
            dsimp only [nA, cA]
            apply RGW.on (i := 11) rfl
            · exact zG
            · intro γ u W hcur hd
              clear hd
              (try dsimp only)
              exact ⟨rfl, zS⟩
            · exact zC
            · rfl
            dsimp only [nA, cA]
            apply RGW.on (i := 12) rfl
            · exact zG
            · intro γ u W hcur hd
              obtain ⟨⟨h10, -, -⟩, ⟨h11, -, -⟩, -⟩ := hd
              dsimp only at h10 h11
              (try simp only [h10, h11])
              exact ⟨rfl, zS⟩
            · exact zC
            · rfl
            dsimp only [nA, cA]
            apply RGW.on (i := 13) rfl
            · exact zG
            · intro γ u W hcur hd
              obtain ⟨⟨h12, -, -⟩, -⟩ := hd
              dsimp only at h12
              (try simp only [h12])
              exact ⟨rfl, zS⟩
            · exact zC
            · rfl
            dsimp only [nA, cA]
            apply RGW.on (i := 14) rfl
            · exact zG
            · intro γ u W hcur hd
              obtain ⟨⟨h13, -, -⟩, -⟩ := hd
              dsimp only at h13
              (try simp only [h13])
              exact ⟨rfl, zS⟩
            · exact zC
            · rfl
            dsimp only [nA, cA]
            apply RGW.call (i := 15) rfl
            · exact zG
            · intro γ u W hcur hd
              obtain ⟨⟨h14, -, -⟩, -⟩ := hd
              dsimp only at h14
              (try simp only [h14])
              refine ⟨rfl, fun K hK => ?_⟩
              go_simp
              (go_at_call 115; (with_reducible refine (hjr.out _ (bl_tr hb0 hcur)).mono ?_); rintro e w3 ⟨rfl, hb3⟩; replace hb3 := bl_tt hb3)
              (try dsimp only)
              exact hK.out _ _ rfl (by (exact zE))
            · exact zC
            · rfl
            dsimp only [nA, cA]
            apply RGW.on (i := 16) rfl
            · exact zG
            · intro γ u W hcur hd
              obtain ⟨⟨h8, -, -⟩, ⟨h15, -, -⟩, -⟩ := hd
              dsimp only at h8 h15
              (try simp only [h8, h15])
              exact ⟨rfl, zS⟩
            · exact zC
            · rfl
            dsimp only [nA, cA]
            refine RGW.skip (i := 17) rfl rfl ?_
            dsimp only [nA, cA]
            refine RGW.fin (fun γ u wd hwd hd hdis => ?_)
            obtain ⟨⟨h0, -, -⟩, ⟨h1, -, -⟩, ⟨h2, -, -⟩, ⟨h3, -, -⟩, ⟨h4, -, -⟩, ⟨h5, -, -⟩, ⟨h6, -, -⟩, ⟨h7, -, -⟩, ⟨h8, -, -⟩, ⟨h9, -, -⟩, ⟨h10, -, -⟩, ⟨h11, -, -⟩, ⟨h12, -, -⟩, ⟨h13, -, -⟩, ⟨h14, -, -⟩, ⟨h15, -, -⟩, ⟨h16, -, -⟩, -⟩ := hd
            dsimp only at h0 h1 h2 h3 h4 h5 h6 h7 h8 h9 h10 h11 h12 h13 h14 h15 h16
            clear hdis
            simp only [h0, h1, h2, h3, h4, h5, h6, h7, h8, h9, h10, h11, h12, h13, h14, h15, h16]
            clear h16 h15 h14 h13 h12 h11 h10 h9 h8 h7 h6 h5 h4 h3 h2 h1 h0
            clear u
            simp only [List.map_cons, List.map_nil]
            apply PlanW.step
            · exact zG
            · rfl
            intro K hK
            go_simp
            refine hK.out _ _ (by with_reducible first | assumption | exact bx_refl _ _) (fun hcur => ?_)
            clear hK K
            try simp only [Act.put, List.setIfInBounds_toArray, List.set_cons_zero, List.set_cons_succ]
            refine PlanW.done ?_
            have hb3 := bl_tt hwd
            have hbj := bl_tr hb0 hwd
            have k0' := k0.below hwd
            go_wp2
            go_roundw
            case rel => exact ⟨k + 1, by omega, by go_num, by first | rfl | rw [hcat.out], hbj, k0'⟩
            case measure => simp [intOf]; omega
        obtain rfl : nm = k := by omega
        have he := Lib.hid hout.out
        go_wp2
        go_ret
        exact ⟨by first | rfl | rw [he.out] <;> rfl, hb0⟩
end Go.Proofs.YtbdgblnccjpahaaGreatDoor
