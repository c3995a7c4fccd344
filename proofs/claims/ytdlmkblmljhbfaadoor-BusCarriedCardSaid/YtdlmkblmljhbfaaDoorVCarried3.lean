/-
  Walk: what is carried at each tick, and all messages, by the reference.
-/
import Derived.Test.YtdlmkblmljhbfaaDoorVCarried2
namespace Go.Proofs.YtdlmkblmljhbfaaDoor
set_option linter.unusedSimpArgs false
set_option linter.unusedVariables false
open Go.RowKit Go.Shelf
attribute [local go_sem] bl_al bl_drew bl_drewN bl_refl bx_al bx_drew bx_drewN bx_refl
set_option maxRecDepth 20000
theorem rel_at {l : List Sm} {st : List Int} {i : Nat} {s : Sm} {a : Int} (hs : l[i]? = some s) (ha : st[i]? = some a) (t : Int) : relB l st t i = (decide (a ≤ t) && decide ((t - a) % s.per = 0)) := by
  unfold relB
  rw [hs, ha]
theorem car_bd {l : List Sm} {st : List Int} (ho : Opn l st) (e : Bool) (t k : Nat) (hk : k ≤ l.length) : ∀ j ∈ jSend l st t (jRun l st e t).2 k, j.st < l.length ∧ 0 ≤ j.sent ∧ j.sent ≤ t ∧ 0 ≤ j.left ∧ j.left ≤ 20 := fun j hj => by
  cases e
  · have := ((jSend_sim ho (jRun_sim (chs_prio l) ho t).2 k hk).1).bd j hj
    omega
  · have := ((jSend_sim ho (jRun_sim (chs_dl l) ho t).2 k hk).1).bd j hj
    omega
theorem car_len {l : List Sm} {st : List Int} (ho : Opn l st) (e : Bool) (t k : Nat) (hk : k ≤ l.length) : (jSend l st t (jRun l st e t).2 k).length ≤ (t + 1) * 6 := by
  have h1 := jSend_len l st t (jRun l st e t).2 k
  have h2 := jRun_len l st e t
  have h3 := ho.len
  have : t * l.length ≤ t * 6 := Nat.mul_le_mul_left _ h3
  omega
theorem car_out {l : List Sm} {st : List Int} (ho : Opn l st) (e : Bool) (t : Nat) : (jRun l st e t).1.length = t := by
  cases e
  · rw [(jRun_sim (chs_prio l) ho t).1, runS_len]
  · rw [(jRun_sim (chs_dl l) ho t).1, runS_len]
set_option maxHeartbeats 8000000 in
theorem r_Carried (l : List Sm) (st : List Int) (T : Nat) (e : Bool) (Al As : Option Addr) (cl cs : Nat) (w : World) (ho : Opn l st) (hT : T ≤ 400) (hl : Sl cSm 4 w Al l) (hst : Sl cI 1 w As st) :
    Calls Tryd.prog 57 #[.slice Al l.length cl, .slice As st.length cs, .int .i64 T, .bool e] w (fun ex w' => Below w.heap.size w w' ∧ ∃ u v, ex = .returned (.tuple #[u, v]) ∧ JR w.heap.size u v (jRun l st e T).1 (jRun l st e T).2 w') := by
  obtain ⟨i0, hi, hz0, hz1, hz2⟩ := info_parts infoI
  obtain ⟨j0, gi, gz0, gz1, gz2⟩ := info_parts infoJ
  have hbe := Lib.hid fun (x y : Jb) W (hb : Below w.heap.size w W) hx hy hxs hys => r_before l Al cl x y e W (fun o h => by have := ho.sm o h; omega) (hl.below hb) (by have := ho.len; omega) hx hy hxs hys
  have Hl := Lib.hid hl
  have Hst := Lib.hid hst
  have Hrel := Lib.hid fun (k : Nat) (s : Sm) (a : Int) (hs : l[k]? = some s) (ha : st[k]? = some a) (t : Int) => rel_at (t := t) hs ha
  have Hla := Lib.hid fun (k : Nat) (s : Sm) (hs : l[k]? = some s) => (show lenAt l k = s.len by simp [lenAt, hs])
  have Hsm := Lib.hid ho.sm
  have Hss := Lib.hid ho.st
  have hlen := ho.len
  have hsl := ho.slen
  have Hbd := Lib.hid fun t k hk => car_bd ho e t k hk
  have Hln := Lib.hid fun t k hk => car_len ho e t k hk
  have Hol := Lib.hid fun t => car_out ho e t
  have Hpk := Lib.hid fun t => pick_spec l e (jSend l st (t : Nat) (jRun l st e t).2 l.length)
  have hF0 : Hid (∀ t : Nat, jSend l st t (jRun l st e t).2 0 = (jRun l st e t).2) := fun _ => rfl
  have hFs : Hid (∀ t k : Nat, jSend l st t (jRun l st e t).2 (k + 1) = if relB l st t k then jSend l st t (jRun l st e t).2 k ++ [⟨k, t, lenAt l k, 0⟩] else jSend l st t (jRun l st e t).2 k) := fun _ _ => rfl
  have hP0 : Hid (∀ t : Nat, jPick l e (jSend l st t (jRun l st e t).2 l.length) 0 = -1) := fun _ => rfl
  have hPs : Hid (∀ (t k : Nat) (j : Jb), (jSend l st t (jRun l st e t).2 l.length)[k]? = some j → jPick l e (jSend l st t (jRun l st e t).2 l.length) (k + 1) = if decide (0 < j.left) && jBeats l e (jSend l st t (jRun l st e t).2 l.length) (jPick l e (jSend l st t (jRun l st e t).2 l.length) k) j then (k : Int) else jPick l e (jSend l st t (jRun l st e t).2 l.length) k) := fun t k j hj => by
    rw [jPick]
    simp only [hj]
  have hR : Hid (∀ t : Nat, jRun l st e (t + 1) = jTake t (jPick l e (jSend l st t (jRun l st e t).2 l.length) (jSend l st t (jRun l st e t).2 l.length).length) (jRun l st e t).1 (jSend l st t (jRun l st e t).2 l.length)) := fun _ => rfl
  have hR0 : Hid (jRun l st e 0 = ([], [])) := rfl
  clear ho hl hst
  obtain ⟨R, hRR⟩ : ∃ R : Nat → List Int × List Jb, ∀ t, jRun l st e t = R t := ⟨_, fun _ => rfl⟩
  simp only [hRR] at *
  clear hRR
  obtain ⟨F, hFF⟩ : ∃ F : Nat → Nat → List Jb, ∀ t k : Nat, jSend l st t (R t).2 k = F t k := ⟨_, fun _ _ => rfl⟩
  simp only [hFF] at *
  clear hFF
  obtain ⟨P, hPP⟩ : ∃ P : Nat → Nat → Int, ∀ t k : Nat, jPick l e (F t l.length) k = P t k := ⟨_, fun _ _ => rfl⟩
  simp only [hPP] at *
  clear hPP
  rw [hsl]
  go_enter Tryd.func57, Tryd.ntmps57
  go_wp2
  go_loopw [10, 11, 12] (fun u v i wr => ∃ t : Nat, t ≤ T ∧ i = .int .i64 t ∧ Below w.heap.size w wr ∧ JR w.heap.size u v (R t).1 (R t).2 wr) (fun _ _ i _ => T - (intOf i).toNat)
  case atStart => exact ⟨0, Nat.zero_le _, rfl, bl_refl w, by rw [hR0.out]; exact JR.nil (Nat.le_refl _)⟩
  case round =>
    obtain ⟨t, ht, rfl, hb0, hj⟩ := hrel
    replace hj := Lib.hid hj
    by_cases htT : t < T
    rotate_left
    · have : t = T := by omega
      subst this
      obtain ⟨A1, c1, rfl⟩ := own_slice hj.out.a
      obtain ⟨A2, c2, rfl⟩ := own_slice hj.out.b
      go_wp2
      go_ret2
      exact ⟨hb0, _, _, rfl, hj.out⟩
    have htT2 : (t : Int) < T := by omega
    go_wp2
    generalize hO : (R t).1 = O at *
    replace hO := Lib.hid hO
    have hOl : O.length = t := by rw [← hO.out]; exact Hol.out t
    replace hOl := Lib.hid hOl
    have hj0 : JR w.heap.size u10 u11 O (F t 0) wr := by rw [hF0.out]; exact hj.out
    clear hj
    go_loopw [11, 13] (fun v i wr => ∃ k : Nat, k ≤ l.length ∧ i = .int .i64 k ∧ Below w.heap.size w wr ∧ JR w.heap.size u10 v O (F t k) wr) (fun _ i _ => l.length - (intOf i).toNat)
    case atStart => exact ⟨0, Nat.zero_le _, rfl, hb0, hj0⟩
    case round =>
      clear hj0 hb0
      obtain ⟨k, hk, rfl, hb0, hj⟩ := hrel
      replace hj := Lib.hid hj
      by_cases hkn : k < l.length
      · have hx : l[k]? = some l[k] := List.getElem?_eq_getElem hkn
        have hsk : k < st.length := by omega
        have ha : st[k]? = some st[k] := List.getElem?_eq_getElem hsk
        have hsm := Hsm.out l[k] (List.getElem_mem hkn)
        have hss := Hss.out st[k] (List.getElem_mem hsk)
        have hre := Hrel.out k l[k] st[k] hx ha t
        have hla := Hla.out k l[k] hx
        generalize l[k] = s at *
        generalize st[k] = a at *
        obtain ⟨b, o, rfl, hc⟩ := Hl.out k s hx
        obtain ⟨b2, o2, rfl, hc2⟩ := Hst.out k a ha
        have LP : ∀ W, Below wr.heap.size wr W → W.cell? ⟨b, o + k * 4 + 1, none⟩ = some (.int .i64 s.per) := fun W h => later (hc 1 _ rfl) W (bl_tr hb0 h)
        have LL : ∀ W, Below wr.heap.size wr W → W.cell? ⟨b, o + k * 4 + 3, none⟩ = some (.int .i64 s.len) := fun W h => later (hc 3 _ rfl) W (bl_tr hb0 h)
        have LA : ∀ W, Below wr.heap.size wr W → W.cell? ⟨b2, o2 + k, none⟩ = some (.int .i64 a) := fun W h => later (by simpa using hc2 0 _ rfl) W (bl_tr hb0 h)
        have hF := hFs.out t k
        rw [hla] at hF
        have hkn2 : (k : Int) < l.length := by omega
        clear hc hc2 hx ha hla
        obtain ⟨_, p, _, ln⟩ := s
        dsimp only at *
        go_upto_region 9 with fail
        have hper : ¬ p = 0 := by omega
        by_cases h1 : a ≤ t
        · have h1' : decide (a ≤ t) = true := by simp [h1]
          by_cases h2 : (t - a) % p = 0
          · rw [hre, h1', decide_eq_true h2, Bool.and_true, if_pos rfl] at hF
            have h3 : Int.tmod ((t : Int) - a) p = 0 := by rw [Int.tmod_eq_emod_of_nonneg (by omega)]; exact h2
            refine wp_any (w0 := wr) ⟨[], [], [some 27, some 28, some 29, some 30, some 31, some 32, some 33, some 34, some 35, some 36, some 37, some 38, some 39, some 40, some 41, some 42, some 43, some 44, some 45, some 46, some 47], [[], [], [], [1, 2], [1, 2, 3], [0, 1, 2, 3, 4], [0, 1, 2, 3, 4, 5], [0, 1, 2, 3, 4, 5, 6], [0, 1, 2, 3, 4, 5, 6], [0, 1, 2, 3, 4, 5, 6], [0, 1, 2, 3, 4, 5, 6, 8, 9], [0, 1, 2, 3, 4, 5, 6, 8, 9, 10], [0, 1, 2, 3, 4, 5, 6, 7, 8, 9, 10, 11], [0, 1, 2, 3, 4, 5, 6], [0, 1, 2, 3, 4, 5, 6], [0, 1, 2, 3, 4, 5, 6, 13, 14], [0, 1, 2, 3, 4, 5, 6, 13, 14, 15], [0, 1, 2, 3, 4, 5, 6, 13, 14, 15, 16], [0, 1, 2, 3, 4, 5, 6, 7, 8, 9, 10, 11, 12, 13, 14, 15, 16, 17], [0, 1, 2, 3, 4, 5, 6, 7, 8, 9, 10, 11, 12, 13, 14, 15, 16, 17, 18], [0, 1, 2, 3, 4, 5, 6, 7, 8, 9, 10, 11, 12, 13, 14, 15, 16, 17, 18, 19]], [[], [], [], [1, 2], [3], [0, 4], [5], [6], [6], [6], [6, 8, 9], [6, 10], [6, 7, 11], [6], [6], [6, 13, 14], [6, 15], [6, 16], [6, 12, 17], [6, 18], [6, 19]]⟩ (fun _ => []) (by kernel_rfl) (by kernel_rfl) (by (with_reducible (repeat' (first | assumption | apply jA | apply jB | apply jC | apply jD | apply jE | apply jF | apply hb3 | omega | (simp; done) | (simp; omega) | (dsimp only; omega))))) (fun u => by simp only [putD, Act.put, List.setIfInBounds_toArray, List.set_cons_zero, List.set_cons_succ, Nat.zero_add, Nat.reduceAdd]; rfl) ?_
            apply RGW.on (i := 0) rfl
            · (simp only [gA, gB, gC] <;> rfl)
            · intro γ u W hcur hd
              clear hd
              (try dsimp only)
              refine ⟨rfl, ?_⟩
              go_simp <;> (try go_bits) <;> with_reducible rfl
            · exact fun _ _ _ => rfl
            · rfl
            dsimp only [nA, cA]
            apply RGW.on (i := 1) rfl
            · (simp only [gA, gB, gC] <;> rfl)
            · intro γ u W hcur hd
              clear hd
              (try dsimp only)
              refine ⟨rfl, ?_⟩
              go_simp <;> (try go_bits) <;> with_reducible rfl
            · exact fun _ _ _ => rfl
            · rfl
            dsimp only [nA, cA]
            apply RGW.on (i := 2) rfl
            · (simp only [gA, gB, gC] <;> rfl)
            · intro γ u W hcur hd
              clear hd
              (try dsimp only)
              refine ⟨rfl, ?_⟩
              go_simp <;> (try go_bits) <;> with_reducible rfl
            · exact fun _ _ _ => rfl
            · rfl
            dsimp only [nA, cA]
            apply RGW.on (i := 3) rfl
            · (simp only [gA, gB, gC] <;> rfl)
            · intro γ u W hcur hd
              obtain ⟨⟨h1, -, -⟩, ⟨h2, -, -⟩, -⟩ := hd
              dsimp only at h1 h2
              (try simp only [h1, h2])
              refine ⟨rfl, ?_⟩
              go_simp <;> (try go_bits) <;> with_reducible rfl
            · exact fun _ _ _ => rfl
            · rfl
            dsimp only [nA, cA]
            apply RGW.on (i := 4) rfl
            · (simp only [gA, gB, gC] <;> rfl)
            · intro γ u W hcur hd
              obtain ⟨⟨h3, -, -⟩, -⟩ := hd
              dsimp only at h3
              (try simp only [h3])
              refine ⟨rfl, ?_⟩
              go_simp <;> (try go_bits) <;> with_reducible rfl
            · exact fun _ _ _ => rfl
            · rfl
            dsimp only [nA, cA]
            apply RGW.on (i := 5) rfl
            · (simp only [gA, gB, gC] <;> rfl)
            · intro γ u W hcur hd
              obtain ⟨⟨h0, -, -⟩, ⟨h4, -, -⟩, -⟩ := hd
              dsimp only at h0 h4
              (try simp only [h0, h4])
              refine ⟨rfl, ?_⟩
              go_simp <;> (try go_bits) <;> with_reducible rfl
            · exact fun _ _ _ => rfl
            · rfl
            dsimp only [nA, cA]
            apply RGW.on (i := 6) rfl
            · (simp only [gA, gB, gC] <;> rfl)
            · intro γ u W hcur hd
              obtain ⟨⟨h5, -, -⟩, -⟩ := hd
              dsimp only at h5
              (try simp only [h5])
              refine ⟨rfl, ?_⟩
              go_simp <;> (try go_bits) <;> with_reducible rfl
            · exact fun _ _ _ => rfl
            · rfl
            dsimp only [nA, cA]
            first
            | apply RGW.on (i := 7) rfl
              · (simp only [gA, gB, gC] <;> rfl)
              · intro γ u W hcur hd
                obtain ⟨⟨h6, -, -⟩, -⟩ := hd
                dsimp only at h6
                (try simp only [h6])
                refine ⟨?_, ?_⟩
                · (simp [Region.wanted, yielded, undef, *]; done)
                go_simp <;> (try go_bits) <;> with_reducible rfl
              · exact fun _ _ _ => rfl
              · rfl
            | apply RGW.off (i := 7) rfl
              · (simp only [gA, gB, gC] <;> rfl)
              · intro γ u W hcur hd
                obtain ⟨⟨h6, -, -⟩, -⟩ := hd
                dsimp only at h6
                (try simp only [h6])
                simp [Region.wanted, yielded, undef, *]
              · rfl
            dsimp only [nA, cA]
            first
            | apply RGW.on (i := 8) rfl
              · (simp only [gA, gB, gC] <;> rfl)
              · intro γ u W hcur hd
                obtain ⟨⟨h6, -, -⟩, -⟩ := hd
                dsimp only at h6
                (try simp only [h6])
                refine ⟨?_, ?_⟩
                · (simp [Region.wanted, yielded, undef, *]; done)
                go_simp <;> (try go_bits) <;> with_reducible rfl
              · exact fun _ _ _ => rfl
              · rfl
            | apply RGW.off (i := 8) rfl
              · (simp only [gA, gB, gC] <;> rfl)
              · intro γ u W hcur hd
                obtain ⟨⟨h6, -, -⟩, -⟩ := hd
                dsimp only at h6
                (try simp only [h6])
                simp [Region.wanted, yielded, undef, *]
              · rfl
            dsimp only [nA, cA]
            first
            | apply RGW.on (i := 9) rfl
              · (simp only [gA, gB, gC] <;> rfl)
              · intro γ u W hcur hd
                obtain ⟨⟨h6, -, -⟩, -⟩ := hd
                dsimp only at h6
                (try simp only [h6])
                refine ⟨?_, ?_⟩
                · (simp [Region.wanted, yielded, undef, *]; done)
                go_simp <;> (try go_bits) <;> with_reducible rfl
              · exact fun _ _ _ => rfl
              · rfl
            | apply RGW.off (i := 9) rfl
              · (simp only [gA, gB, gC] <;> rfl)
              · intro γ u W hcur hd
                obtain ⟨⟨h6, -, -⟩, -⟩ := hd
                dsimp only at h6
                (try simp only [h6])
                simp [Region.wanted, yielded, undef, *]
              · rfl
            dsimp only [nA, cA]
            first
            | apply RGW.on (i := 10) rfl
              · (simp only [gA, gB, gC] <;> rfl)
              · intro γ u W hcur hd
                obtain ⟨⟨h6, -, -⟩, ⟨h8, -, -⟩, ⟨h9, -, -⟩, -⟩ := hd
                dsimp only at h6 h8 h9
                (try simp only [h6, h8, h9])
                refine ⟨?_, ?_⟩
                · (simp [Region.wanted, yielded, undef, *]; done)
                go_simp <;> (try go_bits) <;> with_reducible rfl
              · exact fun _ _ _ => rfl
              · rfl
            | apply RGW.off (i := 10) rfl
              · (simp only [gA, gB, gC] <;> rfl)
              · intro γ u W hcur hd
                obtain ⟨⟨h6, -, -⟩, ⟨h8, -, -⟩, ⟨h9, -, -⟩, -⟩ := hd
                dsimp only at h6 h8 h9
                (try simp only [h6, h8, h9])
                simp [Region.wanted, yielded, undef, *]
              · rfl
            dsimp only [nA, cA]
            first
            | apply RGW.on (i := 11) rfl
              · (simp only [gA, gB, gC] <;> rfl)
              · intro γ u W hcur hd
                obtain ⟨⟨h6, -, -⟩, ⟨h10, -, -⟩, -⟩ := hd
                dsimp only at h6 h10
                (try simp only [h6, h10])
                refine ⟨?_, ?_⟩
                · (simp [Region.wanted, yielded, undef, *]; done)
                go_simp <;> (try go_bits) <;> with_reducible rfl
              · exact fun _ _ _ => rfl
              · rfl
            | apply RGW.off (i := 11) rfl
              · (simp only [gA, gB, gC] <;> rfl)
              · intro γ u W hcur hd
                obtain ⟨⟨h6, -, -⟩, ⟨h10, -, -⟩, -⟩ := hd
                dsimp only at h6 h10
                (try simp only [h6, h10])
                simp [Region.wanted, yielded, undef, *]
              · rfl
            dsimp only [nA, cA]
            first
            | apply RGW.on (i := 12) rfl
              · (simp only [gA, gB, gC] <;> rfl)
              · intro γ u W hcur hd
                obtain ⟨⟨h6, -, -⟩, ⟨h7, -, -⟩, ⟨h11, -, -⟩, -⟩ := hd
                dsimp only at h6 h7 h11
                (try simp only [h6, h7, h11])
                refine ⟨?_, ?_⟩
                · (simp [Region.wanted, yielded, undef, *]; done)
                go_simp <;> (try go_bits) <;> with_reducible rfl
              · exact fun _ _ _ => rfl
              · rfl
            | apply RGW.off (i := 12) rfl
              · (simp only [gA, gB, gC] <;> rfl)
              · intro γ u W hcur hd
                obtain ⟨⟨h6, -, -⟩, ⟨h7, -, -⟩, ⟨h11, -, -⟩, -⟩ := hd
                dsimp only at h6 h7 h11
                (try simp only [h6, h7, h11])
                simp [Region.wanted, yielded, undef, *]
              · rfl
            dsimp only [nA, cA]
            first
            | apply RGW.on (i := 13) rfl
              · (simp only [gA, gB, gC] <;> rfl)
              · intro γ u W hcur hd
                obtain ⟨⟨h6, -, -⟩, -⟩ := hd
                dsimp only at h6
                (try simp only [h6])
                refine ⟨?_, ?_⟩
                · (simp [Region.wanted, yielded, undef, *]; done)
                go_simp <;> (try go_bits) <;> with_reducible rfl
              · exact fun _ _ _ => rfl
              · rfl
            | apply RGW.off (i := 13) rfl
              · (simp only [gA, gB, gC] <;> rfl)
              · intro γ u W hcur hd
                obtain ⟨⟨h6, -, -⟩, -⟩ := hd
                dsimp only at h6
                (try simp only [h6])
                simp [Region.wanted, yielded, undef, *]
              · rfl
            dsimp only [nA, cA]
            first
            | apply RGW.on (i := 14) rfl
              · (simp only [gA, gB, gC] <;> rfl)
              · intro γ u W hcur hd
                obtain ⟨⟨h6, -, -⟩, -⟩ := hd
                dsimp only at h6
                (try simp only [h6])
                refine ⟨?_, ?_⟩
                · (simp [Region.wanted, yielded, undef, *]; done)
                go_simp <;> (try go_bits) <;> with_reducible rfl
              · exact fun _ _ _ => rfl
              · rfl
            | apply RGW.off (i := 14) rfl
              · (simp only [gA, gB, gC] <;> rfl)
              · intro γ u W hcur hd
                obtain ⟨⟨h6, -, -⟩, -⟩ := hd
                dsimp only at h6
                (try simp only [h6])
                simp [Region.wanted, yielded, undef, *]
              · rfl
            dsimp only [nA, cA]
            first
            | apply RGW.on (i := 15) rfl
              · (simp only [gA, gB, gC] <;> rfl)
              · intro γ u W hcur hd
                obtain ⟨⟨h6, -, -⟩, ⟨h13, -, -⟩, ⟨h14, -, -⟩, -⟩ := hd
                dsimp only at h6 h13 h14
                (try simp only [h6, h13, h14])
                refine ⟨?_, ?_⟩
                · (simp [Region.wanted, yielded, undef, *]; done)
                go_simp <;> (try go_bits) <;> with_reducible rfl
              · exact fun _ _ _ => rfl
              · rfl
            | apply RGW.off (i := 15) rfl
              · (simp only [gA, gB, gC] <;> rfl)
              · intro γ u W hcur hd
                obtain ⟨⟨h6, -, -⟩, ⟨h13, -, -⟩, ⟨h14, -, -⟩, -⟩ := hd
                dsimp only at h6 h13 h14
                (try simp only [h6, h13, h14])
                simp [Region.wanted, yielded, undef, *]
              · rfl
            dsimp only [nA, cA]
            first
            | apply RGW.on (i := 16) rfl
              · (simp only [gA, gB, gC] <;> rfl)
              · intro γ u W hcur hd
                obtain ⟨⟨h6, -, -⟩, ⟨h15, -, -⟩, -⟩ := hd
                dsimp only at h6 h15
                (try simp only [h6, h15])
                refine ⟨?_, ?_⟩
                · (simp [Region.wanted, yielded, undef, *]; done)
                go_simp <;> (try go_bits) <;> with_reducible rfl
              · exact fun _ _ _ => rfl
              · rfl
            | apply RGW.off (i := 16) rfl
              · (simp only [gA, gB, gC] <;> rfl)
              · intro γ u W hcur hd
                obtain ⟨⟨h6, -, -⟩, ⟨h15, -, -⟩, -⟩ := hd
                dsimp only at h6 h15
                (try simp only [h6, h15])
                simp [Region.wanted, yielded, undef, *]
              · rfl
            dsimp only [nA, cA]
            first
            | apply RGW.on (i := 17) rfl
              · (simp only [gA, gB, gC] <;> rfl)
              · intro γ u W hcur hd
                obtain ⟨⟨h6, -, -⟩, ⟨h16, -, -⟩, -⟩ := hd
                dsimp only at h6 h16
                (try simp only [h6, h16])
                refine ⟨?_, ?_⟩
                · (simp [Region.wanted, yielded, undef, *]; done)
                go_simp <;> (try go_bits) <;> with_reducible rfl
              · exact fun _ _ _ => rfl
              · rfl
            | apply RGW.off (i := 17) rfl
              · (simp only [gA, gB, gC] <;> rfl)
              · intro γ u W hcur hd
                obtain ⟨⟨h6, -, -⟩, ⟨h16, -, -⟩, -⟩ := hd
                dsimp only at h6 h16
                (try simp only [h6, h16])
                simp [Region.wanted, yielded, undef, *]
              · rfl
            dsimp only [nA, cA]
            first
            | apply RGW.on (i := 18) rfl
              · (simp only [gA, gB, gC] <;> rfl)
              · intro γ u W hcur hd
                obtain ⟨⟨h6, -, -⟩, ⟨h12, -, -⟩, ⟨h17, -, -⟩, -⟩ := hd
                dsimp only at h6 h12 h17
                (try simp only [h6, h12, h17])
                refine ⟨?_, ?_⟩
                · (simp [Region.wanted, yielded, undef, *]; done)
                go_simp <;> (try go_bits) <;> with_reducible rfl
              · exact fun _ _ _ => rfl
              · rfl
            | apply RGW.off (i := 18) rfl
              · (simp only [gA, gB, gC] <;> rfl)
              · intro γ u W hcur hd
                obtain ⟨⟨h6, -, -⟩, ⟨h12, -, -⟩, ⟨h17, -, -⟩, -⟩ := hd
                dsimp only at h6 h12 h17
                (try simp only [h6, h12, h17])
                simp [Region.wanted, yielded, undef, *]
              · rfl
            dsimp only [nA, cA]
            first
            | apply RGW.on (i := 19) rfl
              · (simp only [gA, gB, gC] <;> rfl)
              · intro γ u W hcur hd
                obtain ⟨⟨h6, -, -⟩, ⟨h18, -, -⟩, -⟩ := hd
                dsimp only at h6 h18
                (try simp only [h6, h18])
                refine ⟨?_, ?_⟩
                · (simp [Region.wanted, yielded, undef, *]; done)
                go_simp <;> (try go_bits) <;> with_reducible rfl
              · exact fun _ _ _ => rfl
              · rfl
            | apply RGW.off (i := 19) rfl
              · (simp only [gA, gB, gC] <;> rfl)
              · intro γ u W hcur hd
                obtain ⟨⟨h6, -, -⟩, ⟨h18, -, -⟩, -⟩ := hd
                dsimp only at h6 h18
                (try simp only [h6, h18])
                simp [Region.wanted, yielded, undef, *]
              · rfl
            dsimp only [nA, cA]
            apply RGW.on (i := 20) rfl
            · (simp only [gA, gB, gC] <;> rfl)
            · intro γ u W hcur hd
              obtain ⟨⟨h6, -, -⟩, ⟨h19, -, -⟩, -⟩ := hd
              dsimp only at h6 h19
              (try simp only [h6, h19])
              refine ⟨rfl, ?_⟩
              go_simp <;> (try go_bits) <;> with_reducible rfl
            · exact fun _ _ _ => rfl
            · rfl
            dsimp only [nA, cA]
            refine RGW.fin (fun γ u w2 hw2 hd hdis => ?_)
            obtain ⟨⟨h0, -, -⟩, ⟨h1, -, -⟩, ⟨h2, -, -⟩, ⟨h3, -, -⟩, ⟨h4, -, -⟩, ⟨h5, -, -⟩, ⟨h6, -, -⟩, ⟨h7, -, -⟩, ⟨h8, -, -⟩, ⟨h9, -, -⟩, ⟨h10, -, -⟩, ⟨h11, -, -⟩, ⟨h12, -, -⟩, ⟨h13, -, -⟩, ⟨h14, -, -⟩, ⟨h15, -, -⟩, ⟨h16, -, -⟩, ⟨h17, -, -⟩, ⟨h18, -, -⟩, ⟨h19, -, -⟩, ⟨h20, -, -⟩, -⟩ := hd
            dsimp only at h0 h1 h2 h3 h4 h5 h6 h7 h8 h9 h10 h11 h12 h13 h14 h15 h16 h17 h18 h19 h20
            clear hdis
            simp only [h0, h1, h2, h3, h4, h5, h6, h7, h8, h9, h10, h11, h12, h13, h14, h15, h16, h17, h18, h19, h20]
            clear h20 h19 h18 h17 h16 h15 h14 h13 h12 h11 h10 h9 h8 h7 h6 h5 h4 h3 h2 h1 h0
            clear u
            simp only [List.map_nil]
            refine PlanW.done ?_
            have hb3 := bl_tt hw2
            replace hb0 := bl_tr hb0 hw2
            replace hj := Lib.hid (hj.out.below hw2)
            replace LL := fun W (h : Below w2.heap.size w2 W) => LL W (bl_tr hw2 h)
            clear LA LP hb3 hw2
            have hln := Hln.out t k hk
            have hsz := hb0.size
            have hjA := Lib.hid (hj.out.below (bl_al (.cells #[.int .i64 k, .int .i64 t, .int .i64 ln, .int .i64 0] tJb) (bl_refl _)))
            replace hF := Lib.hid hF
            replace hre := Lib.hid hre
            go_wp2_with (at_builtin; refine wpList_append_own2 rfl _ _ 95 rfl w.heap.size tJb j0 (.agg #[.int .i64 0, .int .i64 0, .int .i64 0, .int .i64 0]) 4 32 Tryd.underlying95 gi gz0 gz1 gz2 rfl (by decide) _ _ _ rfl (hjA.out.b) ⟨_, 0, none⟩ 1 1 (cJb ⟨k, t, ln, 0⟩) rfl rfl ?c1 ?c2 ?c3 ?c4 ?c5 ?_)
            case c1 =>
              intro j u hj
              match j, hj with
              | 0, hj => simp [cJb] at hj; subst hj; simp [Addr.add]
              | 1, hj => simp [cJb] at hj; subst hj; simp [Addr.add]
              | 2, hj => simp [cJb] at hj; subst hj; simp [Addr.add]
              | 3, hj => simp [cJb] at hj; subst hj; simp [Addr.add]
              | j + 4, hj => simp [cJb] at hj
            case c2 => intro u hu; simp [cJb] at hu; rcases hu with rfl | rfl | rfl | rfl <;> rfl
            case c3 => unfold maxLen; omega
            case c4 => omega
            case c5 => exact hjA.out.ge
            intro v1 w3 hown hg hd
            replace hb0 := (bl_al (.cells #[.int .i64 k, .int .i64 t, .int .i64 ln, .int .i64 0] tJb) hb0).grown hg (by simp; omega) (own_ge hjA.out.b)
            replace hj := Lib.hid (hjA.out.appJ hown hg (by simpa using hd))
            clear hown hg hd hjA hsz
            rw [← hF.out] at hj
            go_wp2
            go_roundw
            case rel => exact ⟨k + 1, by omega, by go_num, hb0, hj.out⟩
            case measure => simp [intOf]; omega
          · rw [hre, decide_eq_false h2, Bool.and_false, if_neg (by simp)] at hF
            have h3 : ¬ Int.tmod ((t : Int) - a) p = 0 := by rw [Int.tmod_eq_emod_of_nonneg (by omega)]; exact h2
            refine wp_any (w0 := wr) ⟨[], [], [some 27, some 28, some 29, some 30, some 31, some 32, some 33, some 34, some 35, some 36, some 37, some 38, some 39, some 40, some 41, some 42, some 43, some 44, some 45, some 46, some 47], [[], [], [], [1, 2], [1, 2, 3], [0, 1, 2, 3, 4], [0, 1, 2, 3, 4, 5], [0, 1, 2, 3, 4, 5, 6], [0, 1, 2, 3, 4, 5, 6], [0, 1, 2, 3, 4, 5, 6], [0, 1, 2, 3, 4, 5, 6, 8, 9], [0, 1, 2, 3, 4, 5, 6, 8, 9, 10], [0, 1, 2, 3, 4, 5, 6, 7, 8, 9, 10, 11], [0, 1, 2, 3, 4, 5, 6], [0, 1, 2, 3, 4, 5, 6], [0, 1, 2, 3, 4, 5, 6, 13, 14], [0, 1, 2, 3, 4, 5, 6, 13, 14, 15], [0, 1, 2, 3, 4, 5, 6, 13, 14, 15, 16], [0, 1, 2, 3, 4, 5, 6, 7, 8, 9, 10, 11, 12, 13, 14, 15, 16, 17], [0, 1, 2, 3, 4, 5, 6, 7, 8, 9, 10, 11, 12, 13, 14, 15, 16, 17, 18], [0, 1, 2, 3, 4, 5, 6, 7, 8, 9, 10, 11, 12, 13, 14, 15, 16, 17, 18, 19]], [[], [], [], [1, 2], [3], [0, 4], [5], [6], [6], [6], [6, 8, 9], [6, 10], [6, 7, 11], [6], [6], [6, 13, 14], [6, 15], [6, 16], [6, 12, 17], [6, 18], [6, 19]]⟩ (fun _ => []) (by kernel_rfl) (by kernel_rfl) (by (with_reducible (repeat' (first | assumption | apply jA | apply jB | apply jC | apply jD | apply jE | apply jF | apply hb3 | omega | (simp; done) | (simp; omega) | (dsimp only; omega))))) (fun u => by simp only [putD, Act.put, List.setIfInBounds_toArray, List.set_cons_zero, List.set_cons_succ, Nat.zero_add, Nat.reduceAdd]; rfl) ?_
            apply RGW.on (i := 0) rfl
            · (simp only [gA, gB, gC] <;> rfl)
            · intro γ u W hcur hd
              clear hd
              (try dsimp only)
              refine ⟨rfl, ?_⟩
              go_simp <;> (try go_bits) <;> with_reducible rfl
            · exact fun _ _ _ => rfl
            · rfl
            dsimp only [nA, cA]
            apply RGW.on (i := 1) rfl
            · (simp only [gA, gB, gC] <;> rfl)
            · intro γ u W hcur hd
              clear hd
              (try dsimp only)
              refine ⟨rfl, ?_⟩
              go_simp <;> (try go_bits) <;> with_reducible rfl
            · exact fun _ _ _ => rfl
            · rfl
            dsimp only [nA, cA]
            apply RGW.on (i := 2) rfl
            · (simp only [gA, gB, gC] <;> rfl)
            · intro γ u W hcur hd
              clear hd
              (try dsimp only)
              refine ⟨rfl, ?_⟩
              go_simp <;> (try go_bits) <;> with_reducible rfl
            · exact fun _ _ _ => rfl
            · rfl
            dsimp only [nA, cA]
            apply RGW.on (i := 3) rfl
            · (simp only [gA, gB, gC] <;> rfl)
            · intro γ u W hcur hd
              obtain ⟨⟨h1, -, -⟩, ⟨h2, -, -⟩, -⟩ := hd
              dsimp only at h1 h2
              (try simp only [h1, h2])
              refine ⟨rfl, ?_⟩
              go_simp <;> (try go_bits) <;> with_reducible rfl
            · exact fun _ _ _ => rfl
            · rfl
            dsimp only [nA, cA]
            apply RGW.on (i := 4) rfl
            · (simp only [gA, gB, gC] <;> rfl)
            · intro γ u W hcur hd
              obtain ⟨⟨h3, -, -⟩, -⟩ := hd
              dsimp only at h3
              (try simp only [h3])
              refine ⟨rfl, ?_⟩
              go_simp <;> (try go_bits) <;> with_reducible rfl
            · exact fun _ _ _ => rfl
            · rfl
            dsimp only [nA, cA]
            apply RGW.on (i := 5) rfl
            · (simp only [gA, gB, gC] <;> rfl)
            · intro γ u W hcur hd
              obtain ⟨⟨h0, -, -⟩, ⟨h4, -, -⟩, -⟩ := hd
              dsimp only at h0 h4
              (try simp only [h0, h4])
              refine ⟨rfl, ?_⟩
              go_simp <;> (try go_bits) <;> with_reducible rfl
            · exact fun _ _ _ => rfl
            · rfl
            dsimp only [nA, cA]
            apply RGW.on (i := 6) rfl
            · (simp only [gA, gB, gC] <;> rfl)
            · intro γ u W hcur hd
              obtain ⟨⟨h5, -, -⟩, -⟩ := hd
              dsimp only at h5
              (try simp only [h5])
              refine ⟨rfl, ?_⟩
              go_simp <;> (try go_bits) <;> with_reducible rfl
            · exact fun _ _ _ => rfl
            · rfl
            dsimp only [nA, cA]
            first
            | apply RGW.on (i := 7) rfl
              · (simp only [gA, gB, gC] <;> rfl)
              · intro γ u W hcur hd
                obtain ⟨⟨h6, -, -⟩, -⟩ := hd
                dsimp only at h6
                (try simp only [h6])
                refine ⟨?_, ?_⟩
                · (simp [Region.wanted, yielded, undef, *]; done)
                go_simp <;> (try go_bits) <;> with_reducible rfl
              · exact fun _ _ _ => rfl
              · rfl
            | apply RGW.off (i := 7) rfl
              · (simp only [gA, gB, gC] <;> rfl)
              · intro γ u W hcur hd
                obtain ⟨⟨h6, -, -⟩, -⟩ := hd
                dsimp only at h6
                (try simp only [h6])
                simp [Region.wanted, yielded, undef, *]
              · rfl
            dsimp only [nA, cA]
            first
            | apply RGW.on (i := 8) rfl
              · (simp only [gA, gB, gC] <;> rfl)
              · intro γ u W hcur hd
                obtain ⟨⟨h6, -, -⟩, -⟩ := hd
                dsimp only at h6
                (try simp only [h6])
                refine ⟨?_, ?_⟩
                · (simp [Region.wanted, yielded, undef, *]; done)
                go_simp <;> (try go_bits) <;> with_reducible rfl
              · exact fun _ _ _ => rfl
              · rfl
            | apply RGW.off (i := 8) rfl
              · (simp only [gA, gB, gC] <;> rfl)
              · intro γ u W hcur hd
                obtain ⟨⟨h6, -, -⟩, -⟩ := hd
                dsimp only at h6
                (try simp only [h6])
                simp [Region.wanted, yielded, undef, *]
              · rfl
            dsimp only [nA, cA]
            first
            | apply RGW.on (i := 9) rfl
              · (simp only [gA, gB, gC] <;> rfl)
              · intro γ u W hcur hd
                obtain ⟨⟨h6, -, -⟩, -⟩ := hd
                dsimp only at h6
                (try simp only [h6])
                refine ⟨?_, ?_⟩
                · (simp [Region.wanted, yielded, undef, *]; done)
                go_simp <;> (try go_bits) <;> with_reducible rfl
              · exact fun _ _ _ => rfl
              · rfl
            | apply RGW.off (i := 9) rfl
              · (simp only [gA, gB, gC] <;> rfl)
              · intro γ u W hcur hd
                obtain ⟨⟨h6, -, -⟩, -⟩ := hd
                dsimp only at h6
                (try simp only [h6])
                simp [Region.wanted, yielded, undef, *]
              · rfl
            dsimp only [nA, cA]
            first
            | apply RGW.on (i := 10) rfl
              · (simp only [gA, gB, gC] <;> rfl)
              · intro γ u W hcur hd
                obtain ⟨⟨h6, -, -⟩, ⟨h8, -, -⟩, ⟨h9, -, -⟩, -⟩ := hd
                dsimp only at h6 h8 h9
                (try simp only [h6, h8, h9])
                refine ⟨?_, ?_⟩
                · (simp [Region.wanted, yielded, undef, *]; done)
                go_simp <;> (try go_bits) <;> with_reducible rfl
              · exact fun _ _ _ => rfl
              · rfl
            | apply RGW.off (i := 10) rfl
              · (simp only [gA, gB, gC] <;> rfl)
              · intro γ u W hcur hd
                obtain ⟨⟨h6, -, -⟩, ⟨h8, -, -⟩, ⟨h9, -, -⟩, -⟩ := hd
                dsimp only at h6 h8 h9
                (try simp only [h6, h8, h9])
                simp [Region.wanted, yielded, undef, *]
              · rfl
            dsimp only [nA, cA]
            first
            | apply RGW.on (i := 11) rfl
              · (simp only [gA, gB, gC] <;> rfl)
              · intro γ u W hcur hd
                obtain ⟨⟨h6, -, -⟩, ⟨h10, -, -⟩, -⟩ := hd
                dsimp only at h6 h10
                (try simp only [h6, h10])
                refine ⟨?_, ?_⟩
                · (simp [Region.wanted, yielded, undef, *]; done)
                go_simp <;> (try go_bits) <;> with_reducible rfl
              · exact fun _ _ _ => rfl
              · rfl
            | apply RGW.off (i := 11) rfl
              · (simp only [gA, gB, gC] <;> rfl)
              · intro γ u W hcur hd
                obtain ⟨⟨h6, -, -⟩, ⟨h10, -, -⟩, -⟩ := hd
                dsimp only at h6 h10
                (try simp only [h6, h10])
                simp [Region.wanted, yielded, undef, *]
              · rfl
            dsimp only [nA, cA]
            first
            | apply RGW.on (i := 12) rfl
              · (simp only [gA, gB, gC] <;> rfl)
              · intro γ u W hcur hd
                obtain ⟨⟨h6, -, -⟩, ⟨h7, -, -⟩, ⟨h11, -, -⟩, -⟩ := hd
                dsimp only at h6 h7 h11
                (try simp only [h6, h7, h11])
                refine ⟨?_, ?_⟩
                · (simp [Region.wanted, yielded, undef, *]; done)
                go_simp <;> (try go_bits) <;> with_reducible rfl
              · exact fun _ _ _ => rfl
              · rfl
            | apply RGW.off (i := 12) rfl
              · (simp only [gA, gB, gC] <;> rfl)
              · intro γ u W hcur hd
                obtain ⟨⟨h6, -, -⟩, ⟨h7, -, -⟩, ⟨h11, -, -⟩, -⟩ := hd
                dsimp only at h6 h7 h11
                (try simp only [h6, h7, h11])
                simp [Region.wanted, yielded, undef, *]
              · rfl
            dsimp only [nA, cA]
            first
            | apply RGW.on (i := 13) rfl
              · (simp only [gA, gB, gC] <;> rfl)
              · intro γ u W hcur hd
                obtain ⟨⟨h6, -, -⟩, -⟩ := hd
                dsimp only at h6
                (try simp only [h6])
                refine ⟨?_, ?_⟩
                · (simp [Region.wanted, yielded, undef, *]; done)
                go_simp <;> (try go_bits) <;> with_reducible rfl
              · exact fun _ _ _ => rfl
              · rfl
            | apply RGW.off (i := 13) rfl
              · (simp only [gA, gB, gC] <;> rfl)
              · intro γ u W hcur hd
                obtain ⟨⟨h6, -, -⟩, -⟩ := hd
                dsimp only at h6
                (try simp only [h6])
                simp [Region.wanted, yielded, undef, *]
              · rfl
            dsimp only [nA, cA]
            first
            | apply RGW.on (i := 14) rfl
              · (simp only [gA, gB, gC] <;> rfl)
              · intro γ u W hcur hd
                obtain ⟨⟨h6, -, -⟩, -⟩ := hd
                dsimp only at h6
                (try simp only [h6])
                refine ⟨?_, ?_⟩
                · (simp [Region.wanted, yielded, undef, *]; done)
                go_simp <;> (try go_bits) <;> with_reducible rfl
              · exact fun _ _ _ => rfl
              · rfl
            | apply RGW.off (i := 14) rfl
              · (simp only [gA, gB, gC] <;> rfl)
              · intro γ u W hcur hd
                obtain ⟨⟨h6, -, -⟩, -⟩ := hd
                dsimp only at h6
                (try simp only [h6])
                simp [Region.wanted, yielded, undef, *]
              · rfl
            dsimp only [nA, cA]
            first
            | apply RGW.on (i := 15) rfl
              · (simp only [gA, gB, gC] <;> rfl)
              · intro γ u W hcur hd
                obtain ⟨⟨h6, -, -⟩, ⟨h13, -, -⟩, ⟨h14, -, -⟩, -⟩ := hd
                dsimp only at h6 h13 h14
                (try simp only [h6, h13, h14])
                refine ⟨?_, ?_⟩
                · (simp [Region.wanted, yielded, undef, *]; done)
                go_simp <;> (try go_bits) <;> with_reducible rfl
              · exact fun _ _ _ => rfl
              · rfl
            | apply RGW.off (i := 15) rfl
              · (simp only [gA, gB, gC] <;> rfl)
              · intro γ u W hcur hd
                obtain ⟨⟨h6, -, -⟩, ⟨h13, -, -⟩, ⟨h14, -, -⟩, -⟩ := hd
                dsimp only at h6 h13 h14
                (try simp only [h6, h13, h14])
                simp [Region.wanted, yielded, undef, *]
              · rfl
            dsimp only [nA, cA]
            first
            | apply RGW.on (i := 16) rfl
              · (simp only [gA, gB, gC] <;> rfl)
              · intro γ u W hcur hd
                obtain ⟨⟨h6, -, -⟩, ⟨h15, -, -⟩, -⟩ := hd
                dsimp only at h6 h15
                (try simp only [h6, h15])
                refine ⟨?_, ?_⟩
                · (simp [Region.wanted, yielded, undef, *]; done)
                go_simp <;> (try go_bits) <;> with_reducible rfl
              · exact fun _ _ _ => rfl
              · rfl
            | apply RGW.off (i := 16) rfl
              · (simp only [gA, gB, gC] <;> rfl)
              · intro γ u W hcur hd
                obtain ⟨⟨h6, -, -⟩, ⟨h15, -, -⟩, -⟩ := hd
                dsimp only at h6 h15
                (try simp only [h6, h15])
                simp [Region.wanted, yielded, undef, *]
              · rfl
            dsimp only [nA, cA]
            first
            | apply RGW.on (i := 17) rfl
              · (simp only [gA, gB, gC] <;> rfl)
              · intro γ u W hcur hd
                obtain ⟨⟨h6, -, -⟩, ⟨h16, -, -⟩, -⟩ := hd
                dsimp only at h6 h16
                (try simp only [h6, h16])
                refine ⟨?_, ?_⟩
                · (simp [Region.wanted, yielded, undef, *]; done)
                go_simp <;> (try go_bits) <;> with_reducible rfl
              · exact fun _ _ _ => rfl
              · rfl
            | apply RGW.off (i := 17) rfl
              · (simp only [gA, gB, gC] <;> rfl)
              · intro γ u W hcur hd
                obtain ⟨⟨h6, -, -⟩, ⟨h16, -, -⟩, -⟩ := hd
                dsimp only at h6 h16
                (try simp only [h6, h16])
                simp [Region.wanted, yielded, undef, *]
              · rfl
            dsimp only [nA, cA]
            first
            | apply RGW.on (i := 18) rfl
              · (simp only [gA, gB, gC] <;> rfl)
              · intro γ u W hcur hd
                obtain ⟨⟨h6, -, -⟩, ⟨h12, -, -⟩, ⟨h17, -, -⟩, -⟩ := hd
                dsimp only at h6 h12 h17
                (try simp only [h6, h12, h17])
                refine ⟨?_, ?_⟩
                · (simp [Region.wanted, yielded, undef, *]; done)
                go_simp <;> (try go_bits) <;> with_reducible rfl
              · exact fun _ _ _ => rfl
              · rfl
            | apply RGW.off (i := 18) rfl
              · (simp only [gA, gB, gC] <;> rfl)
              · intro γ u W hcur hd
                obtain ⟨⟨h6, -, -⟩, ⟨h12, -, -⟩, ⟨h17, -, -⟩, -⟩ := hd
                dsimp only at h6 h12 h17
                (try simp only [h6, h12, h17])
                simp [Region.wanted, yielded, undef, *]
              · rfl
            dsimp only [nA, cA]
            first
            | apply RGW.on (i := 19) rfl
              · (simp only [gA, gB, gC] <;> rfl)
              · intro γ u W hcur hd
                obtain ⟨⟨h6, -, -⟩, ⟨h18, -, -⟩, -⟩ := hd
                dsimp only at h6 h18
                (try simp only [h6, h18])
                refine ⟨?_, ?_⟩
                · (simp [Region.wanted, yielded, undef, *]; done)
                go_simp <;> (try go_bits) <;> with_reducible rfl
              · exact fun _ _ _ => rfl
              · rfl
            | apply RGW.off (i := 19) rfl
              · (simp only [gA, gB, gC] <;> rfl)
              · intro γ u W hcur hd
                obtain ⟨⟨h6, -, -⟩, ⟨h18, -, -⟩, -⟩ := hd
                dsimp only at h6 h18
                (try simp only [h6, h18])
                simp [Region.wanted, yielded, undef, *]
              · rfl
            dsimp only [nA, cA]
            apply RGW.on (i := 20) rfl
            · (simp only [gA, gB, gC] <;> rfl)
            · intro γ u W hcur hd
              obtain ⟨⟨h6, -, -⟩, ⟨h19, -, -⟩, -⟩ := hd
              dsimp only at h6 h19
              (try simp only [h6, h19])
              refine ⟨rfl, ?_⟩
              go_simp <;> (try go_bits) <;> with_reducible rfl
            · exact fun _ _ _ => rfl
            · rfl
            dsimp only [nA, cA]
            refine RGW.fin (fun γ u w2 hw2 hd hdis => ?_)
            obtain ⟨⟨h0, -, -⟩, ⟨h1, -, -⟩, ⟨h2, -, -⟩, ⟨h3, -, -⟩, ⟨h4, -, -⟩, ⟨h5, -, -⟩, ⟨h6, -, -⟩, ⟨h7, -, -⟩, ⟨h8, -, -⟩, ⟨h9, -, -⟩, ⟨h10, -, -⟩, ⟨h11, -, -⟩, ⟨h12, -, -⟩, ⟨h13, -, -⟩, ⟨h14, -, -⟩, ⟨h15, -, -⟩, ⟨h16, -, -⟩, ⟨h17, -, -⟩, ⟨h18, -, -⟩, ⟨h19, -, -⟩, ⟨h20, -, -⟩, -⟩ := hd
            dsimp only at h0 h1 h2 h3 h4 h5 h6 h7 h8 h9 h10 h11 h12 h13 h14 h15 h16 h17 h18 h19 h20
            clear hdis
            simp only [h0, h1, h2, h3, h4, h5, h6, h7, h8, h9, h10, h11, h12, h13, h14, h15, h16, h17, h18, h19, h20]
            clear h20 h19 h18 h17 h16 h15 h14 h13 h12 h11 h10 h9 h8 h7 h6 h5 h4 h3 h2 h1 h0
            clear u
            simp only [List.map_nil]
            refine PlanW.done ?_
            have hb3 := bl_tt hw2
            replace hb0 := bl_tr hb0 hw2
            replace hj := Lib.hid (hj.out.below hw2)
            rw [← hF] at hj
            replace hF := Lib.hid hF
            replace hre := Lib.hid hre
            clear LA LP LL hb3 hw2
            go_wp2
            go_roundw
            case rel => exact ⟨k + 1, by omega, by go_num, hb0, hj.out⟩
            case measure => simp [intOf]; omega
        · rw [hre, decide_eq_false h1, Bool.false_and, if_neg (by simp)] at hF
          refine wp_any (w0 := wr) ⟨[], [], [some 27, some 28, some 29, some 30, some 31, some 32, some 33, some 34, some 35, some 36, some 37, some 38, some 39, some 40, some 41, some 42, some 43, some 44, some 45, some 46, some 47], [[], [], [], [1, 2], [1, 2, 3], [0, 1, 2, 3, 4], [0, 1, 2, 3, 4, 5], [0, 1, 2, 3, 4, 5, 6], [0, 1, 2, 3, 4, 5, 6], [0, 1, 2, 3, 4, 5, 6], [0, 1, 2, 3, 4, 5, 6, 8, 9], [0, 1, 2, 3, 4, 5, 6, 8, 9, 10], [0, 1, 2, 3, 4, 5, 6, 7, 8, 9, 10, 11], [0, 1, 2, 3, 4, 5, 6], [0, 1, 2, 3, 4, 5, 6], [0, 1, 2, 3, 4, 5, 6, 13, 14], [0, 1, 2, 3, 4, 5, 6, 13, 14, 15], [0, 1, 2, 3, 4, 5, 6, 13, 14, 15, 16], [0, 1, 2, 3, 4, 5, 6, 7, 8, 9, 10, 11, 12, 13, 14, 15, 16, 17], [0, 1, 2, 3, 4, 5, 6, 7, 8, 9, 10, 11, 12, 13, 14, 15, 16, 17, 18], [0, 1, 2, 3, 4, 5, 6, 7, 8, 9, 10, 11, 12, 13, 14, 15, 16, 17, 18, 19]], [[], [], [], [1, 2], [3], [0, 4], [5], [6], [6], [6], [6, 8, 9], [6, 10], [6, 7, 11], [6], [6], [6, 13, 14], [6, 15], [6, 16], [6, 12, 17], [6, 18], [6, 19]]⟩ (fun _ => []) (by kernel_rfl) (by kernel_rfl) (by (with_reducible (repeat' (first | assumption | apply jA | apply jB | apply jC | apply jD | apply jE | apply jF | apply hb3 | omega | (simp; done) | (simp; omega) | (dsimp only; omega))))) (fun u => by simp only [putD, Act.put, List.setIfInBounds_toArray, List.set_cons_zero, List.set_cons_succ, Nat.zero_add, Nat.reduceAdd]; rfl) ?_
          apply RGW.on (i := 0) rfl
          · (simp only [gA, gB, gC] <;> rfl)
          · intro γ u W hcur hd
            clear hd
            (try dsimp only)
            refine ⟨rfl, ?_⟩
            go_simp <;> (try go_bits) <;> with_reducible rfl
          · exact fun _ _ _ => rfl
          · rfl
          dsimp only [nA, cA]
          apply RGW.on (i := 1) rfl
          · (simp only [gA, gB, gC] <;> rfl)
          · intro γ u W hcur hd
            clear hd
            (try dsimp only)
            refine ⟨rfl, ?_⟩
            go_simp <;> (try go_bits) <;> with_reducible rfl
          · exact fun _ _ _ => rfl
          · rfl
          dsimp only [nA, cA]
          apply RGW.on (i := 2) rfl
          · (simp only [gA, gB, gC] <;> rfl)
          · intro γ u W hcur hd
            clear hd
            (try dsimp only)
            refine ⟨rfl, ?_⟩
            go_simp <;> (try go_bits) <;> with_reducible rfl
          · exact fun _ _ _ => rfl
          · rfl
          dsimp only [nA, cA]
          apply RGW.on (i := 3) rfl
          · (simp only [gA, gB, gC] <;> rfl)
          · intro γ u W hcur hd
            obtain ⟨⟨h1, -, -⟩, ⟨h2, -, -⟩, -⟩ := hd
            dsimp only at h1 h2
            (try simp only [h1, h2])
            refine ⟨rfl, ?_⟩
            go_simp <;> (try go_bits) <;> with_reducible rfl
          · exact fun _ _ _ => rfl
          · rfl
          dsimp only [nA, cA]
          apply RGW.on (i := 4) rfl
          · (simp only [gA, gB, gC] <;> rfl)
          · intro γ u W hcur hd
            obtain ⟨⟨h3, -, -⟩, -⟩ := hd
            dsimp only at h3
            (try simp only [h3])
            refine ⟨rfl, ?_⟩
            go_simp <;> (try go_bits) <;> with_reducible rfl
          · exact fun _ _ _ => rfl
          · rfl
          dsimp only [nA, cA]
          apply RGW.on (i := 5) rfl
          · (simp only [gA, gB, gC] <;> rfl)
          · intro γ u W hcur hd
            obtain ⟨⟨h0, -, -⟩, ⟨h4, -, -⟩, -⟩ := hd
            dsimp only at h0 h4
            (try simp only [h0, h4])
            refine ⟨rfl, ?_⟩
            go_simp <;> (try go_bits) <;> with_reducible rfl
          · exact fun _ _ _ => rfl
          · rfl
          dsimp only [nA, cA]
          apply RGW.on (i := 6) rfl
          · (simp only [gA, gB, gC] <;> rfl)
          · intro γ u W hcur hd
            obtain ⟨⟨h5, -, -⟩, -⟩ := hd
            dsimp only at h5
            (try simp only [h5])
            refine ⟨rfl, ?_⟩
            go_simp <;> (try go_bits) <;> with_reducible rfl
          · exact fun _ _ _ => rfl
          · rfl
          dsimp only [nA, cA]
          first
          | apply RGW.on (i := 7) rfl
            · (simp only [gA, gB, gC] <;> rfl)
            · intro γ u W hcur hd
              obtain ⟨⟨h6, -, -⟩, -⟩ := hd
              dsimp only at h6
              (try simp only [h6])
              refine ⟨?_, ?_⟩
              · (simp [Region.wanted, yielded, undef, *]; done)
              go_simp <;> (try go_bits) <;> with_reducible rfl
            · exact fun _ _ _ => rfl
            · rfl
          | apply RGW.off (i := 7) rfl
            · (simp only [gA, gB, gC] <;> rfl)
            · intro γ u W hcur hd
              obtain ⟨⟨h6, -, -⟩, -⟩ := hd
              dsimp only at h6
              (try simp only [h6])
              simp [Region.wanted, yielded, undef, *]
            · rfl
          dsimp only [nA, cA]
          first
          | apply RGW.on (i := 8) rfl
            · (simp only [gA, gB, gC] <;> rfl)
            · intro γ u W hcur hd
              obtain ⟨⟨h6, -, -⟩, -⟩ := hd
              dsimp only at h6
              (try simp only [h6])
              refine ⟨?_, ?_⟩
              · (simp [Region.wanted, yielded, undef, *]; done)
              go_simp <;> (try go_bits) <;> with_reducible rfl
            · exact fun _ _ _ => rfl
            · rfl
          | apply RGW.off (i := 8) rfl
            · (simp only [gA, gB, gC] <;> rfl)
            · intro γ u W hcur hd
              obtain ⟨⟨h6, -, -⟩, -⟩ := hd
              dsimp only at h6
              (try simp only [h6])
              simp [Region.wanted, yielded, undef, *]
            · rfl
          dsimp only [nA, cA]
          first
          | apply RGW.on (i := 9) rfl
            · (simp only [gA, gB, gC] <;> rfl)
            · intro γ u W hcur hd
              obtain ⟨⟨h6, -, -⟩, -⟩ := hd
              dsimp only at h6
              (try simp only [h6])
              refine ⟨?_, ?_⟩
              · (simp [Region.wanted, yielded, undef, *]; done)
              go_simp <;> (try go_bits) <;> with_reducible rfl
            · exact fun _ _ _ => rfl
            · rfl
          | apply RGW.off (i := 9) rfl
            · (simp only [gA, gB, gC] <;> rfl)
            · intro γ u W hcur hd
              obtain ⟨⟨h6, -, -⟩, -⟩ := hd
              dsimp only at h6
              (try simp only [h6])
              simp [Region.wanted, yielded, undef, *]
            · rfl
          dsimp only [nA, cA]
          first
          | apply RGW.on (i := 10) rfl
            · (simp only [gA, gB, gC] <;> rfl)
            · intro γ u W hcur hd
              obtain ⟨⟨h6, -, -⟩, ⟨h8, -, -⟩, ⟨h9, -, -⟩, -⟩ := hd
              dsimp only at h6 h8 h9
              (try simp only [h6, h8, h9])
              refine ⟨?_, ?_⟩
              · (simp [Region.wanted, yielded, undef, *]; done)
              go_simp <;> (try go_bits) <;> with_reducible rfl
            · exact fun _ _ _ => rfl
            · rfl
          | apply RGW.off (i := 10) rfl
            · (simp only [gA, gB, gC] <;> rfl)
            · intro γ u W hcur hd
              obtain ⟨⟨h6, -, -⟩, ⟨h8, -, -⟩, ⟨h9, -, -⟩, -⟩ := hd
              dsimp only at h6 h8 h9
              (try simp only [h6, h8, h9])
              simp [Region.wanted, yielded, undef, *]
            · rfl
          dsimp only [nA, cA]
          first
          | apply RGW.on (i := 11) rfl
            · (simp only [gA, gB, gC] <;> rfl)
            · intro γ u W hcur hd
              obtain ⟨⟨h6, -, -⟩, ⟨h10, -, -⟩, -⟩ := hd
              dsimp only at h6 h10
              (try simp only [h6, h10])
              refine ⟨?_, ?_⟩
              · (simp [Region.wanted, yielded, undef, *]; done)
              go_simp <;> (try go_bits) <;> with_reducible rfl
            · exact fun _ _ _ => rfl
            · rfl
          | apply RGW.off (i := 11) rfl
            · (simp only [gA, gB, gC] <;> rfl)
            · intro γ u W hcur hd
              obtain ⟨⟨h6, -, -⟩, ⟨h10, -, -⟩, -⟩ := hd
              dsimp only at h6 h10
              (try simp only [h6, h10])
              simp [Region.wanted, yielded, undef, *]
            · rfl
          dsimp only [nA, cA]
          first
          | apply RGW.on (i := 12) rfl
            · (simp only [gA, gB, gC] <;> rfl)
            · intro γ u W hcur hd
              obtain ⟨⟨h6, -, -⟩, ⟨h7, -, -⟩, ⟨h11, -, -⟩, -⟩ := hd
              dsimp only at h6 h7 h11
              (try simp only [h6, h7, h11])
              refine ⟨?_, ?_⟩
              · (simp [Region.wanted, yielded, undef, *]; done)
              go_simp <;> (try go_bits) <;> with_reducible rfl
            · exact fun _ _ _ => rfl
            · rfl
          | apply RGW.off (i := 12) rfl
            · (simp only [gA, gB, gC] <;> rfl)
            · intro γ u W hcur hd
              obtain ⟨⟨h6, -, -⟩, ⟨h7, -, -⟩, ⟨h11, -, -⟩, -⟩ := hd
              dsimp only at h6 h7 h11
              (try simp only [h6, h7, h11])
              simp [Region.wanted, yielded, undef, *]
            · rfl
          dsimp only [nA, cA]
          first
          | apply RGW.on (i := 13) rfl
            · (simp only [gA, gB, gC] <;> rfl)
            · intro γ u W hcur hd
              obtain ⟨⟨h6, -, -⟩, -⟩ := hd
              dsimp only at h6
              (try simp only [h6])
              refine ⟨?_, ?_⟩
              · (simp [Region.wanted, yielded, undef, *]; done)
              go_simp <;> (try go_bits) <;> with_reducible rfl
            · exact fun _ _ _ => rfl
            · rfl
          | apply RGW.off (i := 13) rfl
            · (simp only [gA, gB, gC] <;> rfl)
            · intro γ u W hcur hd
              obtain ⟨⟨h6, -, -⟩, -⟩ := hd
              dsimp only at h6
              (try simp only [h6])
              simp [Region.wanted, yielded, undef, *]
            · rfl
          dsimp only [nA, cA]
          first
          | apply RGW.on (i := 14) rfl
            · (simp only [gA, gB, gC] <;> rfl)
            · intro γ u W hcur hd
              obtain ⟨⟨h6, -, -⟩, -⟩ := hd
              dsimp only at h6
              (try simp only [h6])
              refine ⟨?_, ?_⟩
              · (simp [Region.wanted, yielded, undef, *]; done)
              go_simp <;> (try go_bits) <;> with_reducible rfl
            · exact fun _ _ _ => rfl
            · rfl
          | apply RGW.off (i := 14) rfl
            · (simp only [gA, gB, gC] <;> rfl)
            · intro γ u W hcur hd
              obtain ⟨⟨h6, -, -⟩, -⟩ := hd
              dsimp only at h6
              (try simp only [h6])
              simp [Region.wanted, yielded, undef, *]
            · rfl
          dsimp only [nA, cA]
          first
          | apply RGW.on (i := 15) rfl
            · (simp only [gA, gB, gC] <;> rfl)
            · intro γ u W hcur hd
              obtain ⟨⟨h6, -, -⟩, ⟨h13, -, -⟩, ⟨h14, -, -⟩, -⟩ := hd
              dsimp only at h6 h13 h14
              (try simp only [h6, h13, h14])
              refine ⟨?_, ?_⟩
              · (simp [Region.wanted, yielded, undef, *]; done)
              go_simp <;> (try go_bits) <;> with_reducible rfl
            · exact fun _ _ _ => rfl
            · rfl
          | apply RGW.off (i := 15) rfl
            · (simp only [gA, gB, gC] <;> rfl)
            · intro γ u W hcur hd
              obtain ⟨⟨h6, -, -⟩, ⟨h13, -, -⟩, ⟨h14, -, -⟩, -⟩ := hd
              dsimp only at h6 h13 h14
              (try simp only [h6, h13, h14])
              simp [Region.wanted, yielded, undef, *]
            · rfl
          dsimp only [nA, cA]
          first
          | apply RGW.on (i := 16) rfl
            · (simp only [gA, gB, gC] <;> rfl)
            · intro γ u W hcur hd
              obtain ⟨⟨h6, -, -⟩, ⟨h15, -, -⟩, -⟩ := hd
              dsimp only at h6 h15
              (try simp only [h6, h15])
              refine ⟨?_, ?_⟩
              · (simp [Region.wanted, yielded, undef, *]; done)
              go_simp <;> (try go_bits) <;> with_reducible rfl
            · exact fun _ _ _ => rfl
            · rfl
          | apply RGW.off (i := 16) rfl
            · (simp only [gA, gB, gC] <;> rfl)
            · intro γ u W hcur hd
              obtain ⟨⟨h6, -, -⟩, ⟨h15, -, -⟩, -⟩ := hd
              dsimp only at h6 h15
              (try simp only [h6, h15])
              simp [Region.wanted, yielded, undef, *]
            · rfl
          dsimp only [nA, cA]
          first
          | apply RGW.on (i := 17) rfl
            · (simp only [gA, gB, gC] <;> rfl)
            · intro γ u W hcur hd
              obtain ⟨⟨h6, -, -⟩, ⟨h16, -, -⟩, -⟩ := hd
              dsimp only at h6 h16
              (try simp only [h6, h16])
              refine ⟨?_, ?_⟩
              · (simp [Region.wanted, yielded, undef, *]; done)
              go_simp <;> (try go_bits) <;> with_reducible rfl
            · exact fun _ _ _ => rfl
            · rfl
          | apply RGW.off (i := 17) rfl
            · (simp only [gA, gB, gC] <;> rfl)
            · intro γ u W hcur hd
              obtain ⟨⟨h6, -, -⟩, ⟨h16, -, -⟩, -⟩ := hd
              dsimp only at h6 h16
              (try simp only [h6, h16])
              simp [Region.wanted, yielded, undef, *]
            · rfl
          dsimp only [nA, cA]
          first
          | apply RGW.on (i := 18) rfl
            · (simp only [gA, gB, gC] <;> rfl)
            · intro γ u W hcur hd
              obtain ⟨⟨h6, -, -⟩, ⟨h12, -, -⟩, ⟨h17, -, -⟩, -⟩ := hd
              dsimp only at h6 h12 h17
              (try simp only [h6, h12, h17])
              refine ⟨?_, ?_⟩
              · (simp [Region.wanted, yielded, undef, *]; done)
              go_simp <;> (try go_bits) <;> with_reducible rfl
            · exact fun _ _ _ => rfl
            · rfl
          | apply RGW.off (i := 18) rfl
            · (simp only [gA, gB, gC] <;> rfl)
            · intro γ u W hcur hd
              obtain ⟨⟨h6, -, -⟩, ⟨h12, -, -⟩, ⟨h17, -, -⟩, -⟩ := hd
              dsimp only at h6 h12 h17
              (try simp only [h6, h12, h17])
              simp [Region.wanted, yielded, undef, *]
            · rfl
          dsimp only [nA, cA]
          first
          | apply RGW.on (i := 19) rfl
            · (simp only [gA, gB, gC] <;> rfl)
            · intro γ u W hcur hd
              obtain ⟨⟨h6, -, -⟩, ⟨h18, -, -⟩, -⟩ := hd
              dsimp only at h6 h18
              (try simp only [h6, h18])
              refine ⟨?_, ?_⟩
              · (simp [Region.wanted, yielded, undef, *]; done)
              go_simp <;> (try go_bits) <;> with_reducible rfl
            · exact fun _ _ _ => rfl
            · rfl
          | apply RGW.off (i := 19) rfl
            · (simp only [gA, gB, gC] <;> rfl)
            · intro γ u W hcur hd
              obtain ⟨⟨h6, -, -⟩, ⟨h18, -, -⟩, -⟩ := hd
              dsimp only at h6 h18
              (try simp only [h6, h18])
              simp [Region.wanted, yielded, undef, *]
            · rfl
          dsimp only [nA, cA]
          apply RGW.on (i := 20) rfl
          · (simp only [gA, gB, gC] <;> rfl)
          · intro γ u W hcur hd
            obtain ⟨⟨h6, -, -⟩, ⟨h19, -, -⟩, -⟩ := hd
            dsimp only at h6 h19
            (try simp only [h6, h19])
            refine ⟨rfl, ?_⟩
            go_simp <;> (try go_bits) <;> with_reducible rfl
          · exact fun _ _ _ => rfl
          · rfl
          dsimp only [nA, cA]
          refine RGW.fin (fun γ u w2 hw2 hd hdis => ?_)
          obtain ⟨⟨h0, -, -⟩, ⟨h1, -, -⟩, ⟨h2, -, -⟩, ⟨h3, -, -⟩, ⟨h4, -, -⟩, ⟨h5, -, -⟩, ⟨h6, -, -⟩, ⟨h7, -, -⟩, ⟨h8, -, -⟩, ⟨h9, -, -⟩, ⟨h10, -, -⟩, ⟨h11, -, -⟩, ⟨h12, -, -⟩, ⟨h13, -, -⟩, ⟨h14, -, -⟩, ⟨h15, -, -⟩, ⟨h16, -, -⟩, ⟨h17, -, -⟩, ⟨h18, -, -⟩, ⟨h19, -, -⟩, ⟨h20, -, -⟩, -⟩ := hd
          dsimp only at h0 h1 h2 h3 h4 h5 h6 h7 h8 h9 h10 h11 h12 h13 h14 h15 h16 h17 h18 h19 h20
          clear hdis
          simp only [h0, h1, h2, h3, h4, h5, h6, h7, h8, h9, h10, h11, h12, h13, h14, h15, h16, h17, h18, h19, h20]
          clear h20 h19 h18 h17 h16 h15 h14 h13 h12 h11 h10 h9 h8 h7 h6 h5 h4 h3 h2 h1 h0
          clear u
          simp only [List.map_nil]
          refine PlanW.done ?_
          have hb3 := bl_tt hw2
          replace hb0 := bl_tr hb0 hw2
          replace hj := Lib.hid (hj.out.below hw2)
          rw [← hF] at hj
          replace hF := Lib.hid hF
          replace hre := Lib.hid hre
          clear LA LP LL hb3 hw2
          go_wp2
          go_roundw
          case rel => exact ⟨k + 1, by omega, by go_num, hb0, hj.out⟩
          case measure => simp [intOf]; omega
      · have ek : k = l.length := by omega
        subst ek
        have hPk := hPs.out t
        have hbd := Lib.hid (Hbd.out t l.length (Nat.le_refl _))
        have hln := Hln.out t l.length (Nat.le_refl _)
        have hpk := Lib.hid (Hpk.out t)
        have hRn := Lib.hid (hR.out t)
        have hP00 := hP0.out t
        rw [hO.out] at hRn
        generalize P t = P1 at *
        generalize F t l.length = J at *
        replace hPk := Lib.hid hPk
        clear hPs Hbd Hln Hpk hR hP0 hF0 hFs
        go_wp2
        go_loopw [14, 15] (fun x i wr => ∃ k : Nat, k ≤ J.length ∧ i = .int .i64 k ∧ x = .int .i64 (P1 k) ∧ Below w.heap.size w wr ∧ JR w.heap.size u10 u11 O J wr) (fun _ i _ => J.length - (intOf i).toNat)
        case atStart => exact ⟨0, Nat.zero_le _, rfl, by rw [hP00], hb0, hj.out⟩
        case round =>
          clear hj hb0
          obtain ⟨k, hk, rfl, rfl, hb0, hj⟩ := hrel
          replace hj := Lib.hid hj
          by_cases hkn : k < J.length
          · obtain ⟨x, hx⟩ : ∃ x, J[k]? = some x := ⟨_, List.getElem?_eq_getElem hkn⟩
            have hxb := hbd.out x (List.mem_of_getElem? hx)
            have hs := hPk.out k x hx
            obtain ⟨g, cJ, hv, hgD, hgl, hgf, hgc⟩ := hj.out.at hx
            have LX0 := hgc 0 _ rfl
            have LX1 := hgc 1 _ rfl
            have LX2 := hgc 2 _ rfl
            have LX3 := hgc 3 _ rfl
            simp only [Nat.add_zero] at LX0
            have hkn2 : (k : Int) < J.length := by omega
            subst hv
            replace hRn := Lib.hid hRn.out
            by_cases hl : 0 < x.left
            rotate_left
            · rw [decide_eq_false hl, Bool.false_and, if_neg (by simp)] at hs
              go_upto_region 15 with fail
              refine wp_any (w0 := wr) ⟨[], [], [some 65, some 66, some 67, some 68, some 69, some 70, some 71, some 72, some 73, some 74, some 75, some 76, some 77, some 78, some 79, some 80, some 81, some 82, some 83, some 84, some 85, some 86, some 87], [[], [], [0, 1], [0, 1, 2], [0, 1, 2, 3], [0, 1, 2, 3, 4], [0, 1, 2, 3, 4, 5], [0, 1, 2, 3, 4, 5, 6], [0, 1, 2, 3, 4, 5, 6, 7], [0, 1, 2, 3, 4, 5, 6, 7, 8], [0, 1, 2, 3, 4, 5, 6, 7, 8, 9], [0, 1, 2, 3, 4, 5, 6, 7, 8, 9], [0, 1, 2, 3, 4, 5, 6, 7, 8, 9], [0, 1, 2, 3, 4, 5, 6, 7, 8, 9, 11, 12], [0, 1, 2, 3, 4, 5, 6, 7, 8, 9, 11, 12, 13], [0, 1, 2, 3, 4, 5, 6, 7, 8, 9], [0, 1, 2, 3, 4, 5, 6, 7, 8, 9], [0, 1, 2, 3, 4, 5, 6, 7, 8, 9, 15, 16], [0, 1, 2, 3, 4, 5, 6, 7, 8, 9, 15, 16, 17], [0, 1, 2, 3, 4, 5, 6, 7, 8, 9], [0, 1, 2, 3, 4, 5, 6, 7, 8, 9, 10, 11, 12, 13, 14, 15, 16, 17, 18, 19], [0, 1, 2, 3, 4, 5, 6, 7, 8, 9, 10, 11, 12, 13, 14, 15, 16, 17, 18, 19, 20], [0, 1, 2, 3, 4, 5, 6, 7, 8, 9, 10, 11, 12, 13, 14, 15, 16, 17, 18, 19, 20, 21]], [[], [], [0, 1], [2], [3], [4], [5], [6], [6, 7], [6, 8], [9], [9], [9], [9, 11, 12], [9, 13], [9], [9], [9, 15, 16], [9, 17], [9], [9, 10, 14, 18, 19], [6, 9, 20], [6, 21]]⟩ (fun _ => []) (by kernel_rfl) (by kernel_rfl) (by (with_reducible (repeat' (first | assumption | apply jA | apply jB | apply jC | apply jD | apply jE | apply jF | apply hb3 | omega | (simp; done) | (simp; omega) | (dsimp only; omega))))) (fun u => by simp only [putD, Act.put, List.setIfInBounds_toArray, List.set_cons_zero, List.set_cons_succ, Nat.zero_add, Nat.reduceAdd]; rfl) ?_
              apply RGW.on (i := 0) rfl
              · (simp only [gA, gB, gC] <;> rfl)
              · intro γ u W hcur hd
                clear hd
                (try dsimp only)
                refine ⟨rfl, ?_⟩
                go_simp <;> (try go_bits) <;> with_reducible rfl
              · exact fun _ _ _ => rfl
              · rfl
              dsimp only [nA, cA]
              apply RGW.on (i := 1) rfl
              · (simp only [gA, gB, gC] <;> rfl)
              · intro γ u W hcur hd
                clear hd
                (try dsimp only)
                refine ⟨rfl, ?_⟩
                go_simp <;> (try go_bits) <;> with_reducible rfl
              · exact fun _ _ _ => rfl
              · rfl
              dsimp only [nA, cA]
              apply RGW.on (i := 2) rfl
              · (simp only [gA, gB, gC] <;> rfl)
              · intro γ u W hcur hd
                obtain ⟨⟨h0, -, -⟩, ⟨h1, -, -⟩, -⟩ := hd
                dsimp only at h0 h1
                (try simp only [h0, h1])
                refine ⟨rfl, ?_⟩
                go_simp <;> (try go_bits) <;> with_reducible rfl
              · exact fun _ _ _ => rfl
              · rfl
              dsimp only [nA, cA]
              apply RGW.on (i := 3) rfl
              · (simp only [gA, gB, gC] <;> rfl)
              · intro γ u W hcur hd
                obtain ⟨⟨h2, -, -⟩, -⟩ := hd
                dsimp only at h2
                (try simp only [h2])
                refine ⟨rfl, ?_⟩
                go_simp <;> (try go_bits) <;> with_reducible rfl
              · exact fun _ _ _ => rfl
              · rfl
              dsimp only [nA, cA]
              apply RGW.on (i := 4) rfl
              · (simp only [gA, gB, gC] <;> rfl)
              · intro γ u W hcur hd
                obtain ⟨⟨h3, -, -⟩, -⟩ := hd
                dsimp only at h3
                (try simp only [h3])
                refine ⟨rfl, ?_⟩
                go_simp <;> (try go_bits) <;> with_reducible rfl
              · exact fun _ _ _ => rfl
              · rfl
              dsimp only [nA, cA]
              apply RGW.on (i := 5) rfl
              · (simp only [gA, gB, gC] <;> rfl)
              · intro γ u W hcur hd
                obtain ⟨⟨h4, -, -⟩, -⟩ := hd
                dsimp only at h4
                (try simp only [h4])
                refine ⟨rfl, ?_⟩
                go_simp <;> (try go_bits) <;> with_reducible rfl
              · exact fun _ _ _ => rfl
              · rfl
              dsimp only [nA, cA]
              apply RGW.on (i := 6) rfl
              · (simp only [gA, gB, gC] <;> rfl)
              · intro γ u W hcur hd
                obtain ⟨⟨h5, -, -⟩, -⟩ := hd
                dsimp only at h5
                (try simp only [h5])
                refine ⟨rfl, ?_⟩
                go_simp <;> (try go_bits) <;> with_reducible rfl
              · exact fun _ _ _ => rfl
              · rfl
              dsimp only [nA, cA]
              first
              | apply RGW.on (i := 7) rfl
                · (simp only [gA, gB, gC] <;> rfl)
                · intro γ u W hcur hd
                  obtain ⟨⟨h6, -, -⟩, -⟩ := hd
                  dsimp only at h6
                  (try simp only [h6])
                  refine ⟨?_, ?_⟩
                  · (simp [Region.wanted, yielded, undef, *]; done)
                  go_simp <;> (try go_bits) <;> with_reducible rfl
                · exact fun _ _ _ => rfl
                · rfl
              | apply RGW.off (i := 7) rfl
                · (simp only [gA, gB, gC] <;> rfl)
                · intro γ u W hcur hd
                  obtain ⟨⟨h6, -, -⟩, -⟩ := hd
                  dsimp only at h6
                  (try simp only [h6])
                  simp [Region.wanted, yielded, undef, *]
                · rfl
              dsimp only [nA, cA]
              first
              | apply RGW.on (i := 8) rfl
                · (simp only [gA, gB, gC] <;> rfl)
                · intro γ u W hcur hd
                  obtain ⟨⟨h6, -, -⟩, ⟨h7, -, -⟩, -⟩ := hd
                  dsimp only at h6 h7
                  (try simp only [h6, h7])
                  refine ⟨?_, ?_⟩
                  · (simp [Region.wanted, yielded, undef, *]; done)
                  go_simp <;> (try go_bits) <;> with_reducible rfl
                · exact fun _ _ _ => rfl
                · rfl
              | apply RGW.off (i := 8) rfl
                · (simp only [gA, gB, gC] <;> rfl)
                · intro γ u W hcur hd
                  obtain ⟨⟨h6, -, -⟩, ⟨h7, -, -⟩, -⟩ := hd
                  dsimp only at h6 h7
                  (try simp only [h6, h7])
                  simp [Region.wanted, yielded, undef, *]
                · rfl
              dsimp only [nA, cA]
              first
              | apply RGW.on (i := 9) rfl
                · (simp only [gA, gB, gC] <;> rfl)
                · intro γ u W hcur hd
                  obtain ⟨⟨h6, -, -⟩, ⟨h8, -, -⟩, -⟩ := hd
                  dsimp only at h6 h8
                  (try simp only [h6, h8])
                  refine ⟨?_, ?_⟩
                  · (simp [Region.wanted, yielded, undef, *]; done)
                  go_simp <;> (try go_bits) <;> with_reducible rfl
                · exact fun _ _ _ => rfl
                · rfl
              | apply RGW.off (i := 9) rfl
                · (simp only [gA, gB, gC] <;> rfl)
                · intro γ u W hcur hd
                  obtain ⟨⟨h6, -, -⟩, ⟨h8, -, -⟩, -⟩ := hd
                  dsimp only at h6 h8
                  (try simp only [h6, h8])
                  simp [Region.wanted, yielded, undef, *]
                · rfl
              dsimp only [nA, cA]
              first
              | apply RGW.on (i := 10) rfl
                · (simp only [gA, gB, gC] <;> rfl)
                · intro γ u W hcur hd
                  obtain ⟨⟨h9, -, -⟩, -⟩ := hd
                  dsimp only at h9
                  (try simp only [h9])
                  refine ⟨?_, ?_⟩
                  · (simp [Region.wanted, yielded, undef, *]; done)
                  go_simp <;> (try go_bits) <;> with_reducible rfl
                · exact fun _ _ _ => rfl
                · rfl
              | apply RGW.off (i := 10) rfl
                · (simp only [gA, gB, gC] <;> rfl)
                · intro γ u W hcur hd
                  obtain ⟨⟨h9, -, -⟩, -⟩ := hd
                  dsimp only at h9
                  (try simp only [h9])
                  simp [Region.wanted, yielded, undef, *]
                · rfl
              dsimp only [nA, cA]
              first
              | apply RGW.on (i := 11) rfl
                · (simp only [gA, gB, gC] <;> rfl)
                · intro γ u W hcur hd
                  obtain ⟨⟨h9, -, -⟩, -⟩ := hd
                  dsimp only at h9
                  (try simp only [h9])
                  refine ⟨?_, ?_⟩
                  · (simp [Region.wanted, yielded, undef, *]; done)
                  go_simp <;> (try go_bits) <;> with_reducible rfl
                · exact fun _ _ _ => rfl
                · rfl
              | apply RGW.off (i := 11) rfl
                · (simp only [gA, gB, gC] <;> rfl)
                · intro γ u W hcur hd
                  obtain ⟨⟨h9, -, -⟩, -⟩ := hd
                  dsimp only at h9
                  (try simp only [h9])
                  simp [Region.wanted, yielded, undef, *]
                · rfl
              dsimp only [nA, cA]
              first
              | apply RGW.on (i := 12) rfl
                · (simp only [gA, gB, gC] <;> rfl)
                · intro γ u W hcur hd
                  obtain ⟨⟨h9, -, -⟩, -⟩ := hd
                  dsimp only at h9
                  (try simp only [h9])
                  refine ⟨?_, ?_⟩
                  · (simp [Region.wanted, yielded, undef, *]; done)
                  go_simp <;> (try go_bits) <;> with_reducible rfl
                · exact fun _ _ _ => rfl
                · rfl
              | apply RGW.off (i := 12) rfl
                · (simp only [gA, gB, gC] <;> rfl)
                · intro γ u W hcur hd
                  obtain ⟨⟨h9, -, -⟩, -⟩ := hd
                  dsimp only at h9
                  (try simp only [h9])
                  simp [Region.wanted, yielded, undef, *]
                · rfl
              dsimp only [nA, cA]
              first
              | apply RGW.on (i := 13) rfl
                · (simp only [gA, gB, gC] <;> rfl)
                · intro γ u W hcur hd
                  obtain ⟨⟨h9, -, -⟩, ⟨h11, -, -⟩, ⟨h12, -, -⟩, -⟩ := hd
                  dsimp only at h9 h11 h12
                  (try simp only [h9, h11, h12])
                  refine ⟨?_, ?_⟩
                  · (simp [Region.wanted, yielded, undef, *]; done)
                  go_simp <;> (try go_bits) <;> with_reducible rfl
                · exact fun _ _ _ => rfl
                · rfl
              | apply RGW.off (i := 13) rfl
                · (simp only [gA, gB, gC] <;> rfl)
                · intro γ u W hcur hd
                  obtain ⟨⟨h9, -, -⟩, ⟨h11, -, -⟩, ⟨h12, -, -⟩, -⟩ := hd
                  dsimp only at h9 h11 h12
                  (try simp only [h9, h11, h12])
                  simp [Region.wanted, yielded, undef, *]
                · rfl
              dsimp only [nA, cA]
              first
              | apply RGW.on (i := 14) rfl
                · (simp only [gA, gB, gC] <;> rfl)
                · intro γ u W hcur hd
                  obtain ⟨⟨h9, -, -⟩, ⟨h13, -, -⟩, -⟩ := hd
                  dsimp only at h9 h13
                  (try simp only [h9, h13])
                  refine ⟨?_, ?_⟩
                  · (simp [Region.wanted, yielded, undef, *]; done)
                  go_simp <;> (try go_bits) <;> with_reducible rfl
                · exact fun _ _ _ => rfl
                · rfl
              | apply RGW.off (i := 14) rfl
                · (simp only [gA, gB, gC] <;> rfl)
                · intro γ u W hcur hd
                  obtain ⟨⟨h9, -, -⟩, ⟨h13, -, -⟩, -⟩ := hd
                  dsimp only at h9 h13
                  (try simp only [h9, h13])
                  simp [Region.wanted, yielded, undef, *]
                · rfl
              dsimp only [nA, cA]
              first
              | apply RGW.on (i := 15) rfl
                · (simp only [gA, gB, gC] <;> rfl)
                · intro γ u W hcur hd
                  obtain ⟨⟨h9, -, -⟩, -⟩ := hd
                  dsimp only at h9
                  (try simp only [h9])
                  refine ⟨?_, ?_⟩
                  · (simp [Region.wanted, yielded, undef, *]; done)
                  go_simp <;> (try go_bits) <;> with_reducible rfl
                · exact fun _ _ _ => rfl
                · rfl
              | apply RGW.off (i := 15) rfl
                · (simp only [gA, gB, gC] <;> rfl)
                · intro γ u W hcur hd
                  obtain ⟨⟨h9, -, -⟩, -⟩ := hd
                  dsimp only at h9
                  (try simp only [h9])
                  simp [Region.wanted, yielded, undef, *]
                · rfl
              dsimp only [nA, cA]
              first
              | apply RGW.on (i := 16) rfl
                · (simp only [gA, gB, gC] <;> rfl)
                · intro γ u W hcur hd
                  obtain ⟨⟨h9, -, -⟩, -⟩ := hd
                  dsimp only at h9
                  (try simp only [h9])
                  refine ⟨?_, ?_⟩
                  · (simp [Region.wanted, yielded, undef, *]; done)
                  go_simp <;> (try go_bits) <;> with_reducible rfl
                · exact fun _ _ _ => rfl
                · rfl
              | apply RGW.off (i := 16) rfl
                · (simp only [gA, gB, gC] <;> rfl)
                · intro γ u W hcur hd
                  obtain ⟨⟨h9, -, -⟩, -⟩ := hd
                  dsimp only at h9
                  (try simp only [h9])
                  simp [Region.wanted, yielded, undef, *]
                · rfl
              dsimp only [nA, cA]
              first
              | apply RGW.on (i := 17) rfl
                · (simp only [gA, gB, gC] <;> rfl)
                · intro γ u W hcur hd
                  obtain ⟨⟨h9, -, -⟩, ⟨h15, -, -⟩, ⟨h16, -, -⟩, -⟩ := hd
                  dsimp only at h9 h15 h16
                  (try simp only [h9, h15, h16])
                  refine ⟨?_, ?_⟩
                  · (simp [Region.wanted, yielded, undef, *]; done)
                  go_simp <;> (try go_bits) <;> with_reducible rfl
                · exact fun _ _ _ => rfl
                · rfl
              | apply RGW.off (i := 17) rfl
                · (simp only [gA, gB, gC] <;> rfl)
                · intro γ u W hcur hd
                  obtain ⟨⟨h9, -, -⟩, ⟨h15, -, -⟩, ⟨h16, -, -⟩, -⟩ := hd
                  dsimp only at h9 h15 h16
                  (try simp only [h9, h15, h16])
                  simp [Region.wanted, yielded, undef, *]
                · rfl
              dsimp only [nA, cA]
              first
              | apply RGW.on (i := 18) rfl
                · (simp only [gA, gB, gC] <;> rfl)
                · intro γ u W hcur hd
                  obtain ⟨⟨h9, -, -⟩, ⟨h17, -, -⟩, -⟩ := hd
                  dsimp only at h9 h17
                  (try simp only [h9, h17])
                  refine ⟨?_, ?_⟩
                  · (simp [Region.wanted, yielded, undef, *]; done)
                  go_simp <;> (try go_bits) <;> with_reducible rfl
                · exact fun _ _ _ => rfl
                · rfl
              | apply RGW.off (i := 18) rfl
                · (simp only [gA, gB, gC] <;> rfl)
                · intro γ u W hcur hd
                  obtain ⟨⟨h9, -, -⟩, ⟨h17, -, -⟩, -⟩ := hd
                  dsimp only at h9 h17
                  (try simp only [h9, h17])
                  simp [Region.wanted, yielded, undef, *]
                · rfl
              dsimp only [nA, cA]
              first
              | apply RGW.on (i := 19) rfl
                · (simp only [gA, gB, gC] <;> rfl)
                · intro γ u W hcur hd
                  obtain ⟨⟨h9, -, -⟩, -⟩ := hd
                  dsimp only at h9
                  (try simp only [h9])
                  refine ⟨?_, ?_⟩
                  · (simp [Region.wanted, yielded, undef, *]; done)
                  go_simp <;> (try go_bits) <;> with_reducible rfl
                · exact fun _ _ _ => rfl
                · rfl
              | apply RGW.off (i := 19) rfl
                · (simp only [gA, gB, gC] <;> rfl)
                · intro γ u W hcur hd
                  obtain ⟨⟨h9, -, -⟩, -⟩ := hd
                  dsimp only at h9
                  (try simp only [h9])
                  simp [Region.wanted, yielded, undef, *]
                · rfl
              dsimp only [nA, cA]
              first
              | apply RGW.call (i := 20) rfl
                · (simp only [gA, gB, gC] <;> rfl)
                · intro γ u W hcur hd
                  obtain ⟨⟨h9, -, -⟩, ⟨h10, -, -⟩, ⟨h14, -, -⟩, ⟨h18, -, -⟩, ⟨h19, -, -⟩, -⟩ := hd
                  dsimp only at h9 h10 h14 h18 h19
                  (try simp only [h9, h10, h14, h18, h19])
                  refine ⟨?_, fun K hK => ?_⟩
                  · (simp [Region.wanted, yielded, undef, *]; done)
                  go_simp
                  fail
                  (try dsimp only)
                  exact hK.out _ _ rfl (by (with_reducible (repeat' (first | assumption | apply jA | apply jB | apply jC | apply jD | apply jE | apply jF | apply hb3 | omega | (simp; done) | (simp; omega) | (dsimp only; omega)))))
                · exact fun _ _ _ => rfl
                · rfl
              | apply RGW.off (i := 20) rfl
                · (simp only [gA, gB, gC] <;> rfl)
                · intro γ u W hcur hd
                  obtain ⟨⟨h9, -, -⟩, ⟨h10, -, -⟩, ⟨h14, -, -⟩, ⟨h18, -, -⟩, ⟨h19, -, -⟩, -⟩ := hd
                  dsimp only at h9 h10 h14 h18 h19
                  (try simp only [h9, h10, h14, h18, h19])
                  simp [Region.wanted, yielded, undef, *]
                · rfl
              dsimp only [nA, cA]
              first
              | apply RGW.on (i := 21) rfl
                · (simp only [gA, gB, gC] <;> rfl)
                · intro γ u W hcur hd
                  obtain ⟨⟨h6, -, -⟩, ⟨h9, -, -⟩, ⟨h20, -, -⟩, -⟩ := hd
                  dsimp only at h6 h9 h20
                  (try simp only [h6, h9, h20])
                  refine ⟨?_, ?_⟩
                  · (simp [Region.wanted, yielded, undef, *]; done)
                  go_simp <;> (try go_bits) <;> with_reducible rfl
                · exact fun _ _ _ => rfl
                · rfl
              | apply RGW.off (i := 21) rfl
                · (simp only [gA, gB, gC] <;> rfl)
                · intro γ u W hcur hd
                  obtain ⟨⟨h6, -, -⟩, ⟨h9, -, -⟩, ⟨h20, -, -⟩, -⟩ := hd
                  dsimp only at h6 h9 h20
                  (try simp only [h6, h9, h20])
                  simp [Region.wanted, yielded, undef, *]
                · rfl
              dsimp only [nA, cA]
              apply RGW.on (i := 22) rfl
              · (simp only [gA, gB, gC] <;> rfl)
              · intro γ u W hcur hd
                obtain ⟨⟨h6, -, -⟩, ⟨h21, -, -⟩, -⟩ := hd
                dsimp only at h6 h21
                (try simp only [h6, h21])
                refine ⟨rfl, ?_⟩
                go_simp <;> (try go_bits) <;> with_reducible rfl
              · exact fun _ _ _ => rfl
              · rfl
              dsimp only [nA, cA]
              refine RGW.fin (fun γ u w2 hw2 hd hdis => ?_)
              obtain ⟨⟨h0, -, -⟩, ⟨h1, -, -⟩, ⟨h2, -, -⟩, ⟨h3, -, -⟩, ⟨h4, -, -⟩, ⟨h5, -, -⟩, ⟨h6, -, -⟩, ⟨h7, -, -⟩, ⟨h8, -, -⟩, ⟨h9, -, -⟩, ⟨h10, -, -⟩, ⟨h11, -, -⟩, ⟨h12, -, -⟩, ⟨h13, -, -⟩, ⟨h14, -, -⟩, ⟨h15, -, -⟩, ⟨h16, -, -⟩, ⟨h17, -, -⟩, ⟨h18, -, -⟩, ⟨h19, -, -⟩, ⟨h20, -, -⟩, ⟨h21, -, -⟩, ⟨h22, -, -⟩, -⟩ := hd
              dsimp only at h0 h1 h2 h3 h4 h5 h6 h7 h8 h9 h10 h11 h12 h13 h14 h15 h16 h17 h18 h19 h20 h21 h22
              clear hdis
              simp only [h0, h1, h2, h3, h4, h5, h6, h7, h8, h9, h10, h11, h12, h13, h14, h15, h16, h17, h18, h19, h20, h21, h22]
              clear h22 h21 h20 h19 h18 h17 h16 h15 h14 h13 h12 h11 h10 h9 h8 h7 h6 h5 h4 h3 h2 h1 h0
              clear u
              simp only [List.map_nil]
              refine PlanW.done ?_
              have hb3 := bl_tt hw2
              replace hb0 := bl_tr hb0 hw2
              replace hj := Lib.hid (hj.out.below hw2)
              replace hs := Lib.hid hs
              clear hb3 hw2 LX0 LX1 LX2 LX3
              go_wp2
              go_roundw
              case rel => exact ⟨k + 1, by omega, by go_num, by rw [hs.out], hb0, hj.out⟩
              case measure => simp [intOf]; omega
            · rw [decide_eq_true hl, Bool.true_and] at hs
              rcases hpk.out k hk with ⟨hp, -⟩ | ⟨m, y, hm, hp, hy, hyl, -⟩
              · have hbt : jBeats l e J (P1 k) x = true := by rw [hp]; simp [jBeats]
                rw [if_pos hbt] at hs
                clear hbt
                rw [hp]
                go_upto_region 15 with fail
                refine wp_any (w0 := wr) ⟨[], [], [some 65, some 66, some 67, some 68, some 69, some 70, some 71, some 72, some 73, some 74, some 75, some 76, some 77, some 78, some 79, some 80, some 81, some 82, some 83, some 84, some 85, some 86, some 87], [[], [], [0, 1], [0, 1, 2], [0, 1, 2, 3], [0, 1, 2, 3, 4], [0, 1, 2, 3, 4, 5], [0, 1, 2, 3, 4, 5, 6], [0, 1, 2, 3, 4, 5, 6, 7], [0, 1, 2, 3, 4, 5, 6, 7, 8], [0, 1, 2, 3, 4, 5, 6, 7, 8, 9], [0, 1, 2, 3, 4, 5, 6, 7, 8, 9], [0, 1, 2, 3, 4, 5, 6, 7, 8, 9], [0, 1, 2, 3, 4, 5, 6, 7, 8, 9, 11, 12], [0, 1, 2, 3, 4, 5, 6, 7, 8, 9, 11, 12, 13], [0, 1, 2, 3, 4, 5, 6, 7, 8, 9], [0, 1, 2, 3, 4, 5, 6, 7, 8, 9], [0, 1, 2, 3, 4, 5, 6, 7, 8, 9, 15, 16], [0, 1, 2, 3, 4, 5, 6, 7, 8, 9, 15, 16, 17], [0, 1, 2, 3, 4, 5, 6, 7, 8, 9], [0, 1, 2, 3, 4, 5, 6, 7, 8, 9, 10, 11, 12, 13, 14, 15, 16, 17, 18, 19], [0, 1, 2, 3, 4, 5, 6, 7, 8, 9, 10, 11, 12, 13, 14, 15, 16, 17, 18, 19, 20], [0, 1, 2, 3, 4, 5, 6, 7, 8, 9, 10, 11, 12, 13, 14, 15, 16, 17, 18, 19, 20, 21]], [[], [], [0, 1], [2], [3], [4], [5], [6], [6, 7], [6, 8], [9], [9], [9], [9, 11, 12], [9, 13], [9], [9], [9, 15, 16], [9, 17], [9], [9, 10, 14, 18, 19], [6, 9, 20], [6, 21]]⟩ (fun _ => []) (by kernel_rfl) (by kernel_rfl) (by (with_reducible (repeat' (first | assumption | apply jA | apply jB | apply jC | apply jD | apply jE | apply jF | apply hb3 | omega | (simp; done) | (simp; omega) | (dsimp only; omega))))) (fun u => by simp only [putD, Act.put, List.setIfInBounds_toArray, List.set_cons_zero, List.set_cons_succ, Nat.zero_add, Nat.reduceAdd]; rfl) ?_
                apply RGW.on (i := 0) rfl
                · (simp only [gA, gB, gC] <;> rfl)
                · intro γ u W hcur hd
                  clear hd
                  (try dsimp only)
                  refine ⟨rfl, ?_⟩
                  go_simp <;> (try go_bits) <;> with_reducible rfl
                · exact fun _ _ _ => rfl
                · rfl
                dsimp only [nA, cA]
                apply RGW.on (i := 1) rfl
                · (simp only [gA, gB, gC] <;> rfl)
                · intro γ u W hcur hd
                  clear hd
                  (try dsimp only)
                  refine ⟨rfl, ?_⟩
                  go_simp <;> (try go_bits) <;> with_reducible rfl
                · exact fun _ _ _ => rfl
                · rfl
                dsimp only [nA, cA]
                apply RGW.on (i := 2) rfl
                · (simp only [gA, gB, gC] <;> rfl)
                · intro γ u W hcur hd
                  obtain ⟨⟨h0, -, -⟩, ⟨h1, -, -⟩, -⟩ := hd
                  dsimp only at h0 h1
                  (try simp only [h0, h1])
                  refine ⟨rfl, ?_⟩
                  go_simp <;> (try go_bits) <;> with_reducible rfl
                · exact fun _ _ _ => rfl
                · rfl
                dsimp only [nA, cA]
                apply RGW.on (i := 3) rfl
                · (simp only [gA, gB, gC] <;> rfl)
                · intro γ u W hcur hd
                  obtain ⟨⟨h2, -, -⟩, -⟩ := hd
                  dsimp only at h2
                  (try simp only [h2])
                  refine ⟨rfl, ?_⟩
                  go_simp <;> (try go_bits) <;> with_reducible rfl
                · exact fun _ _ _ => rfl
                · rfl
                dsimp only [nA, cA]
                apply RGW.on (i := 4) rfl
                · (simp only [gA, gB, gC] <;> rfl)
                · intro γ u W hcur hd
                  obtain ⟨⟨h3, -, -⟩, -⟩ := hd
                  dsimp only at h3
                  (try simp only [h3])
                  refine ⟨rfl, ?_⟩
                  go_simp <;> (try go_bits) <;> with_reducible rfl
                · exact fun _ _ _ => rfl
                · rfl
                dsimp only [nA, cA]
                apply RGW.on (i := 5) rfl
                · (simp only [gA, gB, gC] <;> rfl)
                · intro γ u W hcur hd
                  obtain ⟨⟨h4, -, -⟩, -⟩ := hd
                  dsimp only at h4
                  (try simp only [h4])
                  refine ⟨rfl, ?_⟩
                  go_simp <;> (try go_bits) <;> with_reducible rfl
                · exact fun _ _ _ => rfl
                · rfl
                dsimp only [nA, cA]
                apply RGW.on (i := 6) rfl
                · (simp only [gA, gB, gC] <;> rfl)
                · intro γ u W hcur hd
                  obtain ⟨⟨h5, -, -⟩, -⟩ := hd
                  dsimp only at h5
                  (try simp only [h5])
                  refine ⟨rfl, ?_⟩
                  go_simp <;> (try go_bits) <;> with_reducible rfl
                · exact fun _ _ _ => rfl
                · rfl
                dsimp only [nA, cA]
                first
                | apply RGW.on (i := 7) rfl
                  · (simp only [gA, gB, gC] <;> rfl)
                  · intro γ u W hcur hd
                    obtain ⟨⟨h6, -, -⟩, -⟩ := hd
                    dsimp only at h6
                    (try simp only [h6])
                    refine ⟨?_, ?_⟩
                    · (simp [Region.wanted, yielded, undef, *]; done)
                    go_simp <;> (try go_bits) <;> with_reducible rfl
                  · exact fun _ _ _ => rfl
                  · rfl
                | apply RGW.off (i := 7) rfl
                  · (simp only [gA, gB, gC] <;> rfl)
                  · intro γ u W hcur hd
                    obtain ⟨⟨h6, -, -⟩, -⟩ := hd
                    dsimp only at h6
                    (try simp only [h6])
                    simp [Region.wanted, yielded, undef, *]
                  · rfl
                dsimp only [nA, cA]
                first
                | apply RGW.on (i := 8) rfl
                  · (simp only [gA, gB, gC] <;> rfl)
                  · intro γ u W hcur hd
                    obtain ⟨⟨h6, -, -⟩, ⟨h7, -, -⟩, -⟩ := hd
                    dsimp only at h6 h7
                    (try simp only [h6, h7])
                    refine ⟨?_, ?_⟩
                    · (simp [Region.wanted, yielded, undef, *]; done)
                    go_simp <;> (try go_bits) <;> with_reducible rfl
                  · exact fun _ _ _ => rfl
                  · rfl
                | apply RGW.off (i := 8) rfl
                  · (simp only [gA, gB, gC] <;> rfl)
                  · intro γ u W hcur hd
                    obtain ⟨⟨h6, -, -⟩, ⟨h7, -, -⟩, -⟩ := hd
                    dsimp only at h6 h7
                    (try simp only [h6, h7])
                    simp [Region.wanted, yielded, undef, *]
                  · rfl
                dsimp only [nA, cA]
                first
                | apply RGW.on (i := 9) rfl
                  · (simp only [gA, gB, gC] <;> rfl)
                  · intro γ u W hcur hd
                    obtain ⟨⟨h6, -, -⟩, ⟨h8, -, -⟩, -⟩ := hd
                    dsimp only at h6 h8
                    (try simp only [h6, h8])
                    refine ⟨?_, ?_⟩
                    · (simp [Region.wanted, yielded, undef, *]; done)
                    go_simp <;> (try go_bits) <;> with_reducible rfl
                  · exact fun _ _ _ => rfl
                  · rfl
                | apply RGW.off (i := 9) rfl
                  · (simp only [gA, gB, gC] <;> rfl)
                  · intro γ u W hcur hd
                    obtain ⟨⟨h6, -, -⟩, ⟨h8, -, -⟩, -⟩ := hd
                    dsimp only at h6 h8
                    (try simp only [h6, h8])
                    simp [Region.wanted, yielded, undef, *]
                  · rfl
                dsimp only [nA, cA]
                first
                | apply RGW.on (i := 10) rfl
                  · (simp only [gA, gB, gC] <;> rfl)
                  · intro γ u W hcur hd
                    obtain ⟨⟨h9, -, -⟩, -⟩ := hd
                    dsimp only at h9
                    (try simp only [h9])
                    refine ⟨?_, ?_⟩
                    · (simp [Region.wanted, yielded, undef, *]; done)
                    go_simp <;> (try go_bits) <;> with_reducible rfl
                  · exact fun _ _ _ => rfl
                  · rfl
                | apply RGW.off (i := 10) rfl
                  · (simp only [gA, gB, gC] <;> rfl)
                  · intro γ u W hcur hd
                    obtain ⟨⟨h9, -, -⟩, -⟩ := hd
                    dsimp only at h9
                    (try simp only [h9])
                    simp [Region.wanted, yielded, undef, *]
                  · rfl
                dsimp only [nA, cA]
                first
                | apply RGW.on (i := 11) rfl
                  · (simp only [gA, gB, gC] <;> rfl)
                  · intro γ u W hcur hd
                    obtain ⟨⟨h9, -, -⟩, -⟩ := hd
                    dsimp only at h9
                    (try simp only [h9])
                    refine ⟨?_, ?_⟩
                    · (simp [Region.wanted, yielded, undef, *]; done)
                    go_simp <;> (try go_bits) <;> with_reducible rfl
                  · exact fun _ _ _ => rfl
                  · rfl
                | apply RGW.off (i := 11) rfl
                  · (simp only [gA, gB, gC] <;> rfl)
                  · intro γ u W hcur hd
                    obtain ⟨⟨h9, -, -⟩, -⟩ := hd
                    dsimp only at h9
                    (try simp only [h9])
                    simp [Region.wanted, yielded, undef, *]
                  · rfl
                dsimp only [nA, cA]
                first
                | apply RGW.on (i := 12) rfl
                  · (simp only [gA, gB, gC] <;> rfl)
                  · intro γ u W hcur hd
                    obtain ⟨⟨h9, -, -⟩, -⟩ := hd
                    dsimp only at h9
                    (try simp only [h9])
                    refine ⟨?_, ?_⟩
                    · (simp [Region.wanted, yielded, undef, *]; done)
                    go_simp <;> (try go_bits) <;> with_reducible rfl
                  · exact fun _ _ _ => rfl
                  · rfl
                | apply RGW.off (i := 12) rfl
                  · (simp only [gA, gB, gC] <;> rfl)
                  · intro γ u W hcur hd
                    obtain ⟨⟨h9, -, -⟩, -⟩ := hd
                    dsimp only at h9
                    (try simp only [h9])
                    simp [Region.wanted, yielded, undef, *]
                  · rfl
                dsimp only [nA, cA]
                first
                | apply RGW.on (i := 13) rfl
                  · (simp only [gA, gB, gC] <;> rfl)
                  · intro γ u W hcur hd
                    obtain ⟨⟨h9, -, -⟩, ⟨h11, -, -⟩, ⟨h12, -, -⟩, -⟩ := hd
                    dsimp only at h9 h11 h12
                    (try simp only [h9, h11, h12])
                    refine ⟨?_, ?_⟩
                    · (simp [Region.wanted, yielded, undef, *]; done)
                    go_simp <;> (try go_bits) <;> with_reducible rfl
                  · exact fun _ _ _ => rfl
                  · rfl
                | apply RGW.off (i := 13) rfl
                  · (simp only [gA, gB, gC] <;> rfl)
                  · intro γ u W hcur hd
                    obtain ⟨⟨h9, -, -⟩, ⟨h11, -, -⟩, ⟨h12, -, -⟩, -⟩ := hd
                    dsimp only at h9 h11 h12
                    (try simp only [h9, h11, h12])
                    simp [Region.wanted, yielded, undef, *]
                  · rfl
                dsimp only [nA, cA]
                first
                | apply RGW.on (i := 14) rfl
                  · (simp only [gA, gB, gC] <;> rfl)
                  · intro γ u W hcur hd
                    obtain ⟨⟨h9, -, -⟩, ⟨h13, -, -⟩, -⟩ := hd
                    dsimp only at h9 h13
                    (try simp only [h9, h13])
                    refine ⟨?_, ?_⟩
                    · (simp [Region.wanted, yielded, undef, *]; done)
                    go_simp <;> (try go_bits) <;> with_reducible rfl
                  · exact fun _ _ _ => rfl
                  · rfl
                | apply RGW.off (i := 14) rfl
                  · (simp only [gA, gB, gC] <;> rfl)
                  · intro γ u W hcur hd
                    obtain ⟨⟨h9, -, -⟩, ⟨h13, -, -⟩, -⟩ := hd
                    dsimp only at h9 h13
                    (try simp only [h9, h13])
                    simp [Region.wanted, yielded, undef, *]
                  · rfl
                dsimp only [nA, cA]
                first
                | apply RGW.on (i := 15) rfl
                  · (simp only [gA, gB, gC] <;> rfl)
                  · intro γ u W hcur hd
                    obtain ⟨⟨h9, -, -⟩, -⟩ := hd
                    dsimp only at h9
                    (try simp only [h9])
                    refine ⟨?_, ?_⟩
                    · (simp [Region.wanted, yielded, undef, *]; done)
                    go_simp <;> (try go_bits) <;> with_reducible rfl
                  · exact fun _ _ _ => rfl
                  · rfl
                | apply RGW.off (i := 15) rfl
                  · (simp only [gA, gB, gC] <;> rfl)
                  · intro γ u W hcur hd
                    obtain ⟨⟨h9, -, -⟩, -⟩ := hd
                    dsimp only at h9
                    (try simp only [h9])
                    simp [Region.wanted, yielded, undef, *]
                  · rfl
                dsimp only [nA, cA]
                first
                | apply RGW.on (i := 16) rfl
                  · (simp only [gA, gB, gC] <;> rfl)
                  · intro γ u W hcur hd
                    obtain ⟨⟨h9, -, -⟩, -⟩ := hd
                    dsimp only at h9
                    (try simp only [h9])
                    refine ⟨?_, ?_⟩
                    · (simp [Region.wanted, yielded, undef, *]; done)
                    go_simp <;> (try go_bits) <;> with_reducible rfl
                  · exact fun _ _ _ => rfl
                  · rfl
                | apply RGW.off (i := 16) rfl
                  · (simp only [gA, gB, gC] <;> rfl)
                  · intro γ u W hcur hd
                    obtain ⟨⟨h9, -, -⟩, -⟩ := hd
                    dsimp only at h9
                    (try simp only [h9])
                    simp [Region.wanted, yielded, undef, *]
                  · rfl
                dsimp only [nA, cA]
                first
                | apply RGW.on (i := 17) rfl
                  · (simp only [gA, gB, gC] <;> rfl)
                  · intro γ u W hcur hd
                    obtain ⟨⟨h9, -, -⟩, ⟨h15, -, -⟩, ⟨h16, -, -⟩, -⟩ := hd
                    dsimp only at h9 h15 h16
                    (try simp only [h9, h15, h16])
                    refine ⟨?_, ?_⟩
                    · (simp [Region.wanted, yielded, undef, *]; done)
                    go_simp <;> (try go_bits) <;> with_reducible rfl
                  · exact fun _ _ _ => rfl
                  · rfl
                | apply RGW.off (i := 17) rfl
                  · (simp only [gA, gB, gC] <;> rfl)
                  · intro γ u W hcur hd
                    obtain ⟨⟨h9, -, -⟩, ⟨h15, -, -⟩, ⟨h16, -, -⟩, -⟩ := hd
                    dsimp only at h9 h15 h16
                    (try simp only [h9, h15, h16])
                    simp [Region.wanted, yielded, undef, *]
                  · rfl
                dsimp only [nA, cA]
                first
                | apply RGW.on (i := 18) rfl
                  · (simp only [gA, gB, gC] <;> rfl)
                  · intro γ u W hcur hd
                    obtain ⟨⟨h9, -, -⟩, ⟨h17, -, -⟩, -⟩ := hd
                    dsimp only at h9 h17
                    (try simp only [h9, h17])
                    refine ⟨?_, ?_⟩
                    · (simp [Region.wanted, yielded, undef, *]; done)
                    go_simp <;> (try go_bits) <;> with_reducible rfl
                  · exact fun _ _ _ => rfl
                  · rfl
                | apply RGW.off (i := 18) rfl
                  · (simp only [gA, gB, gC] <;> rfl)
                  · intro γ u W hcur hd
                    obtain ⟨⟨h9, -, -⟩, ⟨h17, -, -⟩, -⟩ := hd
                    dsimp only at h9 h17
                    (try simp only [h9, h17])
                    simp [Region.wanted, yielded, undef, *]
                  · rfl
                dsimp only [nA, cA]
                first
                | apply RGW.on (i := 19) rfl
                  · (simp only [gA, gB, gC] <;> rfl)
                  · intro γ u W hcur hd
                    obtain ⟨⟨h9, -, -⟩, -⟩ := hd
                    dsimp only at h9
                    (try simp only [h9])
                    refine ⟨?_, ?_⟩
                    · (simp [Region.wanted, yielded, undef, *]; done)
                    go_simp <;> (try go_bits) <;> with_reducible rfl
                  · exact fun _ _ _ => rfl
                  · rfl
                | apply RGW.off (i := 19) rfl
                  · (simp only [gA, gB, gC] <;> rfl)
                  · intro γ u W hcur hd
                    obtain ⟨⟨h9, -, -⟩, -⟩ := hd
                    dsimp only at h9
                    (try simp only [h9])
                    simp [Region.wanted, yielded, undef, *]
                  · rfl
                dsimp only [nA, cA]
                first
                | apply RGW.call (i := 20) rfl
                  · (simp only [gA, gB, gC] <;> rfl)
                  · intro γ u W hcur hd
                    obtain ⟨⟨h9, -, -⟩, ⟨h10, -, -⟩, ⟨h14, -, -⟩, ⟨h18, -, -⟩, ⟨h19, -, -⟩, -⟩ := hd
                    dsimp only at h9 h10 h14 h18 h19
                    (try simp only [h9, h10, h14, h18, h19])
                    refine ⟨?_, fun K hK => ?_⟩
                    · (simp [Region.wanted, yielded, undef, *]; done)
                    go_simp
                    fail
                    (try dsimp only)
                    exact hK.out _ _ rfl (by (with_reducible (repeat' (first | assumption | apply jA | apply jB | apply jC | apply jD | apply jE | apply jF | apply hb3 | omega | (simp; done) | (simp; omega) | (dsimp only; omega)))))
                  · exact fun _ _ _ => rfl
                  · rfl
                | apply RGW.off (i := 20) rfl
                  · (simp only [gA, gB, gC] <;> rfl)
                  · intro γ u W hcur hd
                    obtain ⟨⟨h9, -, -⟩, ⟨h10, -, -⟩, ⟨h14, -, -⟩, ⟨h18, -, -⟩, ⟨h19, -, -⟩, -⟩ := hd
                    dsimp only at h9 h10 h14 h18 h19
                    (try simp only [h9, h10, h14, h18, h19])
                    simp [Region.wanted, yielded, undef, *]
                  · rfl
                dsimp only [nA, cA]
                first
                | apply RGW.on (i := 21) rfl
                  · (simp only [gA, gB, gC] <;> rfl)
                  · intro γ u W hcur hd
                    obtain ⟨⟨h6, -, -⟩, ⟨h9, -, -⟩, ⟨h20, -, -⟩, -⟩ := hd
                    dsimp only at h6 h9 h20
                    (try simp only [h6, h9, h20])
                    refine ⟨?_, ?_⟩
                    · (simp [Region.wanted, yielded, undef, *]; done)
                    go_simp <;> (try go_bits) <;> with_reducible rfl
                  · exact fun _ _ _ => rfl
                  · rfl
                | apply RGW.off (i := 21) rfl
                  · (simp only [gA, gB, gC] <;> rfl)
                  · intro γ u W hcur hd
                    obtain ⟨⟨h6, -, -⟩, ⟨h9, -, -⟩, ⟨h20, -, -⟩, -⟩ := hd
                    dsimp only at h6 h9 h20
                    (try simp only [h6, h9, h20])
                    simp [Region.wanted, yielded, undef, *]
                  · rfl
                dsimp only [nA, cA]
                apply RGW.on (i := 22) rfl
                · (simp only [gA, gB, gC] <;> rfl)
                · intro γ u W hcur hd
                  obtain ⟨⟨h6, -, -⟩, ⟨h21, -, -⟩, -⟩ := hd
                  dsimp only at h6 h21
                  (try simp only [h6, h21])
                  refine ⟨rfl, ?_⟩
                  go_simp <;> (try go_bits) <;> with_reducible rfl
                · exact fun _ _ _ => rfl
                · rfl
                dsimp only [nA, cA]
                refine RGW.fin (fun γ u w2 hw2 hd hdis => ?_)
                obtain ⟨⟨h0, -, -⟩, ⟨h1, -, -⟩, ⟨h2, -, -⟩, ⟨h3, -, -⟩, ⟨h4, -, -⟩, ⟨h5, -, -⟩, ⟨h6, -, -⟩, ⟨h7, -, -⟩, ⟨h8, -, -⟩, ⟨h9, -, -⟩, ⟨h10, -, -⟩, ⟨h11, -, -⟩, ⟨h12, -, -⟩, ⟨h13, -, -⟩, ⟨h14, -, -⟩, ⟨h15, -, -⟩, ⟨h16, -, -⟩, ⟨h17, -, -⟩, ⟨h18, -, -⟩, ⟨h19, -, -⟩, ⟨h20, -, -⟩, ⟨h21, -, -⟩, ⟨h22, -, -⟩, -⟩ := hd
                dsimp only at h0 h1 h2 h3 h4 h5 h6 h7 h8 h9 h10 h11 h12 h13 h14 h15 h16 h17 h18 h19 h20 h21 h22
                clear hdis
                simp only [h0, h1, h2, h3, h4, h5, h6, h7, h8, h9, h10, h11, h12, h13, h14, h15, h16, h17, h18, h19, h20, h21, h22]
                clear h22 h21 h20 h19 h18 h17 h16 h15 h14 h13 h12 h11 h10 h9 h8 h7 h6 h5 h4 h3 h2 h1 h0
                clear u
                simp only [List.map_nil]
                refine PlanW.done ?_
                have hb3 := bl_tt hw2
                replace hb0 := bl_tr hb0 hw2
                replace hj := Lib.hid (hj.out.below hw2)
                replace hs := Lib.hid hs
                clear hb3 hw2 LX0 LX1 LX2 LX3
                go_wp2
                go_roundw
                case rel => exact ⟨k + 1, by omega, by go_num, by rw [hs.out], hb0, hj.out⟩
                case measure => simp [intOf]; omega
              · have hbt : jBeats l e J (P1 k) x = bef l e x y := by
                  rw [hp]
                  unfold jBeats
                  rw [Int.toNat_natCast, hy]
                  have : ¬ (m : Int) < 0 := by omega
                  simp [this]
                rw [hbt] at hs
                clear hbt
                have hyb := hbd.out y (List.mem_of_getElem? hy)
                obtain ⟨g', cJ', hv', -, -, -, hgc'⟩ := hj.out.at hy
                injection hv' with hv' e5 e6
                injection hv' with hv'
                injection hv' with e7 e8
                subst e6 e7
                have LY0 := hgc' 0 _ rfl
                have LY1 := hgc' 1 _ rfl
                have LY2 := hgc' 2 _ rfl
                have LY3 := hgc' 3 _ rfl
                simp only [Nat.add_zero] at LY0
                have hbc : Hid (∀ W, Below w.heap.size w W → Calls Tryd.prog 118 #[.slice Al l.length cl, .agg #[.int .i64 x.st, .int .i64 x.sent, .int .i64 x.left, .int .i64 x.resp], .agg #[.int .i64 y.st, .int .i64 y.sent, .int .i64 y.left, .int .i64 y.resp], .bool e] W (Ret (.bool (bef l e x y)) W)) := fun W hb => hbe.out x y W hb hxb.1 hyb.1 ⟨hxb.2.1, by omega⟩ ⟨hyb.2.1, by omega⟩
                rw [hp]
                rw [hp] at hs
                have hm2 : (m : Int) < J.length := by omega
                have hm3 : ¬ (m : Int) < 0 := by omega
                clear hgc hgc' e8
                generalize bef l e x y = B at *
                go_upto_region 15 with fail
                refine wp_any (w0 := wr) ⟨[], [], [some 65, some 66, some 67, some 68, some 69, some 70, some 71, some 72, some 73, some 74, some 75, some 76, some 77, some 78, some 79, some 80, some 81, some 82, some 83, some 84, some 85, some 86, some 87], [[], [], [0, 1], [0, 1, 2], [0, 1, 2, 3], [0, 1, 2, 3, 4], [0, 1, 2, 3, 4, 5], [0, 1, 2, 3, 4, 5, 6], [0, 1, 2, 3, 4, 5, 6, 7], [0, 1, 2, 3, 4, 5, 6, 7, 8], [0, 1, 2, 3, 4, 5, 6, 7, 8, 9], [0, 1, 2, 3, 4, 5, 6, 7, 8, 9], [0, 1, 2, 3, 4, 5, 6, 7, 8, 9], [0, 1, 2, 3, 4, 5, 6, 7, 8, 9, 11, 12], [0, 1, 2, 3, 4, 5, 6, 7, 8, 9, 11, 12, 13], [0, 1, 2, 3, 4, 5, 6, 7, 8, 9], [0, 1, 2, 3, 4, 5, 6, 7, 8, 9], [0, 1, 2, 3, 4, 5, 6, 7, 8, 9, 15, 16], [0, 1, 2, 3, 4, 5, 6, 7, 8, 9, 15, 16, 17], [0, 1, 2, 3, 4, 5, 6, 7, 8, 9], [0, 1, 2, 3, 4, 5, 6, 7, 8, 9, 10, 11, 12, 13, 14, 15, 16, 17, 18, 19], [0, 1, 2, 3, 4, 5, 6, 7, 8, 9, 10, 11, 12, 13, 14, 15, 16, 17, 18, 19, 20], [0, 1, 2, 3, 4, 5, 6, 7, 8, 9, 10, 11, 12, 13, 14, 15, 16, 17, 18, 19, 20, 21]], [[], [], [0, 1], [2], [3], [4], [5], [6], [6, 7], [6, 8], [9], [9], [9], [9, 11, 12], [9, 13], [9], [9], [9, 15, 16], [9, 17], [9], [9, 10, 14, 18, 19], [6, 9, 20], [6, 21]]⟩ (fun _ => []) (by kernel_rfl) (by kernel_rfl) (by (with_reducible (repeat' (first | assumption | apply jA | apply jB | apply jC | apply jD | apply jE | apply jF | apply hb3 | omega | (simp; done) | (simp; omega) | (dsimp only; omega))))) (fun u => by simp only [putD, Act.put, List.setIfInBounds_toArray, List.set_cons_zero, List.set_cons_succ, Nat.zero_add, Nat.reduceAdd]; rfl) ?_
                apply RGW.on (i := 0) rfl
                · (simp only [gA, gB, gC] <;> rfl)
                · intro γ u W hcur hd
                  clear hd
                  (try dsimp only)
                  refine ⟨rfl, ?_⟩
                  go_simp <;> (try go_bits) <;> with_reducible rfl
                · exact fun _ _ _ => rfl
                · rfl
                dsimp only [nA, cA]
                apply RGW.on (i := 1) rfl
                · (simp only [gA, gB, gC] <;> rfl)
                · intro γ u W hcur hd
                  clear hd
                  (try dsimp only)
                  refine ⟨rfl, ?_⟩
                  go_simp <;> (try go_bits) <;> with_reducible rfl
                · exact fun _ _ _ => rfl
                · rfl
                dsimp only [nA, cA]
                apply RGW.on (i := 2) rfl
                · (simp only [gA, gB, gC] <;> rfl)
                · intro γ u W hcur hd
                  obtain ⟨⟨h0, -, -⟩, ⟨h1, -, -⟩, -⟩ := hd
                  dsimp only at h0 h1
                  (try simp only [h0, h1])
                  refine ⟨rfl, ?_⟩
                  go_simp <;> (try go_bits) <;> with_reducible rfl
                · exact fun _ _ _ => rfl
                · rfl
                dsimp only [nA, cA]
                apply RGW.on (i := 3) rfl
                · (simp only [gA, gB, gC] <;> rfl)
                · intro γ u W hcur hd
                  obtain ⟨⟨h2, -, -⟩, -⟩ := hd
                  dsimp only at h2
                  (try simp only [h2])
                  refine ⟨rfl, ?_⟩
                  go_simp <;> (try go_bits) <;> with_reducible rfl
                · exact fun _ _ _ => rfl
                · rfl
                dsimp only [nA, cA]
                apply RGW.on (i := 4) rfl
                · (simp only [gA, gB, gC] <;> rfl)
                · intro γ u W hcur hd
                  obtain ⟨⟨h3, -, -⟩, -⟩ := hd
                  dsimp only at h3
                  (try simp only [h3])
                  refine ⟨rfl, ?_⟩
                  go_simp <;> (try go_bits) <;> with_reducible rfl
                · exact fun _ _ _ => rfl
                · rfl
                dsimp only [nA, cA]
                apply RGW.on (i := 5) rfl
                · (simp only [gA, gB, gC] <;> rfl)
                · intro γ u W hcur hd
                  obtain ⟨⟨h4, -, -⟩, -⟩ := hd
                  dsimp only at h4
                  (try simp only [h4])
                  refine ⟨rfl, ?_⟩
                  go_simp <;> (try go_bits) <;> with_reducible rfl
                · exact fun _ _ _ => rfl
                · rfl
                dsimp only [nA, cA]
                apply RGW.on (i := 6) rfl
                · (simp only [gA, gB, gC] <;> rfl)
                · intro γ u W hcur hd
                  obtain ⟨⟨h5, -, -⟩, -⟩ := hd
                  dsimp only at h5
                  (try simp only [h5])
                  refine ⟨rfl, ?_⟩
                  go_simp <;> (try go_bits) <;> with_reducible rfl
                · exact fun _ _ _ => rfl
                · rfl
                dsimp only [nA, cA]
                first
                | apply RGW.on (i := 7) rfl
                  · (simp only [gA, gB, gC] <;> rfl)
                  · intro γ u W hcur hd
                    obtain ⟨⟨h6, -, -⟩, -⟩ := hd
                    dsimp only at h6
                    (try simp only [h6])
                    refine ⟨?_, ?_⟩
                    · (simp [Region.wanted, yielded, undef, *]; done)
                    go_simp <;> (try go_bits) <;> with_reducible rfl
                  · exact fun _ _ _ => rfl
                  · rfl
                | apply RGW.off (i := 7) rfl
                  · (simp only [gA, gB, gC] <;> rfl)
                  · intro γ u W hcur hd
                    obtain ⟨⟨h6, -, -⟩, -⟩ := hd
                    dsimp only at h6
                    (try simp only [h6])
                    simp [Region.wanted, yielded, undef, *]
                  · rfl
                dsimp only [nA, cA]
                first
                | apply RGW.on (i := 8) rfl
                  · (simp only [gA, gB, gC] <;> rfl)
                  · intro γ u W hcur hd
                    obtain ⟨⟨h6, -, -⟩, ⟨h7, -, -⟩, -⟩ := hd
                    dsimp only at h6 h7
                    (try simp only [h6, h7])
                    refine ⟨?_, ?_⟩
                    · (simp [Region.wanted, yielded, undef, *]; done)
                    go_simp <;> (try go_bits) <;> with_reducible rfl
                  · exact fun _ _ _ => rfl
                  · rfl
                | apply RGW.off (i := 8) rfl
                  · (simp only [gA, gB, gC] <;> rfl)
                  · intro γ u W hcur hd
                    obtain ⟨⟨h6, -, -⟩, ⟨h7, -, -⟩, -⟩ := hd
                    dsimp only at h6 h7
                    (try simp only [h6, h7])
                    simp [Region.wanted, yielded, undef, *]
                  · rfl
                dsimp only [nA, cA]
                first
                | apply RGW.on (i := 9) rfl
                  · (simp only [gA, gB, gC] <;> rfl)
                  · intro γ u W hcur hd
                    obtain ⟨⟨h6, -, -⟩, ⟨h8, -, -⟩, -⟩ := hd
                    dsimp only at h6 h8
                    (try simp only [h6, h8])
                    refine ⟨?_, ?_⟩
                    · (simp [Region.wanted, yielded, undef, *]; done)
                    go_simp <;> (try go_bits) <;> with_reducible rfl
                  · exact fun _ _ _ => rfl
                  · rfl
                | apply RGW.off (i := 9) rfl
                  · (simp only [gA, gB, gC] <;> rfl)
                  · intro γ u W hcur hd
                    obtain ⟨⟨h6, -, -⟩, ⟨h8, -, -⟩, -⟩ := hd
                    dsimp only at h6 h8
                    (try simp only [h6, h8])
                    simp [Region.wanted, yielded, undef, *]
                  · rfl
                dsimp only [nA, cA]
                first
                | apply RGW.on (i := 10) rfl
                  · (simp only [gA, gB, gC] <;> rfl)
                  · intro γ u W hcur hd
                    obtain ⟨⟨h9, -, -⟩, -⟩ := hd
                    dsimp only at h9
                    (try simp only [h9])
                    refine ⟨?_, ?_⟩
                    · (simp [Region.wanted, yielded, undef, *]; done)
                    go_simp <;> (try go_bits) <;> with_reducible rfl
                  · exact fun _ _ _ => rfl
                  · rfl
                | apply RGW.off (i := 10) rfl
                  · (simp only [gA, gB, gC] <;> rfl)
                  · intro γ u W hcur hd
                    obtain ⟨⟨h9, -, -⟩, -⟩ := hd
                    dsimp only at h9
                    (try simp only [h9])
                    simp [Region.wanted, yielded, undef, *]
                  · rfl
                dsimp only [nA, cA]
                first
                | apply RGW.on (i := 11) rfl
                  · (simp only [gA, gB, gC] <;> rfl)
                  · intro γ u W hcur hd
                    obtain ⟨⟨h9, -, -⟩, -⟩ := hd
                    dsimp only at h9
                    (try simp only [h9])
                    refine ⟨?_, ?_⟩
                    · (simp [Region.wanted, yielded, undef, *]; done)
                    go_simp <;> (try go_bits) <;> with_reducible rfl
                  · exact fun _ _ _ => rfl
                  · rfl
                | apply RGW.off (i := 11) rfl
                  · (simp only [gA, gB, gC] <;> rfl)
                  · intro γ u W hcur hd
                    obtain ⟨⟨h9, -, -⟩, -⟩ := hd
                    dsimp only at h9
                    (try simp only [h9])
                    simp [Region.wanted, yielded, undef, *]
                  · rfl
                dsimp only [nA, cA]
                first
                | apply RGW.on (i := 12) rfl
                  · (simp only [gA, gB, gC] <;> rfl)
                  · intro γ u W hcur hd
                    obtain ⟨⟨h9, -, -⟩, -⟩ := hd
                    dsimp only at h9
                    (try simp only [h9])
                    refine ⟨?_, ?_⟩
                    · (simp [Region.wanted, yielded, undef, *]; done)
                    go_simp <;> (try go_bits) <;> with_reducible rfl
                  · exact fun _ _ _ => rfl
                  · rfl
                | apply RGW.off (i := 12) rfl
                  · (simp only [gA, gB, gC] <;> rfl)
                  · intro γ u W hcur hd
                    obtain ⟨⟨h9, -, -⟩, -⟩ := hd
                    dsimp only at h9
                    (try simp only [h9])
                    simp [Region.wanted, yielded, undef, *]
                  · rfl
                dsimp only [nA, cA]
                first
                | apply RGW.on (i := 13) rfl
                  · (simp only [gA, gB, gC] <;> rfl)
                  · intro γ u W hcur hd
                    obtain ⟨⟨h9, -, -⟩, ⟨h11, -, -⟩, ⟨h12, -, -⟩, -⟩ := hd
                    dsimp only at h9 h11 h12
                    (try simp only [h9, h11, h12])
                    refine ⟨?_, ?_⟩
                    · (simp [Region.wanted, yielded, undef, *]; done)
                    go_simp <;> (try go_bits) <;> with_reducible rfl
                  · exact fun _ _ _ => rfl
                  · rfl
                | apply RGW.off (i := 13) rfl
                  · (simp only [gA, gB, gC] <;> rfl)
                  · intro γ u W hcur hd
                    obtain ⟨⟨h9, -, -⟩, ⟨h11, -, -⟩, ⟨h12, -, -⟩, -⟩ := hd
                    dsimp only at h9 h11 h12
                    (try simp only [h9, h11, h12])
                    simp [Region.wanted, yielded, undef, *]
                  · rfl
                dsimp only [nA, cA]
                first
                | apply RGW.on (i := 14) rfl
                  · (simp only [gA, gB, gC] <;> rfl)
                  · intro γ u W hcur hd
                    obtain ⟨⟨h9, -, -⟩, ⟨h13, -, -⟩, -⟩ := hd
                    dsimp only at h9 h13
                    (try simp only [h9, h13])
                    refine ⟨?_, ?_⟩
                    · (simp [Region.wanted, yielded, undef, *]; done)
                    go_simp <;> (try go_bits) <;> with_reducible rfl
                  · exact fun _ _ _ => rfl
                  · rfl
                | apply RGW.off (i := 14) rfl
                  · (simp only [gA, gB, gC] <;> rfl)
                  · intro γ u W hcur hd
                    obtain ⟨⟨h9, -, -⟩, ⟨h13, -, -⟩, -⟩ := hd
                    dsimp only at h9 h13
                    (try simp only [h9, h13])
                    simp [Region.wanted, yielded, undef, *]
                  · rfl
                dsimp only [nA, cA]
                first
                | apply RGW.on (i := 15) rfl
                  · (simp only [gA, gB, gC] <;> rfl)
                  · intro γ u W hcur hd
                    obtain ⟨⟨h9, -, -⟩, -⟩ := hd
                    dsimp only at h9
                    (try simp only [h9])
                    refine ⟨?_, ?_⟩
                    · (simp [Region.wanted, yielded, undef, *]; done)
                    go_simp <;> (try go_bits) <;> with_reducible rfl
                  · exact fun _ _ _ => rfl
                  · rfl
                | apply RGW.off (i := 15) rfl
                  · (simp only [gA, gB, gC] <;> rfl)
                  · intro γ u W hcur hd
                    obtain ⟨⟨h9, -, -⟩, -⟩ := hd
                    dsimp only at h9
                    (try simp only [h9])
                    simp [Region.wanted, yielded, undef, *]
                  · rfl
                dsimp only [nA, cA]
                first
                | apply RGW.on (i := 16) rfl
                  · (simp only [gA, gB, gC] <;> rfl)
                  · intro γ u W hcur hd
                    obtain ⟨⟨h9, -, -⟩, -⟩ := hd
                    dsimp only at h9
                    (try simp only [h9])
                    refine ⟨?_, ?_⟩
                    · (simp [Region.wanted, yielded, undef, *]; done)
                    go_simp <;> (try go_bits) <;> with_reducible rfl
                  · exact fun _ _ _ => rfl
                  · rfl
                | apply RGW.off (i := 16) rfl
                  · (simp only [gA, gB, gC] <;> rfl)
                  · intro γ u W hcur hd
                    obtain ⟨⟨h9, -, -⟩, -⟩ := hd
                    dsimp only at h9
                    (try simp only [h9])
                    simp [Region.wanted, yielded, undef, *]
                  · rfl
                dsimp only [nA, cA]
                first
                | apply RGW.on (i := 17) rfl
                  · (simp only [gA, gB, gC] <;> rfl)
                  · intro γ u W hcur hd
                    obtain ⟨⟨h9, -, -⟩, ⟨h15, -, -⟩, ⟨h16, -, -⟩, -⟩ := hd
                    dsimp only at h9 h15 h16
                    (try simp only [h9, h15, h16])
                    refine ⟨?_, ?_⟩
                    · (simp [Region.wanted, yielded, undef, *]; done)
                    go_simp <;> (try go_bits) <;> with_reducible rfl
                  · exact fun _ _ _ => rfl
                  · rfl
                | apply RGW.off (i := 17) rfl
                  · (simp only [gA, gB, gC] <;> rfl)
                  · intro γ u W hcur hd
                    obtain ⟨⟨h9, -, -⟩, ⟨h15, -, -⟩, ⟨h16, -, -⟩, -⟩ := hd
                    dsimp only at h9 h15 h16
                    (try simp only [h9, h15, h16])
                    simp [Region.wanted, yielded, undef, *]
                  · rfl
                dsimp only [nA, cA]
                first
                | apply RGW.on (i := 18) rfl
                  · (simp only [gA, gB, gC] <;> rfl)
                  · intro γ u W hcur hd
                    obtain ⟨⟨h9, -, -⟩, ⟨h17, -, -⟩, -⟩ := hd
                    dsimp only at h9 h17
                    (try simp only [h9, h17])
                    refine ⟨?_, ?_⟩
                    · (simp [Region.wanted, yielded, undef, *]; done)
                    go_simp <;> (try go_bits) <;> with_reducible rfl
                  · exact fun _ _ _ => rfl
                  · rfl
                | apply RGW.off (i := 18) rfl
                  · (simp only [gA, gB, gC] <;> rfl)
                  · intro γ u W hcur hd
                    obtain ⟨⟨h9, -, -⟩, ⟨h17, -, -⟩, -⟩ := hd
                    dsimp only at h9 h17
                    (try simp only [h9, h17])
                    simp [Region.wanted, yielded, undef, *]
                  · rfl
                dsimp only [nA, cA]
                first
                | apply RGW.on (i := 19) rfl
                  · (simp only [gA, gB, gC] <;> rfl)
                  · intro γ u W hcur hd
                    obtain ⟨⟨h9, -, -⟩, -⟩ := hd
                    dsimp only at h9
                    (try simp only [h9])
                    refine ⟨?_, ?_⟩
                    · (simp [Region.wanted, yielded, undef, *]; done)
                    go_simp <;> (try go_bits) <;> with_reducible rfl
                  · exact fun _ _ _ => rfl
                  · rfl
                | apply RGW.off (i := 19) rfl
                  · (simp only [gA, gB, gC] <;> rfl)
                  · intro γ u W hcur hd
                    obtain ⟨⟨h9, -, -⟩, -⟩ := hd
                    dsimp only at h9
                    (try simp only [h9])
                    simp [Region.wanted, yielded, undef, *]
                  · rfl
                dsimp only [nA, cA]
                first
                | apply RGW.call (i := 20) rfl
                  · (simp only [gA, gB, gC] <;> rfl)
                  · intro γ u W hcur hd
                    obtain ⟨⟨h9, -, -⟩, ⟨h10, -, -⟩, ⟨h14, -, -⟩, ⟨h18, -, -⟩, ⟨h19, -, -⟩, -⟩ := hd
                    dsimp only at h9 h10 h14 h18 h19
                    (try simp only [h9, h10, h14, h18, h19])
                    refine ⟨?_, fun K hK => ?_⟩
                    · (simp [Region.wanted, yielded, undef, *]; done)
                    go_simp
                    (go_at_call 118; (with_reducible refine (hbc.out _ (bl_tr hb0 (by (with_reducible (repeat' (first | assumption | apply jA | apply jB | apply jC | apply jD | apply jE | apply jF | apply hb3 | omega | (simp; done) | (simp; omega) | (dsimp only; omega))))))).mono ?_); rintro e w3 ⟨rfl, hb3⟩; replace hb3 := bl_tt hb3)
                    (try dsimp only)
                    exact hK.out _ _ rfl (by (with_reducible (repeat' (first | assumption | apply jA | apply jB | apply jC | apply jD | apply jE | apply jF | apply hb3 | omega | (simp; done) | (simp; omega) | (dsimp only; omega)))))
                  · exact fun _ _ _ => rfl
                  · rfl
                | apply RGW.off (i := 20) rfl
                  · (simp only [gA, gB, gC] <;> rfl)
                  · intro γ u W hcur hd
                    obtain ⟨⟨h9, -, -⟩, ⟨h10, -, -⟩, ⟨h14, -, -⟩, ⟨h18, -, -⟩, ⟨h19, -, -⟩, -⟩ := hd
                    dsimp only at h9 h10 h14 h18 h19
                    (try simp only [h9, h10, h14, h18, h19])
                    simp [Region.wanted, yielded, undef, *]
                  · rfl
                dsimp only [nA, cA]
                first
                | apply RGW.on (i := 21) rfl
                  · (simp only [gA, gB, gC] <;> rfl)
                  · intro γ u W hcur hd
                    obtain ⟨⟨h6, -, -⟩, ⟨h9, -, -⟩, ⟨h20, -, -⟩, -⟩ := hd
                    dsimp only at h6 h9 h20
                    (try simp only [h6, h9, h20])
                    refine ⟨?_, ?_⟩
                    · (simp [Region.wanted, yielded, undef, *]; done)
                    go_simp <;> (try go_bits) <;> with_reducible rfl
                  · exact fun _ _ _ => rfl
                  · rfl
                | apply RGW.off (i := 21) rfl
                  · (simp only [gA, gB, gC] <;> rfl)
                  · intro γ u W hcur hd
                    obtain ⟨⟨h6, -, -⟩, ⟨h9, -, -⟩, ⟨h20, -, -⟩, -⟩ := hd
                    dsimp only at h6 h9 h20
                    (try simp only [h6, h9, h20])
                    simp [Region.wanted, yielded, undef, *]
                  · rfl
                dsimp only [nA, cA]
                apply RGW.on (i := 22) rfl
                · (simp only [gA, gB, gC] <;> rfl)
                · intro γ u W hcur hd
                  obtain ⟨⟨h6, -, -⟩, ⟨h21, -, -⟩, -⟩ := hd
                  dsimp only at h6 h21
                  (try simp only [h6, h21])
                  refine ⟨rfl, ?_⟩
                  go_simp <;> (try go_bits) <;> with_reducible rfl
                · exact fun _ _ _ => rfl
                · rfl
                dsimp only [nA, cA]
                refine RGW.fin (fun γ u w2 hw2 hd hdis => ?_)
                obtain ⟨⟨h0, -, -⟩, ⟨h1, -, -⟩, ⟨h2, -, -⟩, ⟨h3, -, -⟩, ⟨h4, -, -⟩, ⟨h5, -, -⟩, ⟨h6, -, -⟩, ⟨h7, -, -⟩, ⟨h8, -, -⟩, ⟨h9, -, -⟩, ⟨h10, -, -⟩, ⟨h11, -, -⟩, ⟨h12, -, -⟩, ⟨h13, -, -⟩, ⟨h14, -, -⟩, ⟨h15, -, -⟩, ⟨h16, -, -⟩, ⟨h17, -, -⟩, ⟨h18, -, -⟩, ⟨h19, -, -⟩, ⟨h20, -, -⟩, ⟨h21, -, -⟩, ⟨h22, -, -⟩, -⟩ := hd
                dsimp only at h0 h1 h2 h3 h4 h5 h6 h7 h8 h9 h10 h11 h12 h13 h14 h15 h16 h17 h18 h19 h20 h21 h22
                clear hdis
                simp only [h0, h1, h2, h3, h4, h5, h6, h7, h8, h9, h10, h11, h12, h13, h14, h15, h16, h17, h18, h19, h20, h21, h22]
                clear h22 h21 h20 h19 h18 h17 h16 h15 h14 h13 h12 h11 h10 h9 h8 h7 h6 h5 h4 h3 h2 h1 h0
                clear u
                simp only [List.map_nil]
                refine PlanW.done ?_
                have hb3 := bl_tt hw2
                cases B
                · rw [if_neg (by simp)] at hs
                  replace hb0 := bl_tr hb0 hw2
                  replace hj := Lib.hid (hj.out.below hw2)
                  replace hs := Lib.hid hs
                  clear hb3 hw2 LX0 LX1 LX2 LX3 LY0 LY1 LY2 LY3
                  go_wp2
                  go_roundw
                  case rel => exact ⟨k + 1, by omega, by go_num, by rw [hs.out], hb0, hj.out⟩
                  case measure => simp [intOf]; omega
                · rw [if_pos rfl] at hs
                  replace hb0 := bl_tr hb0 hw2
                  replace hj := Lib.hid (hj.out.below hw2)
                  replace hs := Lib.hid hs
                  clear hb3 hw2 LX0 LX1 LX2 LX3 LY0 LY1 LY2 LY3
                  go_wp2
                  go_roundw
                  case rel => exact ⟨k + 1, by omega, by go_num, by rw [hs.out], hb0, hj.out⟩
                  case measure => simp [intOf]; omega
          · obtain rfl : k = J.length := by omega
            replace hRn := hRn.out
            rcases hpk.out J.length hk with ⟨hp, -⟩ | ⟨a, x, ha, hp, hx, hxl, -⟩
            · rw [hp] at hRn ⊢
              have e1 : R (t + 1) = (O ++ [-1], J) := by rw [hRn]; simp [jTake]
              obtain ⟨A2, c2, hv⟩ := own_slice hj.out.b
              subst hv
              replace hRn := Lib.hid hRn
              replace e1 := Lib.hid e1
              have hsz := hb0.size
              have hjA := Lib.hid (hj.out.below (bl_al (.cells #[.int .i64 (-1)] 3) (bl_refl _)))
              go_wp2_with (at_builtin; refine wpList_append_own2 rfl _ _ 22 rfl w.heap.size 3 i0 (.int .i64 0) 1 8 Tryd.underlying22 hi hz0 hz1 hz2 rfl (by decide) _ _ _ rfl (hjA.out.a) ⟨_, 0, none⟩ 1 1 [.int .i64 (-1)] rfl rfl ?c1 ?c2 ?c3 ?c4 ?c5 ?_)
              case c1 =>
                intro j u hj
                match j, hj with
                | 0, hj => simp at hj; subst hj; simp [Addr.add]
                | j + 1, hj => simp at hj
              case c2 => intro u hu; simp at hu; subst hu; rfl
              case c3 => unfold maxLen; have := hOl.out; omega
              case c4 => have := hOl.out; omega
              case c5 => exact hjA.out.ge
              intro v1 w3 hown hg2 hd
              replace hb0 := (bl_al (.cells #[.int .i64 (-1)] 3) hb0).grown hg2 (by simp; omega) (own_ge hjA.out.a)
              replace hj := Lib.hid (hjA.out.appO hown hg2 (by simpa using hd))
              clear hown hg2 hd hjA hsz
              go_wp2
              go_roundw
              case rel => exact ⟨t + 1, by omega, by go_num, hb0, by rw [e1.out]; exact hj.out⟩
              case measure => simp [intOf]; omega
            · rw [hp] at hRn ⊢
              have hnn : ¬ (a : Int) < 0 := by omega
              have e1 : R (t + 1) = (O ++ [(x.st : Int)], J.set a (jOne t x)) := by
                rw [hRn]
                unfold jTake
                rw [if_neg hnn, Int.toNat_natCast, hx]
              have hxb := hbd.out x (List.mem_of_getElem? hx)
              replace hRn := Lib.hid hRn
              replace e1 := Lib.hid e1
              obtain ⟨g, cJ, hv, -, -, -, hgc⟩ := hj.out.at hx
              subst hv
              have LX0 := hgc 0 _ rfl
              simp only [Nat.add_zero] at LX0
              have ha2 : (a : Int) < J.length := by omega
              clear hgc
              have hsz := hb0.size
              have hjA := Lib.hid (hj.out.below (bl_al (.cells #[.int .i64 x.st] 3) (bl_refl _)))
              go_wp2_with (at_builtin; refine wpList_append_own2 rfl _ _ 22 rfl w.heap.size 3 i0 (.int .i64 0) 1 8 Tryd.underlying22 hi hz0 hz1 hz2 rfl (by decide) _ _ _ rfl (hjA.out.a) ⟨_, 0, none⟩ 1 1 [.int .i64 x.st] rfl rfl ?c1 ?c2 ?c3 ?c4 ?c5 ?_)
              case c2 => first | rfl | (intro u hu; simp at hu; subst hu; rfl)
              case c3 => unfold maxLen; have := hOl.out; omega
              case c4 => have := hOl.out; omega
              case c5 => have := hjA.out.ge; simpa using this
              intro v1 w3 hown hg2 hd
              replace hb0 := (bl_al (.cells #[.int .i64 x.st] 3) hb0).grown hg2 (by simp; omega) (own_ge hjA.out.a)
              replace hj := Lib.hid (hjA.out.appO hown hg2 (by simpa using hd))
              clear hown hg2 hd hjA hsz
              clear LX0
              obtain ⟨g', cJ', hv', hgD, hgl, hgf, hgc⟩ := hj.out.at hx
              injection hv' with hv' e5 e6
              injection hv' with hv'
              injection hv' with e7 e8
              subst e6 e7
              have LX1 := hgc 1 _ rfl
              have LX2 := hgc 2 _ rfl w3 (bl_refl _)
              have F2 := hgf (a * 4 + 2)
              have hx2 : (J.set a ⟨x.st, x.sent, x.left - 1, x.resp⟩)[a]? = some ⟨x.st, x.sent, x.left - 1, x.resp⟩ := List.getElem?_set_self (by omega)
              have hj2 := Lib.hid (hj.out.put rfl hx 2 (x.left - 1) (by decide) (y := ⟨x.st, x.sent, x.left - 1, x.resp⟩) rfl)
              have hb2 := bl_set (p := ⟨g, a * 4 + 2, none⟩) (by exact hgD) (.int .i64 (x.left - 1)) hb0
              clear hgc
              go_upto_region 21 with fail
              generalize w3.setCell ⟨g, a * 4 + 2, none⟩ (.int .i64 (x.left - 1)) = w4 at *
              clear hgf hgl hb0 LX1 LX2 F2
              obtain ⟨g', cJ', hv', hgD', hgl', hgf, hgc⟩ := hj2.out.at hx2
              injection hv' with hv' e5 e6
              injection hv' with hv'
              injection hv' with e7 e8
              subst e7
              have LX1 := hgc 1 _ rfl
              have LX2 := hgc 2 _ rfl w4 (bl_refl _)
              have LX3 := hgc 3 _ rfl w4 (bl_refl _)
              have F3 := hgf (a * 4 + 3)
              have ha3 : (a : Int) < (J.set a ⟨x.st, x.sent, x.left - 1, x.resp⟩).length := by rw [List.length_set]; exact ha2
              have hset : ∀ r, (J.set a ⟨x.st, x.sent, x.left - 1, x.resp⟩).set a ⟨x.st, x.sent, x.left - 1, r⟩ = J.set a ⟨x.st, x.sent, x.left - 1, r⟩ := fun r => List.set_set ..
              clear hgc e8 e5 e6
              by_cases hl : x.left - 1 = 0
              · have e2 : R (t + 1) = (O ++ [(x.st : Int)], J.set a ⟨x.st, x.sent, x.left - 1, t - x.sent + 1⟩) := by rw [e1.out, jOne, if_pos hl]
                replace e2 := Lib.hid e2
                have hj3 := Lib.hid (hj2.out.put rfl hx2 3 ((t : Int) - x.sent + 1) (by decide) (y := ⟨x.st, x.sent, x.left - 1, t - x.sent + 1⟩) rfl)
                rw [hset] at hj3
                have hb3 := bl_set (p := ⟨g, a * 4 + 3, none⟩) (by exact hgD) (.int .i64 ((t : Int) - x.sent + 1)) hb2
                go_wp2
                go_roundw
                case rel => exact ⟨t + 1, by omega, by go_num, hb3, by rw [e2.out]; exact hj3.out⟩
                case measure => simp [intOf]; omega
              · have e2 : R (t + 1) = (O ++ [(x.st : Int)], J.set a ⟨x.st, x.sent, x.left - 1, x.resp⟩) := by rw [e1.out, jOne, if_neg hl]
                replace e2 := Lib.hid e2
                go_wp2
                go_roundw
                case rel => exact ⟨t + 1, by omega, by go_num, hb2, by rw [e2.out]; exact hj2.out⟩
                case measure => simp [intOf]; omega
end Go.Proofs.YtdlmkblmljhbfaaDoor
