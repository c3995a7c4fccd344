/-
  Walks: a sender's tick: what is sent, what is carried.
-/
import Derived.Test.YtdlmkblmljhbfaaDoorSnd
namespace Go.Proofs.YtdlmkblmljhbfaaDoor
set_option linter.unusedSimpArgs false
set_option linter.unusedVariables false
open Go.RowKit Go.Shelf
attribute [local go_sem] bl_al bl_drew bl_drewN bl_refl bx_al bx_drew bx_drewN bx_refl
set_option maxRecDepth 20000
def sendTo (l : List Sm) (st : List Int) (t : Int) (q : Nat → List (Int × Int)) (k : Nat) : Nat → List (Int × Int) := fun i => if i < k then sendS l st t q i else q i
theorem sendTo_zero (l : List Sm) (st : List Int) (t : Int) (q : Nat → List (Int × Int)) : sendTo l st t q 0 = q := by funext i; simp [sendTo]
theorem sendTo_len (l : List Sm) (st : List Int) (t : Int) (q : Nat → List (Int × Int)) : sendTo l st t q l.length = sendS l st t q := by
  funext i
  unfold sendTo
  split
  · rfl
  · rename_i h
    have : l[i]? = none := List.getElem?_eq_none (by omega)
    simp [sendS, relB, this]
theorem sendTo_at (l : List Sm) (st : List Int) (t : Int) (q : Nat → List (Int × Int)) (k : Nat) : sendTo l st t q k k = q k := by simp [sendTo]
theorem sendTo_off {l : List Sm} {st : List Int} {t : Int} {q : Nat → List (Int × Int)} {k : Nat} (h : relB l st t k = false) : sendTo l st t q (k + 1) = sendTo l st t q k := by
  funext i
  unfold sendTo
  by_cases h1 : i < k
  · rw [if_pos (by omega), if_pos h1]
  · rw [if_neg h1]
    by_cases h2 : i = k
    · subst h2; rw [if_pos (by omega)]; simp [sendS, h]
    · rw [if_neg (by omega)]
theorem sendTo_on {l : List Sm} {st : List Int} {t : Int} {q : Nat → List (Int × Int)} {k : Nat} (h : relB l st t k = true) : sendTo l st t q (k + 1) = upF (sendTo l st t q k) k (q k ++ [(t, lenAt l k)]) := by
  funext i
  unfold sendTo upF
  dsimp only
  by_cases h1 : i < k
  · rw [if_pos (by omega), if_neg (by omega), if_pos h1]
  · by_cases h2 : i = k
    · subst h2; rw [if_pos (by omega), if_pos rfl]; simp [sendS, h]
    · rw [if_neg (by omega), if_neg h2, if_neg h1]
/-- Streams and starts of a sender that was opened. -/
structure Opn (l : List Sm) (st : List Int) : Prop where
  len : l.length ≤ 6
  slen : st.length = l.length
  sm : ∀ x ∈ l, 1 ≤ x.per ∧ x.per ≤ 60 ∧ 1 ≤ x.dl ∧ x.dl ≤ x.per ∧ 1 ≤ x.len ∧ x.len ≤ 20
  st : ∀ a ∈ st, 0 ≤ a ∧ a ≤ 400
/-- What a call leaves of a sender that it turns. -/
def Turn (b S Bw : Nat) (vl vs : Value) (n : Nat) (Q : QS) (s' : Ss) (w w' : World) : Prop :=
  ∃ Q', Snd b S Bw vl vs n Q' s' w' ∧ BX (foot S Bw Q) w w' ∧ ∀ i, i < 6 → blA (Q'.A i) = blA (Q.A i) ∨ ∃ g, blA (Q'.A i) = [g] ∧ w.heap.size ≤ g
set_option maxHeartbeats 8000000 in
theorem c_send (l : List Sm) (st : List Int) (t : Nat) (Al As : Option Addr) (cl cs S Bw : Nat) (Q : QS) (s : Ss) (w0 w : World) (ho : Opn l st) (ht : t ≤ 400) (hw : Below w0.heap.size w0 w) (hl : Sl cSm 4 w0 Al l) (hst : Sl cI 1 w0 As st)
    (h : Snd w0.heap.size S Bw (.slice Al l.length cl) (.slice As st.length cs) l.length Q s w) (hq : ∀ i, (s.q i).length ≤ 900) :
    Calls Tryd.prog 150 #[.pointer (some ⟨S, 0, none⟩), .int .i64 t] w (fun e w' => (∃ v, e = .returned v) ∧ Turn w0.heap.size S Bw (.slice Al l.length cl) (.slice As st.length cs) l.length Q ⟨sendS l st t s.q, s.wo⟩ w w') := by
  obtain ⟨n, Hn⟩ : ∃ n, Hid (l.length = n) := ⟨_, rfl⟩
  have hlen := ho.len
  rw [ho.slen] at h ⊢
  rw [Hn.out] at h hlen ⊢
  have Ho := Lib.hid ho
  have Hl := Lib.hid hl
  have Hst := Lib.hid hst
  have Hq := Lib.hid hq
  have Hw := Lib.hid hw
  clear ho hl hst hq hw
  have hfb : Hid (∀ x ∈ foot S Bw Q, w0.heap.size ≤ x) := fun x hx => by
    simp only [foot, List.mem_cons, List.mem_flatMap, List.mem_range] at hx
    rcases hx with rfl | rfl | ⟨i, hi, hx⟩
    · exact h.bS
    · exact h.bW
    · exact ((h.que i hi).ge x hx).1
  have H := Lib.hid h
  have C0 : w.cell? ⟨S, 0, none⟩ = some (.slice Al n cl) := by rw [h.blk.cell]; rfl
  clear h
  go_enter Tryd.func150, Tryd.ntmps150
  go_wp2
  clear C0
  go_loopw [12] (fun k wr => ∃ j : Nat, j ≤ n ∧ k = .int .i64 j ∧ ∃ Q' : QS, Snd w0.heap.size S Bw (.slice Al n cl) (.slice As n cs) n Q' ⟨sendTo l st t s.q j, s.wo⟩ wr ∧ BX (foot S Bw Q) w wr ∧ (∀ i, j ≤ i → Q'.A i = Q.A i) ∧
    ∀ i, i < 6 → blA (Q'.A i) = blA (Q.A i) ∨ ∃ g, blA (Q'.A i) = [g] ∧ w.heap.size ≤ g) (fun k _ => n - (intOf k).toNat)
  case atStart => exact ⟨0, Nat.zero_le _, rfl, Q, by rw [sendTo_zero]; exact H.out, bx_refl _ _, fun _ _ => rfl, fun _ _ => .inl rfl⟩
  case round =>
    obtain ⟨k, hk, rfl, Q', h1, h2, h3, h4⟩ := hrel
    by_cases hkn : k < n
    rotate_left
    · go_wp2
      have e : k = n := by omega
      subst e
      rw [← Hn.out, sendTo_len, Hn.out] at h1
      go_end0
      exact ⟨⟨_, rfl⟩, Q', h1, h2, h4⟩
    have hbr := bx_below Hw.out h2 hfb.out
    have hx : l[k]? = some (l[k]'(by rw [Hn.out]; exact hkn)) := List.getElem?_eq_getElem _
    generalize l[k]'(by rw [Hn.out]; exact hkn) = x at hx
    have ha : st[k]? = some (st[k]'(by rw [Ho.out.slen, Hn.out]; exact hkn)) := List.getElem?_eq_getElem _
    generalize st[k]'(by rw [Ho.out.slen, Hn.out]; exact hkn) = a at ha
    have hxb := Ho.out.sm x (List.mem_of_getElem? hx)
    have hab := Ho.out.st a (List.mem_of_getElem? ha)
    obtain ⟨bl, ol, rfl, hcl⟩ := Hl.out k x hx
    obtain ⟨bs, os, rfl, hcs⟩ := Hst.out k a ha
    have c0 : wr.cell? ⟨bl, ol + k * 4, none⟩ = some (.string x.name) := kcell hbr (hcl 0 _ rfl)
    have c1 : wr.cell? ⟨bl, ol + k * 4 + 1, none⟩ = some (.int .i64 x.per) := kcell hbr (hcl 1 _ rfl)
    have c2 : wr.cell? ⟨bl, ol + k * 4 + 2, none⟩ = some (.int .i64 x.dl) := kcell hbr (hcl 2 _ rfl)
    have c3 : wr.cell? ⟨bl, ol + k * 4 + 3, none⟩ = some (.int .i64 x.len) := kcell hbr (hcl 3 _ rfl)
    have c4 : wr.cell? ⟨bs, os + k, none⟩ = some (.int .i64 a) := by have := kcell hbr (hcs 0 _ rfl); simpa using this
    have c5 : wr.cell? ⟨S, 1, none⟩ = some (.slice (some ⟨bs, os, none⟩) n cs) := by rw [h1.blk.cell]; rfl
    clear hcl hcs
    go_upto_region 3 with fail
    have kS := h1.blk
    have hS2 : Hid (∀ W : World, Below wr.heap.size wr W → W.cell? ⟨S, 1, none⟩ = some (.slice (some ⟨bs, os, none⟩) n cs) ∧ W.cell? ⟨bs, os + k, none⟩ = some (.int .i64 a)) := fun W hb => ⟨kcell hb c5, kcell hb c4⟩
    have kR : Blk wr S tSnd (cSnd (.slice (some ⟨bl, ol, none⟩) n cl) (.slice (some ⟨bs, os, none⟩) n cs) (vQ Q' (sendTo l st t s.q k)) (.slice (some ⟨Bw, 0, none⟩) n n)) := h1.blk
    clear c0 c1 c2 c3 c4 c5
    first
    | apply absB1 (w0 := wr) (g0 := wr.heap.size)
    | apply absTB1 (w0 := wr) (g0 := wr.heap.size)
    | apply absIB1 (w0 := wr) (g0 := wr.heap.size)
    iterate 2 (focus ((with_reducible (repeat' (first | assumption | apply jA | apply jB | apply jC | apply jD | apply jE | apply jF | apply hb3 | apply jG | apply jH | apply jI | apply jJ | apply jK | apply hb3x | (apply jL; first | (simp; done) | rfl) | apply jM | apply jN | apply jO | apply jP | apply jQ | apply jR | apply jS | apply jT (hb := hb3 _ (jA _)) | omega | (simp; done) | (simp; omega) | (dsimp only; omega)))); done))
    intro wa hb0' k5'
    (try simp only [List.setIfInBounds_toArray, List.set_cons_zero, List.set_cons_succ] at k5')
    try clear hb3
    try clear hb0
    try clear k5
    have hb0 := hb0'; clear hb0'
    have k5 := k5'; clear k5'
    have hrel : relB l st t k = (decide (a ≤ (t : Int)) && decide (((t : Int) - a) % x.per = 0)) := by simp [relB, hx, ha]
    have hla : lenAt l k = x.len := by simp [lenAt, hx]
    have C1 := (hS2.out wa hb0).1
    have C2 := (hS2.out wa hb0).2
    have L5 := k5.cell
    have hper : ¬ x.per = 0 := by omega
    by_cases c1 : a ≤ (t : Int)
    · have hmod : ((t : Int) - a).tmod x.per = ((t : Int) - a) % x.per := Int.tmod_eq_emod_of_nonneg (by omega)
      by_cases c2 : ((t : Int) - a) % x.per = 0
      · have e : relB l st t k = true := by rw [hrel]; simp [c1, c2]
        go_upto_region 5 with fail
        have LS : ∀ W, Below wa.heap.size wa W → W.cell? ⟨S, 2 + k, none⟩ = some (.slice (Q.A k) (s.q k).length (Q'.c k)) := fun W hb => by
          rw [((kR.below hb0).below hb).cell, cSnd_at _ _ _ _ _ (by omega)]
          simp only [vQ, sendTo_at, h3 k (Nat.le_refl k)]
        have HQ := Lib.hid fun W (hb : Below wa.heap.size wa W) => (show Qu W w0.heap.size k (Q.A k) (Q'.c k) (s.q k) by have := ((h1.que k (by omega)).below hb0).below hb; simpa only [sendTo_at, h3 k (Nat.le_refl k)] using this)
        have HS := Lib.hid fun W (hb : Below wa.heap.size wa W) => (kR.below hb0).below hb
        have hdk : S ∉ blA (Q.A k) := by have := h1.dS k (by omega); rwa [h3 k (Nat.le_refl k)] at this
        have hwa : w0.heap.size ≤ wa.heap.size := Nat.le_trans hbr.size hb0.size
        have hk6 : k < 6 := by omega
        have hk7 : (k : Int) < 6 := by omega
        clear C1 C2 c1 c2 hrel L5
        have Lk5 := k5.later
        have Fk5 := k5.laterF
        have Qk5 := k5.lt
        refine wp_any (w0 := wa) ⟨[14, 17, 18], [0, 1, 15, 16], [some 35, some 36, some 37, some 38, some 39, some 40, some 41, some 42, some 43, some 44, some 45, some 46, some 47, some 48, none, some 50, some 51, none, none], [[], [], [], [], [2], [2, 4], [2, 3, 4, 5], [2, 3, 4, 5, 6], [], [], [], [10], [8, 9, 10, 11], [8, 9, 10, 11, 12], [2, 3, 4, 5, 6, 7, 8, 9, 10, 11, 12, 13], [0], [0, 15], [0, 1, 2, 3, 4, 5, 6, 7, 8, 9, 10, 11, 12, 13, 14, 15, 16], []], [[], [], [], [], [2], [4], [3, 5], [6], [], [], [], [10], [8, 9, 11], [12], [7, 13], [0], [15], [1, 16], []]⟩ (fun _ => S :: blA (Q.A k)) (by kernel_rfl) (by kernel_rfl) (by (with_reducible (repeat' (first | assumption | apply jA | apply jB | apply jC | apply jD | apply jE | apply jF | apply hb3 | omega | (simp; done) | (simp; omega) | (dsimp only; omega))))) (fun u => by simp only [putD, Act.put, List.setIfInBounds_toArray, List.set_cons_zero, List.set_cons_succ, Nat.zero_add, Nat.reduceAdd]; rfl) ?_
        apply RGW.onL (i := 0) rfl
        · (simp only [gA, gB, gC] <;> rfl)
        · intro γ u Wm W hcur hd hX
          clear hd
          (try dsimp only)
          refine ⟨rfl, ?_⟩
          go_simp <;> (try go_bits) <;> with_reducible rfl
        · exact fun _ _ _ => rfl
        dsimp only [nA, cA]
        apply RGW.onL (i := 1) rfl
        · (simp only [gA, gB, gC] <;> rfl)
        · intro γ u Wm W hcur hd hX
          clear hd
          (try dsimp only)
          refine ⟨rfl, ?_⟩
          go_simp <;> (try go_bits) <;> with_reducible rfl
        · exact fun _ _ _ => rfl
        dsimp only [nA, cA]
        apply RGW.on (i := 2) rfl
        · (simp only [gA, gB, gC] <;> rfl)
        · intro γ u W hcur hd
          clear hd
          (try dsimp only)
          refine ⟨rfl, ?_⟩
          go_simp <;> (try go_bits) <;> with_reducible rfl
        · exact fun _ _ _ => rfl
        · rfl
        dsimp only [nA, cA]
        apply RGW.on (i := 3) rfl
        · (simp only [gA, gB, gC] <;> rfl)
        · intro γ u W hcur hd
          clear hd
          (try dsimp only)
          refine ⟨rfl, ?_⟩
          go_simp <;> (try go_bits) <;> with_reducible rfl
        · exact fun _ _ _ => rfl
        · rfl
        dsimp only [nA, cA]
        apply RGW.on (i := 4) rfl
        · (simp only [gA, gB, gC] <;> rfl)
        · intro γ u W hcur hd
          obtain ⟨⟨h2, -, -⟩, -⟩ := hd
          dsimp only at h2
          (try simp only [h2])
          refine ⟨rfl, ?_⟩
          go_simp <;> (try go_bits) <;> with_reducible rfl
        · exact fun _ _ _ => rfl
        · rfl
        dsimp only [nA, cA]
        apply RGW.on (i := 5) rfl
        · (simp only [gA, gB, gC] <;> rfl)
        · intro γ u W hcur hd
          obtain ⟨⟨h4, -, -⟩, -⟩ := hd
          dsimp only at h4
          (try simp only [h4])
          refine ⟨rfl, ?_⟩
          go_simp <;> (try go_bits) <;> with_reducible rfl
        · exact fun _ _ _ => rfl
        · rfl
        dsimp only [nA, cA]
        apply RGW.on (i := 6) rfl
        · (simp only [gA, gB, gC] <;> rfl)
        · intro γ u W hcur hd
          obtain ⟨⟨h3, -, -⟩, ⟨h5, -, -⟩, -⟩ := hd
          dsimp only at h3 h5
          (try simp only [h3, h5])
          refine ⟨rfl, ?_⟩
          go_simp <;> (try go_bits) <;> with_reducible rfl
        · exact fun _ _ _ => rfl
        · rfl
        dsimp only [nA, cA]
        apply RGW.on (i := 7) rfl
        · (simp only [gA, gB, gC] <;> rfl)
        · intro γ u W hcur hd
          obtain ⟨⟨h6, -, -⟩, -⟩ := hd
          dsimp only at h6
          (try simp only [h6])
          refine ⟨rfl, ?_⟩
          go_simp <;> (try go_bits) <;> with_reducible rfl
        · exact fun _ _ _ => rfl
        · rfl
        dsimp only [nA, cA]
        apply RGW.on (i := 8) rfl
        · (simp only [gA, gB, gC] <;> rfl)
        · intro γ u W hcur hd
          clear hd
          (try dsimp only)
          refine ⟨rfl, ?_⟩
          go_simp <;> (try go_bits) <;> with_reducible rfl
        · exact fun _ _ _ => rfl
        · rfl
        dsimp only [nA, cA]
        apply RGW.on (i := 9) rfl
        · (simp only [gA, gB, gC] <;> rfl)
        · intro γ u W hcur hd
          clear hd
          (try dsimp only)
          refine ⟨rfl, ?_⟩
          go_simp <;> (try go_bits) <;> with_reducible rfl
        · exact fun _ _ _ => rfl
        · rfl
        dsimp only [nA, cA]
        apply RGW.on (i := 10) rfl
        · (simp only [gA, gB, gC] <;> rfl)
        · intro γ u W hcur hd
          clear hd
          (try dsimp only)
          refine ⟨rfl, ?_⟩
          go_simp <;> (try go_bits) <;> with_reducible rfl
        · exact fun _ _ _ => rfl
        · rfl
        dsimp only [nA, cA]
        apply RGW.on (i := 11) rfl
        · (simp only [gA, gB, gC] <;> rfl)
        · intro γ u W hcur hd
          obtain ⟨⟨h10, -, -⟩, -⟩ := hd
          dsimp only at h10
          (try simp only [h10])
          refine ⟨rfl, ?_⟩
          go_simp <;> (try go_bits) <;> with_reducible rfl
        · exact fun _ _ _ => rfl
        · rfl
        dsimp only [nA, cA]
        apply RGW.on (i := 12) rfl
        · (simp only [gA, gB, gC] <;> rfl)
        · intro γ u W hcur hd
          obtain ⟨⟨h8, -, -⟩, ⟨h9, -, -⟩, ⟨h11, -, -⟩, -⟩ := hd
          dsimp only at h8 h9 h11
          (try simp only [h8, h9, h11])
          refine ⟨rfl, ?_⟩
          go_simp <;> (try go_bits) <;> with_reducible rfl
        · exact fun _ _ _ => rfl
        · rfl
        dsimp only [nA, cA]
        apply RGW.bslice (i := 13) rfl
        · (simp only [gA, gB, gC] <;> rfl)
        · intro γ u W hcur hd
          obtain ⟨⟨h12, -, -⟩, -⟩ := hd
          dsimp only at h12
          (try simp only [h12])
          refine ⟨rfl, fun K hK => ?_⟩
          go_simp
          exact hK.out _ _ rfl rfl
        · exact fun _ _ _ => rfl
        · rfl
        · rfl
        dsimp only [nA, cA]
        refine RGW.skip (i := 14) rfl rfl ?_
        dsimp only [nA, cA]
        apply RGW.onL (i := 15) rfl
        · (simp only [gA, gB, gC] <;> rfl)
        · intro γ u Wm W hcur hd hX
          obtain ⟨⟨h0, -, -⟩, -⟩ := hd
          dsimp only at h0
          (try simp only [h0])
          refine ⟨rfl, ?_⟩
          go_simp <;> (try go_bits) <;> with_reducible rfl
        · exact fun _ _ _ => rfl
        dsimp only [nA, cA]
        apply RGW.onL (i := 16) rfl
        · (simp only [gA, gB, gC] <;> rfl)
        · intro γ u Wm W hcur hd hX
          obtain ⟨⟨h15, -, -⟩, -⟩ := hd
          dsimp only at h15
          (try simp only [h15])
          refine ⟨rfl, ?_⟩
          go_simp <;> (try go_bits) <;> with_reducible rfl
        · exact fun _ _ _ => rfl
        dsimp only [nA, cA]
        refine RGW.skip (i := 17) rfl rfl ?_
        dsimp only [nA, cA]
        refine RGW.skip (i := 18) rfl rfl ?_
        dsimp only [nA, cA]
        refine RGW.fin (fun γ u wb hwb hd hdis => ?_)
        obtain ⟨⟨h0, -, -⟩, ⟨h1, -, -⟩, ⟨h2, -, -⟩, ⟨h3, -, -⟩, ⟨h4, -, -⟩, ⟨h5, -, -⟩, ⟨h6, -, -⟩, ⟨h7, -, -⟩, ⟨h8, -, -⟩, ⟨h9, -, -⟩, ⟨h10, -, -⟩, ⟨h11, -, -⟩, ⟨h12, -, -⟩, ⟨h13, r13, b13⟩, ⟨h15, -, -⟩, ⟨h16, -, -⟩, -⟩ := hd
        dsimp only at h0 h1 h2 h3 h4 h5 h6 h7 h8 h9 h10 h11 h12 h13 h15 h16 r13 b13
        clear hdis
        simp only [h0, h1, h2, h3, h4, h5, h6, h7, h8, h9, h10, h11, h12, h13, h15, h16]
        clear h16 h15 h13 h12 h11 h10 h9 h8 h7 h6 h5 h4 h3 h2 h1 h0
        replace b13 := b13 _ (List.mem_singleton.2 rfl)
        generalize hγ13 : (γ 13).n = g13 at *
        clear hγ13
        clear u
        simp only [List.map_cons, List.map_nil]
        apply PlanW.step
        · (simp only [gA, gB, gC] <;> rfl)
        · rfl
        intro K hK
        (refine wp_qu (i := k) (t := t) (n := x.len) (Operand.tmp 42) (Operand.tmp 48) rfl rfl rfl rfl (HQ.out wb hwb) (Nat.le_trans hwa hwb.size) r13 (Nat.le_trans (Hq.out k) (by decide)) ?_; intro A' c' w' hq' hbx' hA'; refine hK.out _ _ (bx_sub hbx' (fun g hg => List.mem_cons_of_mem _ hg)) (fun hcur => ?_); have u0 : w'.cell? ⟨S, 2 + k, none⟩ = some (vQ Q' (sendTo l st t s.q k) k) := (by rw [((HS.out wb hwb).keep hdk hbx').cell, cSnd_at _ _ _ _ _ hk6]); have z0 : w'.frozen? ⟨S, 2 + k, none⟩ = false := ((HS.out wb hwb).keep hdk hbx').frozen _)
        clear hK K
        try simp only [Act.put, List.setIfInBounds_toArray, List.set_cons_zero, List.set_cons_succ]
        apply PlanW.step
        · (simp only [gA, gB, gC] <;> rfl)
        · rfl
        intro K hK
        go_simp
        refine hK.out _ _ (by with_reducible first | assumption | exact bx_refl _ _) (fun hcur => ?_)
        clear hK K
        try simp only [Act.put, List.setIfInBounds_toArray, List.set_cons_zero, List.set_cons_succ]
        apply PlanW.step
        · (simp only [gA, gB, gC] <;> rfl)
        · rfl
        intro K hK
        first
        | refine wp_store_keep (X := S :: blA (Q.A k)) (w0 := wb) rfl rfl rfl (by with_reducible first | exact bx_refl _ _ | assumption) (by with_reducible first | assumption | (apply Blk.below (hb := hwb); assumption)) (by simp) (by kernel_rfl) (by rfl) (by simp [Value.oneCell']) (fun hres1 hcur => ?_)
          refine hK.out _ _ hcur (fun _ => ?_)
        | go_simp
          refine hK.out _ _ (by (with_reducible (repeat' (first | assumption | apply jG | apply jH | apply jI | apply jJ | apply jK | apply hb3x | omega | (simp; done) | (simp; omega) | (dsimp only; omega))))) (fun hcur => ?_)
        | obtain ⟨u0, v0, z0⟩ := bx_cell0 hcur (Blk.below k5 hwb) (by simp)
          go_simp
          refine hK.out _ _ (by (with_reducible (repeat' (first | assumption | apply jG | apply jH | apply jI | apply jJ | apply jK | apply hb3x | omega | (simp; done) | (simp; omega) | (dsimp only; omega))))) (fun hcur => ?_)
        | obtain ⟨u0, v0, z0⟩ := bx_cell0 (X := S :: blA (Q.A k)) (w0 := wb) (by with_reducible first | assumption | exact bx_refl _ _) r13 (by simp)
          go_simp
          refine hK.out _ _ (by (with_reducible (repeat' (first | assumption | apply jG | apply jH | apply jI | apply jJ | apply jK | apply hb3x | omega | (simp; done) | (simp; omega) | (dsimp only; omega))))) (fun hcur => ?_)
        clear hK K
        try simp only [Act.put, List.setIfInBounds_toArray, List.set_cons_zero, List.set_cons_succ]
        refine PlanW.done ?_
        have hb3 := bl_tt hwb
        have hAk := h3 k (Nat.le_refl k)
        have hws : w.heap.size ≤ wb.heap.size := Nat.le_trans h2.size (Nat.le_trans hb0.size hwb.size)
        obtain ⟨hS', hX'⟩ := Snd.put (w := wb) (w1 := w') ((h1.below hb0).below hwb) hk6 hq' (by rw [hAk]; exact hbx') (by rw [hAk]; exact hA') rfl
        have hll : (s.q k ++ [((t : Int), x.len)]).length = (s.q k).length + 1 := by simp
        rw [hll] at hS' hX'
        rw [hAk] at hX'
        have h2' : BX (foot S Bw Q) w (w'.setCell ⟨S, 2 + k, none⟩ (.slice A' ((s.q k).length + 1) c')) := (h2.step (bl_tr hb0 hwb)).trans (bx_sub hX' (fun g hg => by
          rcases List.mem_cons.1 hg with rfl | hg
          · simp [foot]
          · exact foot_q hk6 hg))
        generalize w'.setCell ⟨S, 2 + k, none⟩ (.slice A' ((s.q k).length + 1) c') = w2 at *
        clear hX' hcur hq' hbx' u0 z0 hS2 LS HQ HS
        go_wp2
        go_roundw
        case rel =>
          refine ⟨k + 1, by omega, by go_num, _, by rw [sendTo_on e, hla]; exact hS', h2', fun i hi => ?_, fun i hi => ?_⟩
          · simp only [upF, if_neg (show i ≠ k by omega)]
            exact h3 i (by omega)
          · simp only [upF]
            split
            · rename_i hik
              rw [hik]
              rcases hA' with h | ⟨g, hg, hg2⟩
              · exact .inl h
              · exact .inr ⟨g, hg, by omega⟩
            · exact h4 i hi
        case measure => simp [intOf]; omega
      · have e : relB l st t k = false := by rw [hrel]; simp [c2]
        go_wp2
        go_roundw
        case rel => exact ⟨k + 1, by omega, by go_num, Q', by rw [sendTo_off e]; exact h1.below hb0, h2.step hb0, fun i hi => h3 i (by omega), h4⟩
        case measure => simp [intOf]; omega
    · have e : relB l st t k = false := by rw [hrel]; simp [c1]
      go_wp2
      go_roundw
      case rel => exact ⟨k + 1, by omega, by go_num, Q', by rw [sendTo_off e]; exact h1.below hb0, h2.step hb0, fun i hi => h3 i (by omega), h4⟩
      case measure => simp [intOf]; omega
end Go.Proofs.YtdlmkblmljhbfaaDoor
