/-
  Walks: a sender's tick: what is sent, what is carried.
  A sender's queues and worst responses turned: one frame less, one message less, a worst response.
  Walks: the first stream that has frames left. (Printed by gen_prio.py.)
  Walks: a sender's tick: what is carried.
  Walks: which streams are valid.
  Walks: a sender is opened.
  Plain laws of silence: the ranges ascend without neighbours; a longer timeout leaves no further tick silent.
  Walks: the ranges of ticks at which a source is silent.
  Walks: a sender's run; what is carried at each tick.
-/
import Derived.Test.YtdlmkblmljhbfaaDoorU3
import Derived.Shelf.Abstract
import Derived.Test.YtdlmkblmljhbfaaDoorU2
import Derived.Laws.EntriesVeiled
import Derived.Maps.AppendAt
namespace Go.Proofs.YtdlmkblmljhbfaaDoor
set_option linter.unusedSimpArgs false
set_option linter.unusedVariables false
open Go.RowKit Go.Shelf
attribute [local go_sem] bl_al bl_drew bl_drewN bl_refl bx_al bx_drew bx_drewN bx_refl
set_option maxRecDepth 20000
def sendTo (l : List Sm) (st : List Int) (t : Int) (q : Nat → List (Int × Int)) (k : Nat) : Nat → List (Int × Int) := fun i => if i < k then sendS l st t q i else q i
theorem sendTo_zero (l : List Sm) (st : List Int) (t : Int) (q : Nat → List (Int × Int)) : sendTo l st t q 0 = q := by funext i; simp [sendTo]
theorem sendTo_len (l : List Sm) (st : List Int) (t : Int) (q : Nat → List (Int × Int)) : sendTo l st t q l.length = sendS l st t q := by
  funext i
  unfold sendTo
  split
  · rfl
  · rename_i h
    have : l[i]? = none := List.getElem?_eq_none (by omega)
    simp [sendS, relB, this]
theorem sendTo_at (l : List Sm) (st : List Int) (t : Int) (q : Nat → List (Int × Int)) (k : Nat) : sendTo l st t q k k = q k := by simp [sendTo]
theorem sendTo_off {l : List Sm} {st : List Int} {t : Int} {q : Nat → List (Int × Int)} {k : Nat} (h : relB l st t k = false) : sendTo l st t q (k + 1) = sendTo l st t q k := by
  funext i
  unfold sendTo
  by_cases h1 : i < k
  · rw [if_pos (by omega), if_pos h1]
  · rw [if_neg h1]
    by_cases h2 : i = k
    · subst h2; rw [if_pos (by omega)]; simp [sendS, h]
    · rw [if_neg (by omega)]
theorem sendTo_on {l : List Sm} {st : List Int} {t : Int} {q : Nat → List (Int × Int)} {k : Nat} (h : relB l st t k = true) : sendTo l st t q (k + 1) = upF (sendTo l st t q k) k (q k ++ [(t, lenAt l k)]) := by
  funext i
  unfold sendTo upF
  dsimp only
  by_cases h1 : i < k
  · rw [if_pos (by omega), if_neg (by omega), if_pos h1]
  · by_cases h2 : i = k
    · subst h2; rw [if_pos (by omega), if_pos rfl]; simp [sendS, h]
    · rw [if_neg (by omega), if_neg h2, if_neg h1]
/-- Streams and starts of a sender that was opened. -/
structure Opn (l : List Sm) (st : List Int) : Prop where
  len : l.length ≤ 6
  slen : st.length = l.length
  sm : ∀ x ∈ l, 1 ≤ x.per ∧ x.per ≤ 60 ∧ 1 ≤ x.dl ∧ x.dl ≤ x.per ∧ 1 ≤ x.len ∧ x.len ≤ 20
  st : ∀ a ∈ st, 0 ≤ a ∧ a ≤ 400
/-- What a call leaves of a sender that it turns. -/
def Turn (b S Bw : Nat) (vl vs : Value) (n : Nat) (Q : QS) (s' : Ss) (w w' : World) : Prop :=
  ∃ Q', Snd b S Bw vl vs n Q' s' w' ∧ BX (foot S Bw Q) w w' ∧ ∀ i, i < 6 → blA (Q'.A i) = blA (Q.A i) ∨ ∃ g, blA (Q'.A i) = [g] ∧ w.heap.size ≤ g
set_option maxHeartbeats 8000000 in
theorem c_send (l : List Sm) (st : List Int) (t : Nat) (Al As : Option Addr) (cl cs S Bw : Nat) (Q : QS) (s : Ss) (w0 w : World) (ho : Opn l st) (ht : t ≤ 400) (hw : Below w0.heap.size w0 w) (hl : Sl cSm 4 w0 Al l) (hst : Sl cI 1 w0 As st)
    (h : Snd w0.heap.size S Bw (.slice Al l.length cl) (.slice As st.length cs) l.length Q s w) (hq : ∀ i, (s.q i).length ≤ 900) :
    Calls Tryd.prog 150 #[.pointer (some ⟨S, 0, none⟩), .int .i64 t] w (fun e w' => (∃ v, e = .returned v) ∧ Turn w0.heap.size S Bw (.slice Al l.length cl) (.slice As st.length cs) l.length Q ⟨sendS l st t s.q, s.wo⟩ w w') := by
  obtain ⟨n, Hn⟩ : ∃ n, Hid (l.length = n) := ⟨_, rfl⟩
  have hlen := ho.len
  rw [ho.slen] at h ⊢
  rw [Hn.out] at h hlen ⊢
  have Ho := Lib.hid ho
  have Hl := Lib.hid hl
  have Hst := Lib.hid hst
  have Hq := Lib.hid hq
  have Hw := Lib.hid hw
  clear ho hl hst hq hw
  have hfb : Hid (∀ x ∈ foot S Bw Q, w0.heap.size ≤ x) := fun x hx => by
    simp only [foot, List.mem_cons, List.mem_flatMap, List.mem_range] at hx
    rcases hx with rfl | rfl | ⟨i, hi, hx⟩
    · exact h.bS
    · exact h.bW
    · exact ((h.que i hi).ge x hx).1
  have H := Lib.hid h
  have C0 : w.cell? ⟨S, 0, none⟩ = some (.slice Al n cl) := by rw [h.blk.cell]; rfl
  clear h
  go_enter Tryd.func150, Tryd.ntmps150
  go_wp2
  clear C0
  go_loopw [12] (fun k wr => ∃ j : Nat, j ≤ n ∧ k = .int .i64 j ∧ ∃ Q' : QS, Snd w0.heap.size S Bw (.slice Al n cl) (.slice As n cs) n Q' ⟨sendTo l st t s.q j, s.wo⟩ wr ∧ BX (foot S Bw Q) w wr ∧ (∀ i, j ≤ i → Q'.A i = Q.A i) ∧
    ∀ i, i < 6 → blA (Q'.A i) = blA (Q.A i) ∨ ∃ g, blA (Q'.A i) = [g] ∧ w.heap.size ≤ g) (fun k _ => n - (intOf k).toNat)
  case atStart => exact ⟨0, Nat.zero_le _, rfl, Q, by rw [sendTo_zero]; exact H.out, bx_refl _ _, fun _ _ => rfl, fun _ _ => .inl rfl⟩
  case round =>
    obtain ⟨k, hk, rfl, Q', h1, h2, h3, h4⟩ := hrel
    by_cases hkn : k < n
    rotate_left
    · go_wp2
      have e : k = n := by omega
      subst e
      rw [← Hn.out, sendTo_len, Hn.out] at h1
      go_end0
      exact ⟨⟨_, rfl⟩, Q', h1, h2, h4⟩
    have hbr := bx_below Hw.out h2 hfb.out
    have hx : l[k]? = some (l[k]'(by rw [Hn.out]; exact hkn)) := List.getElem?_eq_getElem _
    generalize l[k]'(by rw [Hn.out]; exact hkn) = x at hx
    have ha : st[k]? = some (st[k]'(by rw [Ho.out.slen, Hn.out]; exact hkn)) := List.getElem?_eq_getElem _
    generalize st[k]'(by rw [Ho.out.slen, Hn.out]; exact hkn) = a at ha
    have hxb := Ho.out.sm x (List.mem_of_getElem? hx)
    have hab := Ho.out.st a (List.mem_of_getElem? ha)
    obtain ⟨bl, ol, rfl, hcl⟩ := Hl.out k x hx
    obtain ⟨bs, os, rfl, hcs⟩ := Hst.out k a ha
    have c0 : wr.cell? ⟨bl, ol + k * 4, none⟩ = some (.string x.name) := kcell hbr (hcl 0 _ rfl)
    have c1 : wr.cell? ⟨bl, ol + k * 4 + 1, none⟩ = some (.int .i64 x.per) := kcell hbr (hcl 1 _ rfl)
    have c2 : wr.cell? ⟨bl, ol + k * 4 + 2, none⟩ = some (.int .i64 x.dl) := kcell hbr (hcl 2 _ rfl)
    have c3 : wr.cell? ⟨bl, ol + k * 4 + 3, none⟩ = some (.int .i64 x.len) := kcell hbr (hcl 3 _ rfl)
    have c4 : wr.cell? ⟨bs, os + k, none⟩ = some (.int .i64 a) := by have := kcell hbr (hcs 0 _ rfl); simpa using this
    have c5 : wr.cell? ⟨S, 1, none⟩ = some (.slice (some ⟨bs, os, none⟩) n cs) := by rw [h1.blk.cell]; rfl
    clear hcl hcs
    go_upto_region 3 with fail
    have kS := h1.blk
    have hS2 : Hid (∀ W : World, Below wr.heap.size wr W → W.cell? ⟨S, 1, none⟩ = some (.slice (some ⟨bs, os, none⟩) n cs) ∧ W.cell? ⟨bs, os + k, none⟩ = some (.int .i64 a)) := fun W hb => ⟨kcell hb c5, kcell hb c4⟩
    have kR : Blk wr S tSnd (cSnd (.slice (some ⟨bl, ol, none⟩) n cl) (.slice (some ⟨bs, os, none⟩) n cs) (vQ Q' (sendTo l st t s.q k)) (.slice (some ⟨Bw, 0, none⟩) n n)) := h1.blk
    clear c0 c1 c2 c3 c4 c5
    first
    | apply absB1 (w0 := wr) (g0 := wr.heap.size)
    | apply absTB1 (w0 := wr) (g0 := wr.heap.size)
    | apply absIB1 (w0 := wr) (g0 := wr.heap.size)
    iterate 2 (focus ((with_reducible (repeat' (first | assumption | apply jA | apply jB | apply jC | apply jD | apply jE | apply jF | apply hb3 | apply jG | apply jH | apply jI | apply jJ | apply jK | apply hb3x | (apply jL; first | (simp; done) | rfl) | apply jM | apply jN | apply jO | apply jP | apply jQ | apply jR | apply jS | apply jT (hb := hb3 _ (jA _)) | omega | (simp; done) | (simp; omega) | (dsimp only; omega)))); done))
    intro wa hb0' k5'
    (try simp only [List.setIfInBounds_toArray, List.set_cons_zero, List.set_cons_succ] at k5')
    try clear hb3
    try clear hb0
    try clear k5
    have hb0 := hb0'; clear hb0'
    have k5 := k5'; clear k5'
    have hrel : relB l st t k = (decide (a ≤ (t : Int)) && decide (((t : Int) - a) % x.per = 0)) := by simp [relB, hx, ha]
    have hla : lenAt l k = x.len := by simp [lenAt, hx]
    have C1 := (hS2.out wa hb0).1
    have C2 := (hS2.out wa hb0).2
    have L5 := k5.cell
    have hper : ¬ x.per = 0 := by omega
    by_cases c1 : a ≤ (t : Int)
    · have hmod : ((t : Int) - a).tmod x.per = ((t : Int) - a) % x.per := Int.tmod_eq_emod_of_nonneg (by omega)
      by_cases c2 : ((t : Int) - a) % x.per = 0
      · have e : relB l st t k = true := by rw [hrel]; simp [c1, c2]
        go_upto_region 5 with fail
        have LS : ∀ W, Below wa.heap.size wa W → W.cell? ⟨S, 2 + k, none⟩ = some (.slice (Q.A k) (s.q k).length (Q'.c k)) := fun W hb => by
          rw [((kR.below hb0).below hb).cell, cSnd_at _ _ _ _ _ (by omega)]
          simp only [vQ, sendTo_at, h3 k (Nat.le_refl k)]
        have HQ := Lib.hid fun W (hb : Below wa.heap.size wa W) => (show Qu W w0.heap.size k (Q.A k) (Q'.c k) (s.q k) by have := ((h1.que k (by omega)).below hb0).below hb; simpa only [sendTo_at, h3 k (Nat.le_refl k)] using this)
        have HS := Lib.hid fun W (hb : Below wa.heap.size wa W) => (kR.below hb0).below hb
        have hdk : S ∉ blA (Q.A k) := by have := h1.dS k (by omega); rwa [h3 k (Nat.le_refl k)] at this
        have hwa : w0.heap.size ≤ wa.heap.size := Nat.le_trans hbr.size hb0.size
        have hk6 : k < 6 := by omega
        have hk7 : (k : Int) < 6 := by omega
        clear C1 C2 c1 c2 hrel L5
        have Lk5 := k5.later
        have Fk5 := k5.laterF
        have Qk5 := k5.lt
        refine wp_any (w0 := wa) ⟨[14, 17, 18], [0, 1, 15, 16], [some 35, some 36, some 37, some 38, some 39, some 40, some 41, some 42, some 43, some 44, some 45, some 46, some 47, some 48, none, some 50, some 51, none, none], [[], [], [], [], [2], [2, 4], [2, 3, 4, 5], [2, 3, 4, 5, 6], [], [], [], [10], [8, 9, 10, 11], [8, 9, 10, 11, 12], [2, 3, 4, 5, 6, 7, 8, 9, 10, 11, 12, 13], [0], [0, 15], [0, 1, 2, 3, 4, 5, 6, 7, 8, 9, 10, 11, 12, 13, 14, 15, 16], []], [[], [], [], [], [2], [4], [3, 5], [6], [], [], [], [10], [8, 9, 11], [12], [7, 13], [0], [15], [1, 16], []]⟩ (fun _ => S :: blA (Q.A k)) (by kernel_rfl) (by kernel_rfl) (by (with_reducible (repeat' (first | assumption | apply jA | apply jB | apply jC | apply jD | apply jE | apply jF | apply hb3 | omega | (simp; done) | (simp; omega) | (dsimp only; omega))))) (fun u => by simp only [putD, Act.put, List.setIfInBounds_toArray, List.set_cons_zero, List.set_cons_succ, Nat.zero_add, Nat.reduceAdd]; rfl) ?_
        apply RGW.onL (i := 0) rfl
        · (simp only [gA, gB, gC] <;> rfl)
        · intro γ u Wm W hcur hd hX
          clear hd
          (try dsimp only)
          refine ⟨rfl, ?_⟩
          go_simp <;> (try go_bits) <;> with_reducible rfl
        · exact fun _ _ _ => rfl
        dsimp only [nA, cA]
        apply RGW.onL (i := 1) rfl
        · (simp only [gA, gB, gC] <;> rfl)
        · intro γ u Wm W hcur hd hX
          clear hd
          (try dsimp only)
          refine ⟨rfl, ?_⟩
          go_simp <;> (try go_bits) <;> with_reducible rfl
        · exact fun _ _ _ => rfl
        dsimp only [nA, cA]
        apply RGW.on (i := 2) rfl
        · (simp only [gA, gB, gC] <;> rfl)
        · intro γ u W hcur hd
          clear hd
          (try dsimp only)
          refine ⟨rfl, ?_⟩
          go_simp <;> (try go_bits) <;> with_reducible rfl
        · exact fun _ _ _ => rfl
        · rfl
        dsimp only [nA, cA]
        apply RGW.on (i := 3) rfl
        · (simp only [gA, gB, gC] <;> rfl)
        · intro γ u W hcur hd
          clear hd
          (try dsimp only)
          refine ⟨rfl, ?_⟩
          go_simp <;> (try go_bits) <;> with_reducible rfl
        · exact fun _ _ _ => rfl
        · rfl
        dsimp only [nA, cA]
        apply RGW.on (i := 4) rfl
        · (simp only [gA, gB, gC] <;> rfl)
        · intro γ u W hcur hd
          obtain ⟨⟨h2, -, -⟩, -⟩ := hd
          dsimp only at h2
          (try simp only [h2])
          refine ⟨rfl, ?_⟩
          go_simp <;> (try go_bits) <;> with_reducible rfl
        · exact fun _ _ _ => rfl
        · rfl
        dsimp only [nA, cA]
        apply RGW.on (i := 5) rfl
        · (simp only [gA, gB, gC] <;> rfl)
        · intro γ u W hcur hd
          obtain ⟨⟨h4, -, -⟩, -⟩ := hd
          dsimp only at h4
          (try simp only [h4])
          refine ⟨rfl, ?_⟩
          go_simp <;> (try go_bits) <;> with_reducible rfl
        · exact fun _ _ _ => rfl
        · rfl
        dsimp only [nA, cA]
        apply RGW.on (i := 6) rfl
        · (simp only [gA, gB, gC] <;> rfl)
        · intro γ u W hcur hd
          obtain ⟨⟨h3, -, -⟩, ⟨h5, -, -⟩, -⟩ := hd
          dsimp only at h3 h5
          (try simp only [h3, h5])
          refine ⟨rfl, ?_⟩
          go_simp <;> (try go_bits) <;> with_reducible rfl
        · exact fun _ _ _ => rfl
        · rfl
        dsimp only [nA, cA]
        apply RGW.on (i := 7) rfl
        · (simp only [gA, gB, gC] <;> rfl)
        · intro γ u W hcur hd
          obtain ⟨⟨h6, -, -⟩, -⟩ := hd
          dsimp only at h6
          (try simp only [h6])
          refine ⟨rfl, ?_⟩
          go_simp <;> (try go_bits) <;> with_reducible rfl
        · exact fun _ _ _ => rfl
        · rfl
        dsimp only [nA, cA]
        apply RGW.on (i := 8) rfl
        · (simp only [gA, gB, gC] <;> rfl)
        · intro γ u W hcur hd
          clear hd
          (try dsimp only)
          refine ⟨rfl, ?_⟩
          go_simp <;> (try go_bits) <;> with_reducible rfl
        · exact fun _ _ _ => rfl
        · rfl
        dsimp only [nA, cA]
        apply RGW.on (i := 9) rfl
        · (simp only [gA, gB, gC] <;> rfl)
        · intro γ u W hcur hd
          clear hd
          (try dsimp only)
          refine ⟨rfl, ?_⟩
          go_simp <;> (try go_bits) <;> with_reducible rfl
        · exact fun _ _ _ => rfl
        · rfl
        dsimp only [nA, cA]
        apply RGW.on (i := 10) rfl
        · (simp only [gA, gB, gC] <;> rfl)
        · intro γ u W hcur hd
          clear hd
          (try dsimp only)
          refine ⟨rfl, ?_⟩
          go_simp <;> (try go_bits) <;> with_reducible rfl
        · exact fun _ _ _ => rfl
        · rfl
        dsimp only [nA, cA]
        apply RGW.on (i := 11) rfl
        · (simp only [gA, gB, gC] <;> rfl)
        · intro γ u W hcur hd
          obtain ⟨⟨h10, -, -⟩, -⟩ := hd
          dsimp only at h10
          (try simp only [h10])
          refine ⟨rfl, ?_⟩
          go_simp <;> (try go_bits) <;> with_reducible rfl
        · exact fun _ _ _ => rfl
        · rfl
        dsimp only [nA, cA]
        apply RGW.on (i := 12) rfl
        · (simp only [gA, gB, gC] <;> rfl)
        · intro γ u W hcur hd
          obtain ⟨⟨h8, -, -⟩, ⟨h9, -, -⟩, ⟨h11, -, -⟩, -⟩ := hd
          dsimp only at h8 h9 h11
          (try simp only [h8, h9, h11])
          refine ⟨rfl, ?_⟩
          go_simp <;> (try go_bits) <;> with_reducible rfl
        · exact fun _ _ _ => rfl
        · rfl
        dsimp only [nA, cA]
        apply RGW.bslice (i := 13) rfl
        · (simp only [gA, gB, gC] <;> rfl)
        · intro γ u W hcur hd
          obtain ⟨⟨h12, -, -⟩, -⟩ := hd
          dsimp only at h12
          (try simp only [h12])
          refine ⟨rfl, fun K hK => ?_⟩
          go_simp
          exact hK.out _ _ rfl rfl
        · exact fun _ _ _ => rfl
        · rfl
        · rfl
        dsimp only [nA, cA]
        refine RGW.skip (i := 14) rfl rfl ?_
        dsimp only [nA, cA]
        apply RGW.onL (i := 15) rfl
        · (simp only [gA, gB, gC] <;> rfl)
        · intro γ u Wm W hcur hd hX
          obtain ⟨⟨h0, -, -⟩, -⟩ := hd
          dsimp only at h0
          (try simp only [h0])
          refine ⟨rfl, ?_⟩
          go_simp <;> (try go_bits) <;> with_reducible rfl
        · exact fun _ _ _ => rfl
        dsimp only [nA, cA]
        apply RGW.onL (i := 16) rfl
        · (simp only [gA, gB, gC] <;> rfl)
        · intro γ u Wm W hcur hd hX
          obtain ⟨⟨h15, -, -⟩, -⟩ := hd
          dsimp only at h15
          (try simp only [h15])
          refine ⟨rfl, ?_⟩
          go_simp <;> (try go_bits) <;> with_reducible rfl
        · exact fun _ _ _ => rfl
        dsimp only [nA, cA]
        refine RGW.skip (i := 17) rfl rfl ?_
        dsimp only [nA, cA]
        refine RGW.skip (i := 18) rfl rfl ?_
        dsimp only [nA, cA]
        refine RGW.fin (fun γ u wb hwb hd hdis => ?_)
        obtain ⟨⟨h0, -, -⟩, ⟨h1, -, -⟩, ⟨h2, -, -⟩, ⟨h3, -, -⟩, ⟨h4, -, -⟩, ⟨h5, -, -⟩, ⟨h6, -, -⟩, ⟨h7, -, -⟩, ⟨h8, -, -⟩, ⟨h9, -, -⟩, ⟨h10, -, -⟩, ⟨h11, -, -⟩, ⟨h12, -, -⟩, ⟨h13, r13, b13⟩, ⟨h15, -, -⟩, ⟨h16, -, -⟩, -⟩ := hd
        dsimp only at h0 h1 h2 h3 h4 h5 h6 h7 h8 h9 h10 h11 h12 h13 h15 h16 r13 b13
        clear hdis
        simp only [h0, h1, h2, h3, h4, h5, h6, h7, h8, h9, h10, h11, h12, h13, h15, h16]
        clear h16 h15 h13 h12 h11 h10 h9 h8 h7 h6 h5 h4 h3 h2 h1 h0
        replace b13 := b13 _ (List.mem_singleton.2 rfl)
        generalize hγ13 : (γ 13).n = g13 at *
        clear hγ13
        clear u
        simp only [List.map_cons, List.map_nil]
        apply PlanW.step
        · (simp only [gA, gB, gC] <;> rfl)
        · rfl
        intro K hK
        (refine wp_qu (i := k) (t := t) (n := x.len) (Operand.tmp 42) (Operand.tmp 48) rfl rfl rfl rfl (HQ.out wb hwb) (Nat.le_trans hwa hwb.size) r13 (Nat.le_trans (Hq.out k) (by decide)) ?_; intro A' c' w' hq' hbx' hA'; refine hK.out _ _ (bx_sub hbx' (fun g hg => List.mem_cons_of_mem _ hg)) (fun hcur => ?_); have u0 : w'.cell? ⟨S, 2 + k, none⟩ = some (vQ Q' (sendTo l st t s.q k) k) := (by rw [((HS.out wb hwb).keep hdk hbx').cell, cSnd_at _ _ _ _ _ hk6]); have z0 : w'.frozen? ⟨S, 2 + k, none⟩ = false := ((HS.out wb hwb).keep hdk hbx').frozen _)
        clear hK K
        try simp only [Act.put, List.setIfInBounds_toArray, List.set_cons_zero, List.set_cons_succ]
        apply PlanW.step
        · (simp only [gA, gB, gC] <;> rfl)
        · rfl
        intro K hK
        go_simp
        refine hK.out _ _ (by with_reducible first | assumption | exact bx_refl _ _) (fun hcur => ?_)
        clear hK K
        try simp only [Act.put, List.setIfInBounds_toArray, List.set_cons_zero, List.set_cons_succ]
        apply PlanW.step
        · (simp only [gA, gB, gC] <;> rfl)
        · rfl
        intro K hK
        first
        | refine wp_store_keep (X := S :: blA (Q.A k)) (w0 := wb) rfl rfl rfl (by with_reducible first | exact bx_refl _ _ | assumption) (by with_reducible first | assumption | (apply Blk.below (hb := hwb); assumption)) (by simp) (by kernel_rfl) (by rfl) (by simp [Value.oneCell']) (fun hres1 hcur => ?_)
          refine hK.out _ _ hcur (fun _ => ?_)
        | go_simp
          refine hK.out _ _ (by (with_reducible (repeat' (first | assumption | apply jG | apply jH | apply jI | apply jJ | apply jK | apply hb3x | omega | (simp; done) | (simp; omega) | (dsimp only; omega))))) (fun hcur => ?_)
        | obtain ⟨u0, v0, z0⟩ := bx_cell0 hcur (Blk.below k5 hwb) (by simp)
          go_simp
          refine hK.out _ _ (by (with_reducible (repeat' (first | assumption | apply jG | apply jH | apply jI | apply jJ | apply jK | apply hb3x | omega | (simp; done) | (simp; omega) | (dsimp only; omega))))) (fun hcur => ?_)
        | obtain ⟨u0, v0, z0⟩ := bx_cell0 (X := S :: blA (Q.A k)) (w0 := wb) (by with_reducible first | assumption | exact bx_refl _ _) r13 (by simp)
          go_simp
          refine hK.out _ _ (by (with_reducible (repeat' (first | assumption | apply jG | apply jH | apply jI | apply jJ | apply jK | apply hb3x | omega | (simp; done) | (simp; omega) | (dsimp only; omega))))) (fun hcur => ?_)
        clear hK K
        try simp only [Act.put, List.setIfInBounds_toArray, List.set_cons_zero, List.set_cons_succ]
        refine PlanW.done ?_
        have hb3 := bl_tt hwb
        have hAk := h3 k (Nat.le_refl k)
        have hws : w.heap.size ≤ wb.heap.size := Nat.le_trans h2.size (Nat.le_trans hb0.size hwb.size)
        obtain ⟨hS', hX'⟩ := Snd.put (w := wb) (w1 := w') ((h1.below hb0).below hwb) hk6 hq' (by rw [hAk]; exact hbx') (by rw [hAk]; exact hA') rfl
        have hll : (s.q k ++ [((t : Int), x.len)]).length = (s.q k).length + 1 := by simp
        rw [hll] at hS' hX'
        rw [hAk] at hX'
        have h2' : BX (foot S Bw Q) w (w'.setCell ⟨S, 2 + k, none⟩ (.slice A' ((s.q k).length + 1) c')) := (h2.step (bl_tr hb0 hwb)).trans (bx_sub hX' (fun g hg => by
          rcases List.mem_cons.1 hg with rfl | hg
          · simp [foot]
          · exact foot_q hk6 hg))
        generalize w'.setCell ⟨S, 2 + k, none⟩ (.slice A' ((s.q k).length + 1) c') = w2 at *
        clear hX' hcur hq' hbx' u0 z0 hS2 LS HQ HS
        go_wp2
        go_roundw
        case rel =>
          refine ⟨k + 1, by omega, by go_num, _, by rw [sendTo_on e, hla]; exact hS', h2', fun i hi => ?_, fun i hi => ?_⟩
          · simp only [upF, if_neg (show i ≠ k by omega)]
            exact h3 i (by omega)
          · simp only [upF]
            split
            · rename_i hik
              rw [hik]
              rcases hA' with h | ⟨g, hg, hg2⟩
              · exact .inl h
              · exact .inr ⟨g, hg, by omega⟩
            · exact h4 i hi
        case measure => simp [intOf]; omega
      · have e : relB l st t k = false := by rw [hrel]; simp [c2]
        go_wp2
        go_roundw
        case rel => exact ⟨k + 1, by omega, by go_num, Q', by rw [sendTo_off e]; exact h1.below hb0, h2.step hb0, fun i hi => h3 i (by omega), h4⟩
        case measure => simp [intOf]; omega
    · have e : relB l st t k = false := by rw [hrel]; simp [c1]
      go_wp2
      go_roundw
      case rel => exact ⟨k + 1, by omega, by go_num, Q', by rw [sendTo_off e]; exact h1.below hb0, h2.step hb0, fun i hi => h3 i (by omega), h4⟩
      case measure => simp [intOf]; omega
end Go.Proofs.YtdlmkblmljhbfaaDoor
namespace Go.Proofs.YtdlmkblmljhbfaaDoor
set_option linter.unusedSimpArgs false
set_option linter.unusedVariables false
open Go.RowKit Go.Shelf
set_option maxRecDepth 20000
theorem Qu.cons {w : World} {b i c : Nat} {A : Option Addr} {a k : Int} {r : List (Int × Int)} (h : Qu w b i A c ((a, k) :: r)) :
    ∃ g off cs, A = some ⟨g, off, none⟩ ∧ Blk w g tMg cs ∧ r.length + 1 ≤ c ∧ off + c * 3 ≤ cs.size ∧ cs[off]? = some (.int .i64 i) ∧ cs[off + 1]? = some (.int .i64 a) ∧ cs[off + 2]? = some (.int .i64 k) ∧
      (∀ k', Qu (w.setCell ⟨g, off + 2, none⟩ (.int .i64 k')) b i A c ((a, k') :: r)) ∧ ∀ o, (o = off + 3 ∨ (c = 1 ∧ o = off)) → Qu w b i (some ⟨g, o, none⟩) (c - 1) r := by
  rcases h with ⟨_, _, h⟩ | ⟨g, off, cs, rfl, h1, h2, h3, h4, h5⟩
  · cases h
  · simp only [List.length_cons] at h3
    refine ⟨g, off, cs, rfl, h2, h3, h4, by simpa [cMg] using h5 0 (.int .i64 i) rfl, h5 1 (.int .i64 a) rfl, h5 2 (.int .i64 k) rfl, fun k' => ?_, fun o ho => ?_⟩
    · refine .inr ⟨g, off, cs.setIfInBounds (off + 2) (.int .i64 k'), rfl, h1, h2.set _ _, by simpa using h3, by simpa using h4, fun j u hj => ?_⟩
      match j, hj with
      | 0, hj => simp [cMg] at hj; subst hj; rw [Array.getElem?_setIfInBounds_ne (by omega)]; exact h5 0 _ rfl
      | 1, hj => simp [cMg] at hj; subst hj; rw [Array.getElem?_setIfInBounds_ne (by omega)]; exact h5 1 _ rfl
      | 2, hj => simp [cMg] at hj; subst hj; exact Array.getElem?_setIfInBounds_self_of_lt (by omega)
      | j + 3, hj =>
        rw [Array.getElem?_setIfInBounds_ne (by omega)]
        refine h5 (j + 3) u ?_
        simpa [cMg] using hj
    · rcases ho with rfl | ⟨hc, rfl⟩
      · refine .inr ⟨g, off + 3, cs, rfl, h1, h2, by omega, by omega, fun j u hj => ?_⟩
        have := h5 (j + 3) u (by simpa [cMg] using hj)
        rw [show off + 3 + j = off + (j + 3) by omega]
        exact this
      · have hr : r = [] := List.eq_nil_of_length_eq_zero (by omega)
        subst hr
        exact .inr ⟨g, o, cs, rfl, h1, h2, by simp, by omega, fun j u hj => by simp at hj⟩
section
variable {b S Bw n : Nat} {vl vs : Value} {Q : QS} {s : Ss} {w : World}
theorem Snd.foot_ge (h : Snd b S Bw vl vs n Q s w) : ∀ x ∈ foot S Bw Q, b ≤ x ∧ x < w.heap.size := fun x hx => by
  simp only [foot, List.mem_cons, List.mem_flatMap, List.mem_range] at hx
  rcases hx with rfl | rfl | ⟨i, hi, hx⟩
  · exact ⟨h.bS, h.blk.lt⟩
  · exact ⟨h.bW, h.wor.lt⟩
  · exact (h.que i hi).ge x hx
theorem Snd.dec (h : Snd b S Bw vl vs n Q s w) {i : Nat} (hi : i < 6) {a k : Int} {r : List (Int × Int)} (hq : s.q i = (a, k) :: r) {g off : Nat} (hA : Q.A i = some ⟨g, off, none⟩) (k' : Int) :
    Snd b S Bw vl vs n Q ⟨upF s.q i ((a, k') :: r), s.wo⟩ (w.setCell ⟨g, off + 2, none⟩ (.int .i64 k')) ∧ BX (foot S Bw Q) w (w.setCell ⟨g, off + 2, none⟩ (.int .i64 k')) := by
  have hg : g ∈ blA (Q.A i) := by rw [hA]; simp [blA]
  have hx : BX [g] w (w.setCell ⟨g, off + 2, none⟩ (.int .i64 k')) := bx_set (.inl (by simp)) _ (bx_refl _ _)
  have hSg : S ≠ g := fun e => h.dS i hi (e ▸ hg)
  have hWg : Bw ≠ g := fun e => h.dW i hi (e ▸ hg)
  refine ⟨⟨?_, h.wor.keep (by simpa using hWg) hx, fun j hj => ?_, h.bS, h.bW, h.SW, h.dis, h.dS, h.dW⟩, bx_sub hx (fun x hx => by simp at hx; subst hx; exact foot_q hi hg)⟩
  · have e : vQ Q (upF s.q i ((a, k') :: r)) = vQ Q s.q := by
      funext j
      unfold vQ upF
      split
      · rename_i e; subst e; rw [hq]; rfl
      · rfl
    rw [e]
    exact h.blk.keep (by simpa using hSg) hx
  · by_cases hji : j = i
    · subst hji
      simp only [upF, if_true]
      have := h.que j hj
      rw [hq] at this
      obtain ⟨g', off', cs, e1, -, -, -, -, -, -, e2, -⟩ := this.cons
      rw [hA] at e1
      injection e1 with e1
      injection e1 with e1 e3 _
      subst e1 e3
      exact e2 k'
    · simp only [upF, if_neg hji]
      exact (h.que j hj).keep hx (fun x hx2 => by
        simp only [List.mem_singleton]
        rintro rfl
        exact h.dis j i hj hi hji _ hx2 hg)
theorem Snd.pop (h : Snd b S Bw vl vs n Q s w) {i : Nat} (hi : i < 6) {a k : Int} {r : List (Int × Int)} (hq : s.q i = (a, k) :: r) {g off : Nat} (hA : Q.A i = some ⟨g, off, none⟩) {o : Nat} (ho : o = off + 3 ∨ (Q.c i = 1 ∧ o = off)) :
    Snd b S Bw vl vs n ⟨upF Q.A i (some ⟨g, o, none⟩), upF Q.c i (Q.c i - 1)⟩ ⟨upF s.q i r, s.wo⟩ (w.setCell ⟨S, 2 + i, none⟩ (.slice (some ⟨g, o, none⟩) r.length (Q.c i - 1))) ∧
      BX (foot S Bw Q) w (w.setCell ⟨S, 2 + i, none⟩ (.slice (some ⟨g, o, none⟩) r.length (Q.c i - 1))) ∧ ∀ j, j < 6 → blA ((upF Q.A i (some ⟨g, o, none⟩)) j) = blA (Q.A j) := by
  have := h.que i hi
  rw [hq] at this
  obtain ⟨g', off', cs, e1, -, -, -, -, -, -, -, e2⟩ := this.cons
  rw [hA] at e1
  injection e1 with e1
  injection e1 with e1 e3 _
  subst e1 e3
  obtain ⟨h1, h2⟩ := h.put hi (w1 := w) (e2 o ho) (bx_refl _ _) (.inl (by rw [hA]; rfl)) rfl
  refine ⟨h1, bx_sub h2 (fun x hx => ?_), fun j hj => ?_⟩
  · rcases List.mem_cons.1 hx with rfl | hx
    · simp [foot]
    · exact foot_q hi hx
  · unfold upF
    split
    · rename_i e; rw [e, hA]; rfl
    · rfl
theorem Snd.worst (h : Snd b S Bw vl vs n Q s w) {i : Nat} (hi : i < n) (v : Int) :
    Snd b S Bw vl vs n Q ⟨s.q, upF s.wo i v⟩ (w.setCell ⟨Bw, i, none⟩ (.int .i64 v)) ∧ BX (foot S Bw Q) w (w.setCell ⟨Bw, i, none⟩ (.int .i64 v)) := by
  have hx : BX [Bw] w (w.setCell ⟨Bw, i, none⟩ (.int .i64 v)) := bx_set (.inl (by simp)) _ (bx_refl _ _)
  refine ⟨⟨h.blk.keep (by simpa using h.SW) hx, ?_, fun j hj => (h.que j hj).keep hx (fun x hx2 => ?_), h.bS, h.bW, h.SW, h.dis, h.dS, h.dW⟩, bx_sub hx (by simp [foot])⟩
  · have := h.wor.set i (.int .i64 v)
    have e : (((List.range n).map fun i => Value.int .i64 (s.wo i)).toArray).setIfInBounds i (.int .i64 v) = ((List.range n).map fun j => Value.int .i64 (upF s.wo i v j)).toArray := by
      apply Array.ext
      · simp
      · intro j h1 h2
        simp only [List.setIfInBounds_toArray, List.size_toArray, List.length_set, List.length_map, List.length_range] at h1
        simp [List.getElem_set, upF]
        split
        · rename_i e; subst e; simp
        · rename_i e; simp [Ne.symm e]
    rw [e] at this
    exact this
  · simp only [List.mem_singleton]
    rintro rfl
    exact h.dW j hj hx2
end
end Go.Proofs.YtdlmkblmljhbfaaDoor
namespace Go.Proofs.YtdlmkblmljhbfaaDoor
set_option linter.unusedSimpArgs false
set_option linter.unusedVariables false
open Go.RowKit Go.Shelf
attribute [local go_sem] bl_al bl_drew bl_drewN bl_refl bx_al bx_drew bx_drewN bx_refl
set_option maxRecDepth 20000
/-- A queue's slice. -/
structure Qv where
  A : Option Addr
  n : Nat
  c : Nat
def cQv (x : Qv) : List Value := [.slice x.A x.n x.c]

set_option maxHeartbeats 400000 in
set_option maxRecDepth 20000 in
theorem c_IndexFuncQ (f : FuncId) (lb : Array Value) (p : Qv → Bool) (A : Option Addr) (l : List Qv) (c : Nat) (w : World) (hl : l.length ≤ 1000000)
    (he : Enters Tryd.prog f) (hp : Preds Tryd.prog f lb w (fun x : Qv => .slice x.A x.n x.c) l p) (hr : Sl cQv 1 w A l) :
    Calls Tryd.prog 133 #[.slice A l.length c, .func (.func f) #[] lb] w (Ret (.int .i64 (idxF p l 0)) w) := by
  have he' : ∀ args w, (callFunc f args).run Tryd.prog w = .ok (.enter f args) w := he
  clear he
  have Hp := Lib.hid hp
  have Hr := Lib.hid hr
  clear hp hr
  obtain ⟨n, Hn⟩ : ∃ n, Hid (l.length = n) := ⟨_, rfl⟩
  rw [Hn.out] at hl ⊢
  go_enter Tryd.func133, Tryd.ntmps133
  go_wp2
  go_loopw [8] (fun i wr => ∃ k : Nat, k ≤ n ∧ i = .int .i64 k ∧ Below w.heap.size w wr ∧ idxF p l 0 = idxF p (l.drop k) k) (fun i _ => n - (intOf i).toNat)
  case atStart => exact ⟨0, Nat.zero_le _, rfl, Below.refl _ _, rfl⟩
  case round =>
    obtain ⟨k, hk, rfl, hb, hi⟩ := hrel
    replace hi := Lib.hid hi
    by_cases hlt : k < n
    · have hx : l[k]? = some (l[k]'(by rw [Hn.out]; exact hlt)) := List.getElem?_eq_getElem _
      generalize l[k]'(by rw [Hn.out]; exact hlt) = x at hx
      replace hx := Lib.hid hx
      obtain ⟨b, off, rfl, hc⟩ := (Hr.out.below hb) k x hx.out
      have c0 : wr.cell? ⟨b, off + k, none⟩ = some (.slice x.A x.n x.c) := by simpa using hc 0 _ rfl
      have hm : x ∈ l := List.mem_of_getElem? hx.out
      have hd := Lib.hid (idxF_drop p l k x hx.out)
      clear hc hx
      cases hpx : p x
      all_goals
        have hcall := Hp.out x hm wr hb
        rw [hpx] at hcall
        replace hcall := Lib.hid hcall
        replace hpx := Lib.hid hpx
        clear hm
        go_wp2_with fail
        refine hcall.out.mono ?_
        rintro e w3 ⟨rfl, hb3⟩
        go_wp2
      · go_roundw
        case rel => exact ⟨k + 1, by omega, by go_num, bl_tr hb hb3, by rw [hi.out, hd.out, hpx.out]; simp⟩
        case measure => simp [intOf]; omega
      · go_ret
        exact ⟨by rw [hi.out, hd.out, hpx.out] <;> rfl, bl_tr hb hb3⟩
    · go_wp2
      go_ret
      have : k = l.length := by have := Hn.out; omega
      exact ⟨by rw [hi.out, this]; simp [idxF], hb⟩
theorem c_prio1 (x : Qv) (w : World) : Calls Tryd.prog 134 #[.slice x.A x.n x.c] w (Same (.bool (decide (0 < x.n))) w) := by
  go_enter Tryd.func134, Tryd.ntmps134
  go_wp2
  go_ret
  exact ⟨by simp, rfl⟩
def qvs (Q : QS) (q : Nat → List (Int × Int)) : List Qv := (List.range 6).map fun i => ⟨Q.A i, (q i).length, Q.c i⟩
theorem prio_eq (Q : QS) (q : Nat → List (Int × Int)) : idxF (fun x : Qv => decide (0 < x.n)) (qvs Q q) 0 = prioS q := by
  have e : ∀ i, decide (0 < (q i).length) = !(q i).isEmpty := fun i => by cases q i <;> simp
  simp only [qvs, prioS, prioFrom, List.range, List.range.loop, List.map_cons, List.map_nil, idxF, e]
  cases (q 0).isEmpty <;> cases (q 1).isEmpty <;> cases (q 2).isEmpty <;> cases (q 3).isEmpty <;> cases (q 4).isEmpty <;> cases (q 5).isEmpty <;> rfl
set_option maxHeartbeats 4000000 in
theorem c_byPriority {b S Bw n : Nat} {vl vs : Value} {Q : QS} {s : Ss} {w : World} (h : Snd b S Bw vl vs n Q s w) : Calls Tryd.prog 97 #[.pointer (some ⟨S, 0, none⟩)] w (Ret (.int .i64 (prioS s.q)) w) := by
  have hsl : Sl cQv 1 w (some ⟨S, 2, none⟩) (qvs Q s.q) := fun k x hx => ⟨S, 2, rfl, fun j v hv => by
    have hj : j = 0 := by
      have := (List.getElem?_eq_some_iff.1 hv).1
      simp [cQv] at this; omega
    subst hj
    have hk : k < 6 := by
      have := (List.getElem?_eq_some_iff.1 hx).1
      simpa [qvs] using this
    have hx' : x = ⟨Q.A k, (s.q k).length, Q.c k⟩ := by
      simp [qvs, hk] at hx
      exact hx.symm
    subst hx'
    have hv' : v = .slice (Q.A k) (s.q k).length (Q.c k) := by simpa [cQv] using hv.symm
    subst hv'
    rw [h.blk.cell]
    have := cSnd_at vl vs (.slice (some ⟨Bw, 0, none⟩) n n) (vQ Q s.q) k hk
    simpa [vQ] using this⟩
  have hcall := Lib.hid (c_IndexFuncQ 134 #[] (fun x : Qv => decide (0 < x.n)) (some ⟨S, 2, none⟩) (qvs Q s.q) 6 w (by simp [qvs]) (enters_of Tryd.func134 (by kernel_rfl) rfl)
    (fun x _ W _ => (c_prio1 x W).mono fun _ _ h => h.ret) hsl)
  have e6 : (qvs Q s.q).length = 6 := rfl
  rw [prio_eq, e6] at hcall
  have hS := h.blk.lt
  clear hsl h
  go_enter Tryd.func97, Tryd.ntmps97
  go_wp2_with fail
  refine hcall.out.mono ?_
  rintro e w3 ⟨rfl, hb3⟩
  go_wp2
  go_ret
  exact ⟨rfl, hb3⟩
end Go.Proofs.YtdlmkblmljhbfaaDoor
namespace Go.Proofs.YtdlmkblmljhbfaaDoor
set_option linter.unusedSimpArgs false
set_option linter.unusedVariables false
open Go.RowKit Go.Shelf
attribute [local go_sem] bl_al bl_drew bl_drewN bl_refl bx_al bx_drew bx_drewN bx_refl
set_option maxRecDepth 20000
theorem bx_trX {X Y : List Nat} {w w1 w2 : World} (h1 : BX X w w1) (h2 : BX Y w1 w2) (hY : ∀ y ∈ Y, y ∈ X ∨ w.heap.size ≤ y) : BX X w w2 :=
  ⟨h2.os.trans h1.os, h2.tape.trans h1.tape, h2.output.trans h1.output, Nat.le_trans h1.size h2.size, fun i hi hX =>
    (h2.block i (Nat.lt_of_lt_of_le hi h1.size) (fun hm => by rcases hY i hm with h | h; exact hX h; omega)).trans (h1.block i hi hX), fun g hg t cs hk => by
    obtain ⟨c1, k1, e1⟩ := h1.shape g hg t cs hk
    by_cases hgY : g ∈ Y
    · obtain ⟨c2, k2, e2⟩ := h2.shape g hgY t c1 k1
      exact ⟨c2, k2, e2.trans e1⟩
    · exact ⟨c1, k1.keep hgY h2, e1⟩⟩
theorem foot_new {S Bw : Nat} {Q Q1 : QS} {w : World} (h : ∀ i, i < 6 → blA (Q1.A i) = blA (Q.A i) ∨ ∃ g, blA (Q1.A i) = [g] ∧ w.heap.size ≤ g) : ∀ y ∈ foot S Bw Q1, y ∈ foot S Bw Q ∨ w.heap.size ≤ y := fun y hy => by
  simp only [foot, List.mem_cons, List.mem_flatMap, List.mem_range] at hy ⊢
  rcases hy with rfl | rfl | ⟨i, hi, hy⟩
  · exact .inl (.inl rfl)
  · exact .inl (.inr (.inl rfl))
  · rcases h i hi with e | ⟨g, e, hg⟩
    · rw [e] at hy; exact .inl (.inr (.inr ⟨i, hi, hy⟩))
    · rw [e] at hy; simp at hy; subst hy; exact .inr hg
theorem Turn.trans {b S Bw n : Nat} {vl vs : Value} {Q Q1 Q2 : QS} {s2 : Ss} {w w1 w2 : World} (hx1 : BX (foot S Bw Q) w w1) (hq1 : ∀ i, i < 6 → blA (Q1.A i) = blA (Q.A i) ∨ ∃ g, blA (Q1.A i) = [g] ∧ w.heap.size ≤ g)
    (h2 : Snd b S Bw vl vs n Q2 s2 w2) (hx2 : BX (foot S Bw Q1) w1 w2) (hq2 : ∀ i, i < 6 → blA (Q2.A i) = blA (Q1.A i)) : Turn b S Bw vl vs n Q s2 w w2 :=
  ⟨Q2, h2, bx_trX hx1 hx2 (foot_new hq1), fun i hi => by rw [hq2 i hi]; exact hq1 i hi⟩
/-- What holds of a sender's messages ahead of a tick. -/
structure St (t n : Nat) (s : Ss) : Prop where
  none : ∀ i, n ≤ i → s.q i = []
  len : ∀ i, (s.q i).length ≤ t
  msg : ∀ i, ∀ m ∈ s.q i, 0 ≤ m.1 ∧ m.1 < t ∧ 1 ≤ m.2 ∧ m.2 ≤ 20
  wor : ∀ i, 0 ≤ s.wo i ∧ s.wo i ≤ t
theorem sendS_none {l : List Sm} {st : List Int} {t : Int} {q : Nat → List (Int × Int)} {i : Nat} (hi : l.length ≤ i) : sendS l st t q i = q i := by
  have : l[i]? = Option.none := List.getElem?_eq_none hi
  simp [sendS, relB, this]
theorem sendS_msg {l : List Sm} {st : List Int} {t : Nat} {n : Nat} {s : Ss} (ho : Opn l st) (h : St t n s) (i : Nat) : (sendS l st t s.q i).length ≤ t + 1 ∧ ∀ m ∈ sendS l st t s.q i, 0 ≤ m.1 ∧ m.1 ≤ t ∧ 1 ≤ m.2 ∧ m.2 ≤ 20 := by
  unfold sendS
  split
  · rename_i hr
    have hl : 1 ≤ lenAt l i ∧ lenAt l i ≤ 20 := by
      unfold relB at hr
      split at hr
      · rename_i x a hx ha
        have := ho.sm x (List.mem_of_getElem? hx)
        simp [lenAt, hx]
        omega
      · cases hr
    refine ⟨by have := h.len i; simp; omega, fun m hm => ?_⟩
    rcases List.mem_append.1 hm with hm | hm
    · have := h.msg i m hm; omega
    · simp at hm; subst hm; simp only; omega
  · exact ⟨by have := h.len i; omega, fun m hm => by have := h.msg i m hm; omega⟩
set_option maxHeartbeats 8000000 in
theorem c_carry (fn : FuncId) (ch : (Nat → List (Int × Int)) → Int) (l : List Sm) (st : List Int) (t : Nat) (Al As : Option Addr) (cl cs S Bw : Nat) (Q : QS) (s : Ss) (w0 w : World) (ho : Opn l st) (ht : t ≤ 400)
    (hw : Below w0.heap.size w0 w) (hl : Sl cSm 4 w0 Al l) (hst : Sl cI 1 w0 As st) (h : Snd w0.heap.size S Bw (.slice Al l.length cl) (.slice As st.length cs) l.length Q s w) (hs : St t l.length s)
    (he : Enters Tryd.prog fn) (hch : ∀ Q s w, Snd w0.heap.size S Bw (.slice Al l.length cl) (.slice As st.length cs) l.length Q s w → Calls Tryd.prog fn #[.pointer (some ⟨S, 0, none⟩)] w (Ret (.int .i64 (ch s.q)) w))
    (hcr : ∀ q, ch q = -1 ∨ ∃ i : Nat, i < 6 ∧ ch q = i ∧ q i ≠ []) :
    Calls Tryd.prog 132 #[.pointer (some ⟨S, 0, none⟩), .int .i64 t, .func (.func fn) #[.pointer (some ⟨S, 0, none⟩)] #[]] w
      (fun e w' => e = .returned (.int .i64 (carS ch l st t s).2) ∧ Turn w0.heap.size S Bw (.slice Al l.length cl) (.slice As st.length cs) l.length Q (carS ch l st t s).1 w w') := by
  have hsend := Lib.hid (c_send l st t Al As cl cs S Bw Q s w0 w ho ht hw hl hst h (fun i => by have := hs.len i; omega))
  have hmsg := Lib.hid fun i => sendS_msg ho hs i
  have hnone : Hid (∀ i, l.length ≤ i → sendS l st t s.q i = []) := fun i hi => by rw [sendS_none hi]; exact hs.none i hi
  have hwor := Lib.hid hs.wor
  have he' : ∀ args w, (callFunc fn args).run Tryd.prog w = .ok (.enter fn args) w := he
  have Hch := Lib.hid hch
  have hC1 : Hid (ch (sendS l st t s.q) = -1 → carS ch l st t s = (⟨sendS l st t s.q, s.wo⟩, -1)) := fun h => by rw [carS, if_pos h]
  have hC2 : Hid (∀ (i : Nat) (a k : Int) (r : List (Int × Int)), ch (sendS l st t s.q) = i → sendS l st t s.q i = (a, k) :: r → k - 1 = 0 → carS ch l st t s = (⟨upF (sendS l st t s.q) i r, upF s.wo i (max (s.wo i) (t - a + 1))⟩, (i : Int))) := fun i a k r h1 h2 h3 => by
    rw [carS, if_neg (by rw [h1]; omega), h1, Int.toNat_natCast, h2]
    simp only [h3, if_true]
  have hC3 : Hid (∀ (i : Nat) (a k : Int) (r : List (Int × Int)), ch (sendS l st t s.q) = i → sendS l st t s.q i = (a, k) :: r → ¬ k - 1 = 0 → carS ch l st t s = (⟨upF (sendS l st t s.q) i ((a, k - 1) :: r), s.wo⟩, (i : Int))) := fun i a k r h1 h2 h3 => by
    rw [carS, if_neg (by rw [h1]; omega), h1, Int.toNat_natCast, h2]
    simp only [h3, if_false]
  have hc := hcr (sendS l st t s.q)
  clear hcr hch he hl hst hs ho hw h
  generalize carS ch l st t s = C at *
  obtain ⟨s', v⟩ := C
  dsimp only at *
  generalize sendS l st t s.q = q at *
  generalize l.length = n at *
  generalize st.length = m at *
  go_enter Tryd.func132, Tryd.ntmps132
  go_wp2_with fail
  refine hsend.out.mono ?_
  rintro e w1 ⟨⟨v0, rfl⟩, Q1, h1, hx1, hq1⟩
  go_wp2_with fail
  refine (Hch.out Q1 _ w1 h1).mono ?_
  rintro e w2 ⟨rfl, hb2⟩
  replace hx1 := hx1.step hb2
  replace h1 := h1.below hb2
  clear hb2 hsend Hch
  rcases hc with hc | ⟨i, hi6, hc, hne⟩
  · rw [hc]
    have e := hC1.out hc
    injection e with e1 e2
    subst e1 e2
    go_wp2
    go_ret
    exact ⟨rfl, Q1, h1, hx1, hq1⟩
  · rw [hc]
    obtain ⟨⟨a, k⟩, r, hqi⟩ : ∃ x r, q i = x :: r := List.exists_cons_of_ne_nil hne
    have hin : i < n := by
      rcases Nat.lt_or_ge i n with h | h
      · exact h
      · exact absurd (hnone.out i h) hne
    have hmi := hmsg.out i
    rw [hqi] at hmi
    have hm := hmi.2 (a, k) (by simp)
    have hln := hmi.1
    simp only [List.length_cons] at hln hm
    have hwi := hwor.out i
    have hQ := h1.que i hi6
    dsimp only at hQ
    rw [hqi] at hQ
    obtain ⟨g, off, gs, hA, kg, hrc, hsz, c0, c1, c2, -, -⟩ := hQ.cons
    have hC2' := Lib.hid (hC2.out i a k r hc hqi)
    have hC3' := Lib.hid (hC3.out i a k r hc hqi)
    clear hC1 hC2 hC3 hmi hmsg hnone hwor hQ
    have LS : w2.cell? ⟨S, 2 + i, none⟩ = some (.slice (some ⟨g, off, none⟩) (r.length + 1) (Q1.c i)) := by
      rw [h1.blk.cell, cSnd_at _ _ _ _ _ hi6]
      simp only [vQ, hqi, hA, List.length_cons]
    have L2 : w2.cell? ⟨g, off + 2, none⟩ = some (.int .i64 k) := by rw [kg.cell]; exact c2
    have F2 : w2.frozen? ⟨g, off + 2, none⟩ = false := kg.frozen _
    have hi7 : (i : Int) < 6 := by omega
    go_upto_region 7 with fail
    obtain ⟨h2, hx2⟩ := h1.dec hi6 hqi hA (k - 1)
    have hgl := kg.lt
    have kg2 := kg.set (off + 2) (.int .i64 (k - 1))
    generalize w2.setCell ⟨g, off + 2, none⟩ (.int .i64 (k - 1)) = w3 at *
    clear LS L2 F2 kg
    have c3 : w3.cell? ⟨g, off + 2, none⟩ = some (.int .i64 (k - 1)) := by
      rw [kg2.cell]
      exact Array.getElem?_setIfInBounds_self_of_lt (by omega)
    by_cases hk : k - 1 = 0
    · have e := hC2'.out hk
      go_upto_region 8 with fail
      have H2 := Lib.hid fun W (hb : Below w3.heap.size w3 W) => h2.below hb
      have LW : ∀ W, Below w3.heap.size w3 W → W.cell? ⟨S, 8, none⟩ = some (.slice (some ⟨Bw, 0, none⟩) n n) := fun W hb => by rw [(H2.out W hb).blk.cell]; rfl
      have LC : ∀ W, Below w3.heap.size w3 W → W.cell? ⟨Bw, i, none⟩ = some (.int .i64 (s.wo i)) := fun W hb => by rw [(H2.out W hb).wor.cell]; simp [hin]
      have FC : ∀ W, Below w3.heap.size w3 W → W.frozen? ⟨Bw, i, none⟩ = false := fun W hb => (H2.out W hb).wor.frozen _
      have LA : ∀ W, Below w3.heap.size w3 W → W.cell? ⟨g, off + 1, none⟩ = some (.int .i64 a) := fun W hb => by
        rw [(kg2.below hb).cell, Array.getElem?_setIfInBounds_ne (by omega)]
        exact c1
      have hi8 : (i : Int) < n := by omega
      clear c3
      refine wp_any (w0 := w3) ⟨[21], [], [some 36, some 37, some 38, some 39, some 40, some 41, some 42, some 43, some 44, some 45, some 46, some 47, some 48, some 49, some 50, some 51, some 52, some 53, some 54, some 55, some 56, none], [[], [0], [0, 1], [0, 1, 2], [], [], [5], [5, 6], [5, 6, 7], [], [5, 6, 7, 8, 9], [5, 6, 7, 8, 9, 10], [], [], [13], [13, 14], [13, 14, 15], [12, 13, 14, 15, 16], [12, 13, 14, 15, 16, 17], [5, 6, 7, 8, 9, 10, 11, 12, 13, 14, 15, 16, 17, 18], [0, 1, 2, 3, 4, 5, 6, 7, 8, 9, 10, 11, 12, 13, 14, 15, 16, 17, 18, 19], [0, 1, 2, 3, 4, 5, 6, 7, 8, 9, 10, 11, 12, 13, 14, 15, 16, 17, 18, 19, 20]], [[], [0], [1], [2], [], [], [5], [6], [7], [], [8, 9], [10], [], [], [13], [14], [15], [12, 16], [17], [11, 18], [3, 4], []]⟩ (fun _ => [Bw]) (by kernel_rfl) (by kernel_rfl) (by (with_reducible (repeat' (first | assumption | apply jA | apply jB | apply jC | apply jD | apply jE | apply jF | apply hb3 | omega | (simp; done) | (simp; omega) | (dsimp only; omega))))) (fun u => by simp only [putD, Act.put, List.setIfInBounds_toArray, List.set_cons_zero, List.set_cons_succ, Nat.zero_add, Nat.reduceAdd]; rfl) ?_
      apply RGW.on (i := 0) rfl
      · (simp only [gA, gB, gC] <;> rfl)
      · intro γ u W hcur hd
        clear hd
        (try dsimp only)
        refine ⟨rfl, ?_⟩
        go_simp <;> (try go_bits) <;> with_reducible rfl
      · exact fun _ _ _ => rfl
      · rfl
      dsimp only [nA, cA]
      apply RGW.on (i := 1) rfl
      · (simp only [gA, gB, gC] <;> rfl)
      · intro γ u W hcur hd
        obtain ⟨⟨h0, -, -⟩, -⟩ := hd
        dsimp only at h0
        (try simp only [h0])
        refine ⟨rfl, ?_⟩
        go_simp <;> (try go_bits) <;> with_reducible rfl
      · exact fun _ _ _ => rfl
      · rfl
      dsimp only [nA, cA]
      apply RGW.on (i := 2) rfl
      · (simp only [gA, gB, gC] <;> rfl)
      · intro γ u W hcur hd
        obtain ⟨⟨h1, -, -⟩, -⟩ := hd
        dsimp only at h1
        (try simp only [h1])
        refine ⟨rfl, ?_⟩
        go_simp <;> (try go_bits) <;> with_reducible rfl
      · exact fun _ _ _ => rfl
      · rfl
      dsimp only [nA, cA]
      apply RGW.on (i := 3) rfl
      · (simp only [gA, gB, gC] <;> rfl)
      · intro γ u W hcur hd
        obtain ⟨⟨h2, -, -⟩, -⟩ := hd
        dsimp only at h2
        (try simp only [h2])
        refine ⟨rfl, ?_⟩
        go_simp <;> (try go_bits) <;> with_reducible rfl
      · exact fun _ _ _ => rfl
      · rfl
      dsimp only [nA, cA]
      apply RGW.on (i := 4) rfl
      · (simp only [gA, gB, gC] <;> rfl)
      · intro γ u W hcur hd
        clear hd
        (try dsimp only)
        refine ⟨rfl, ?_⟩
        go_simp <;> (try go_bits) <;> with_reducible rfl
      · exact fun _ _ _ => rfl
      · rfl
      dsimp only [nA, cA]
      apply RGW.on (i := 5) rfl
      · (simp only [gA, gB, gC] <;> rfl)
      · intro γ u W hcur hd
        clear hd
        (try dsimp only)
        refine ⟨rfl, ?_⟩
        go_simp <;> (try go_bits) <;> with_reducible rfl
      · exact fun _ _ _ => rfl
      · rfl
      dsimp only [nA, cA]
      apply RGW.on (i := 6) rfl
      · (simp only [gA, gB, gC] <;> rfl)
      · intro γ u W hcur hd
        obtain ⟨⟨h5, -, -⟩, -⟩ := hd
        dsimp only at h5
        (try simp only [h5])
        refine ⟨rfl, ?_⟩
        go_simp <;> (try go_bits) <;> with_reducible rfl
      · exact fun _ _ _ => rfl
      · rfl
      dsimp only [nA, cA]
      apply RGW.on (i := 7) rfl
      · (simp only [gA, gB, gC] <;> rfl)
      · intro γ u W hcur hd
        obtain ⟨⟨h6, -, -⟩, -⟩ := hd
        dsimp only at h6
        (try simp only [h6])
        refine ⟨rfl, ?_⟩
        go_simp <;> (try go_bits) <;> with_reducible rfl
      · exact fun _ _ _ => rfl
      · rfl
      dsimp only [nA, cA]
      apply RGW.on (i := 8) rfl
      · (simp only [gA, gB, gC] <;> rfl)
      · intro γ u W hcur hd
        obtain ⟨⟨h7, -, -⟩, -⟩ := hd
        dsimp only at h7
        (try simp only [h7])
        refine ⟨rfl, ?_⟩
        go_simp <;> (try go_bits) <;> with_reducible rfl
      · exact fun _ _ _ => rfl
      · rfl
      dsimp only [nA, cA]
      apply RGW.on (i := 9) rfl
      · (simp only [gA, gB, gC] <;> rfl)
      · intro γ u W hcur hd
        clear hd
        (try dsimp only)
        refine ⟨rfl, ?_⟩
        go_simp <;> (try go_bits) <;> with_reducible rfl
      · exact fun _ _ _ => rfl
      · rfl
      dsimp only [nA, cA]
      apply RGW.on (i := 10) rfl
      · (simp only [gA, gB, gC] <;> rfl)
      · intro γ u W hcur hd
        obtain ⟨⟨h8, -, -⟩, ⟨h9, -, -⟩, -⟩ := hd
        dsimp only at h8 h9
        (try simp only [h8, h9])
        refine ⟨rfl, ?_⟩
        go_simp <;> (try go_bits) <;> with_reducible rfl
      · exact fun _ _ _ => rfl
      · rfl
      dsimp only [nA, cA]
      apply RGW.on (i := 11) rfl
      · (simp only [gA, gB, gC] <;> rfl)
      · intro γ u W hcur hd
        obtain ⟨⟨h10, -, -⟩, -⟩ := hd
        dsimp only at h10
        (try simp only [h10])
        refine ⟨rfl, ?_⟩
        go_simp <;> (try go_bits) <;> with_reducible rfl
      · exact fun _ _ _ => rfl
      · rfl
      dsimp only [nA, cA]
      apply RGW.on (i := 12) rfl
      · (simp only [gA, gB, gC] <;> rfl)
      · intro γ u W hcur hd
        clear hd
        (try dsimp only)
        refine ⟨rfl, ?_⟩
        go_simp <;> (try go_bits) <;> with_reducible rfl
      · exact fun _ _ _ => rfl
      · rfl
      dsimp only [nA, cA]
      apply RGW.on (i := 13) rfl
      · (simp only [gA, gB, gC] <;> rfl)
      · intro γ u W hcur hd
        clear hd
        (try dsimp only)
        refine ⟨rfl, ?_⟩
        go_simp <;> (try go_bits) <;> with_reducible rfl
      · exact fun _ _ _ => rfl
      · rfl
      dsimp only [nA, cA]
      apply RGW.on (i := 14) rfl
      · (simp only [gA, gB, gC] <;> rfl)
      · intro γ u W hcur hd
        obtain ⟨⟨h13, -, -⟩, -⟩ := hd
        dsimp only at h13
        (try simp only [h13])
        refine ⟨rfl, ?_⟩
        go_simp <;> (try go_bits) <;> with_reducible rfl
      · exact fun _ _ _ => rfl
      · rfl
      dsimp only [nA, cA]
      apply RGW.on (i := 15) rfl
      · (simp only [gA, gB, gC] <;> rfl)
      · intro γ u W hcur hd
        obtain ⟨⟨h14, -, -⟩, -⟩ := hd
        dsimp only at h14
        (try simp only [h14])
        refine ⟨rfl, ?_⟩
        go_simp <;> (try go_bits) <;> with_reducible rfl
      · exact fun _ _ _ => rfl
      · rfl
      dsimp only [nA, cA]
      apply RGW.on (i := 16) rfl
      · (simp only [gA, gB, gC] <;> rfl)
      · intro γ u W hcur hd
        obtain ⟨⟨h15, -, -⟩, -⟩ := hd
        dsimp only at h15
        (try simp only [h15])
        refine ⟨rfl, ?_⟩
        go_simp <;> (try go_bits) <;> with_reducible rfl
      · exact fun _ _ _ => rfl
      · rfl
      dsimp only [nA, cA]
      apply RGW.on (i := 17) rfl
      · (simp only [gA, gB, gC] <;> rfl)
      · intro γ u W hcur hd
        obtain ⟨⟨h12, -, -⟩, ⟨h16, -, -⟩, -⟩ := hd
        dsimp only at h12 h16
        (try simp only [h12, h16])
        refine ⟨rfl, ?_⟩
        go_simp <;> (try go_bits) <;> with_reducible rfl
      · exact fun _ _ _ => rfl
      · rfl
      dsimp only [nA, cA]
      apply RGW.on (i := 18) rfl
      · (simp only [gA, gB, gC] <;> rfl)
      · intro γ u W hcur hd
        obtain ⟨⟨h17, -, -⟩, -⟩ := hd
        dsimp only at h17
        (try simp only [h17])
        refine ⟨rfl, ?_⟩
        go_simp <;> (try go_bits) <;> with_reducible rfl
      · exact fun _ _ _ => rfl
      · rfl
      dsimp only [nA, cA]
      apply RGW.on (i := 19) rfl
      · (simp only [gA, gB, gC] <;> rfl)
      · intro γ u W hcur hd
        obtain ⟨⟨h11, -, -⟩, ⟨h18, -, -⟩, -⟩ := hd
        dsimp only at h11 h18
        (try simp only [h11, h18])
        refine ⟨rfl, ?_⟩
        go_simp <;> (try go_bits) <;> with_reducible rfl
      · exact fun _ _ _ => rfl
      · rfl
      dsimp only [nA, cA]
      apply RGW.on (i := 20) rfl
      · (simp only [gA, gB, gC] <;> rfl)
      · intro γ u W hcur hd
        obtain ⟨⟨h3, -, -⟩, ⟨h4, -, -⟩, -⟩ := hd
        dsimp only at h3 h4
        (try simp only [h3, h4])
        refine ⟨rfl, ?_⟩
        go_simp <;> (try go_bits) <;> with_reducible rfl
      · exact fun _ _ _ => rfl
      · rfl
      dsimp only [nA, cA]
      refine RGW.skip (i := 21) rfl rfl ?_
      dsimp only [nA, cA]
      refine RGW.fin (fun γ u w4 hw4 hd hdis => ?_)
      obtain ⟨⟨h0, -, -⟩, ⟨h1, -, -⟩, ⟨h2, -, -⟩, ⟨h3, -, -⟩, ⟨h4, -, -⟩, ⟨h5, -, -⟩, ⟨h6, -, -⟩, ⟨h7, -, -⟩, ⟨h8, -, -⟩, ⟨h9, -, -⟩, ⟨h10, -, -⟩, ⟨h11, -, -⟩, ⟨h12, -, -⟩, ⟨h13, -, -⟩, ⟨h14, -, -⟩, ⟨h15, -, -⟩, ⟨h16, -, -⟩, ⟨h17, -, -⟩, ⟨h18, -, -⟩, ⟨h19, -, -⟩, ⟨h20, -, -⟩, -⟩ := hd
      dsimp only at h0 h1 h2 h3 h4 h5 h6 h7 h8 h9 h10 h11 h12 h13 h14 h15 h16 h17 h18 h19 h20
      clear hdis
      simp only [h0, h1, h2, h3, h4, h5, h6, h7, h8, h9, h10, h11, h12, h13, h14, h15, h16, h17, h18, h19, h20]
      clear h20 h19 h18 h17 h16 h15 h14 h13 h12 h11 h10 h9 h8 h7 h6 h5 h4 h3 h2 h1 h0
      clear u
      simp only [List.map_cons, List.map_nil]
      apply PlanW.step
      · (simp only [gA, gB, gC] <;> rfl)
      · rfl
      intro K hK
      first
      | refine wp_store_keep (X := [Bw]) (w0 := w4) rfl rfl rfl (by with_reducible first | exact bx_refl _ _ | assumption) (by with_reducible first | assumption | (apply Blk.below (hb := hw4); assumption)) (by simp) (by kernel_rfl) (by rfl) (by simp [Value.oneCell']) (fun hres1 hcur => ?_)
        refine hK.out _ _ hcur (fun _ => ?_)
      | go_simp
        refine hK.out _ _ (by (with_reducible (repeat' (first | assumption | apply jG | apply jH | apply jI | apply jJ | apply jK | apply hb3x | omega | (simp; done) | (simp; omega) | (dsimp only; omega))))) (fun hcur => ?_)
      clear hK K
      try simp only [Act.put, List.setIfInBounds_toArray, List.set_cons_zero, List.set_cons_succ]
      refine PlanW.done ?_
      have hb3 := bl_tt hw4
      obtain ⟨h3, hx3⟩ := (h2.below hw4).worst hin (max (s.wo i) ((t : Int) - a + 1))
      replace hx3 := (hx2.step hw4).trans hx3
      generalize w4.setCell ⟨Bw, i, none⟩ (.int .i64 (max (s.wo i) ((t : Int) - a + 1))) = w5 at *
      clear hb3 hcur LW LC FC LA H2 hx2 h2 hw4 kg2
      have H3 := Lib.hid fun W (hb : Below w5.heap.size w5 W) => h3.below hb
      have hup : upF q i ((a, k - 1) :: r) i = (a, k - 1) :: r := by simp [upF]
      have LS : ∀ W, Below w5.heap.size w5 W → W.cell? ⟨S, 2 + i, none⟩ = some (.slice (some ⟨g, off, none⟩) (r.length + 1) (Q1.c i)) := fun W hb => by
        rw [(H3.out W hb).blk.cell, cSnd_at _ _ _ _ _ hi6]
        simp only [vQ, hup, hA, List.length_cons]
      have FS : ∀ W, Below w5.heap.size w5 W → W.frozen? ⟨S, 2 + i, none⟩ = false := fun W hb => (H3.out W hb).blk.frozen _
      clear hi8
      have hb1 : (1 : Int) ≤ (r.length : Int) + 1 := by omega
      go_upto_region 9 with fail
      refine wp_any (w0 := w5) ⟨[12], [], [some 57, some 58, some 59, some 60, some 61, some 62, some 63, some 64, some 65, some 66, some 67, some 68, none], [[], [], [], [], [2], [2, 4], [2, 3, 4, 5], [2, 3, 4, 5, 6], [2, 3, 4, 5, 6, 7], [0], [0, 9], [0, 1, 2, 3, 4, 5, 6, 7, 8, 9, 10], [0, 1, 2, 3, 4, 5, 6, 7, 8, 9, 10, 11]], [[], [], [], [], [2], [4], [3, 5], [6], [7], [0], [9], [1, 10], []]⟩ (fun _ => [S]) (by kernel_rfl) (by kernel_rfl) (by (with_reducible (repeat' (first | assumption | apply jA | apply jB | apply jC | apply jD | apply jE | apply jF | apply hb3 | omega | (simp; done) | (simp; omega) | (dsimp only; omega))))) (fun u => by simp only [putD, Act.put, List.setIfInBounds_toArray, List.set_cons_zero, List.set_cons_succ, Nat.zero_add, Nat.reduceAdd]; rfl) ?_
      apply RGW.on (i := 0) rfl
      · (simp only [gA, gB, gC] <;> rfl)
      · intro γ u W hcur hd
        clear hd
        (try dsimp only)
        refine ⟨rfl, ?_⟩
        go_simp <;> (try go_bits) <;> with_reducible rfl
      · exact fun _ _ _ => rfl
      · rfl
      dsimp only [nA, cA]
      apply RGW.on (i := 1) rfl
      · (simp only [gA, gB, gC] <;> rfl)
      · intro γ u W hcur hd
        clear hd
        (try dsimp only)
        refine ⟨rfl, ?_⟩
        go_simp <;> (try go_bits) <;> with_reducible rfl
      · exact fun _ _ _ => rfl
      · rfl
      dsimp only [nA, cA]
      apply RGW.on (i := 2) rfl
      · (simp only [gA, gB, gC] <;> rfl)
      · intro γ u W hcur hd
        clear hd
        (try dsimp only)
        refine ⟨rfl, ?_⟩
        go_simp <;> (try go_bits) <;> with_reducible rfl
      · exact fun _ _ _ => rfl
      · rfl
      dsimp only [nA, cA]
      apply RGW.on (i := 3) rfl
      · (simp only [gA, gB, gC] <;> rfl)
      · intro γ u W hcur hd
        clear hd
        (try dsimp only)
        refine ⟨rfl, ?_⟩
        go_simp <;> (try go_bits) <;> with_reducible rfl
      · exact fun _ _ _ => rfl
      · rfl
      dsimp only [nA, cA]
      apply RGW.on (i := 4) rfl
      · (simp only [gA, gB, gC] <;> rfl)
      · intro γ u W hcur hd
        obtain ⟨⟨h2, -, -⟩, -⟩ := hd
        dsimp only at h2
        (try simp only [h2])
        refine ⟨rfl, ?_⟩
        go_simp <;> (try go_bits) <;> with_reducible rfl
      · exact fun _ _ _ => rfl
      · rfl
      dsimp only [nA, cA]
      apply RGW.on (i := 5) rfl
      · (simp only [gA, gB, gC] <;> rfl)
      · intro γ u W hcur hd
        obtain ⟨⟨h4, -, -⟩, -⟩ := hd
        dsimp only at h4
        (try simp only [h4])
        refine ⟨rfl, ?_⟩
        go_simp <;> (try go_bits) <;> with_reducible rfl
      · exact fun _ _ _ => rfl
      · rfl
      dsimp only [nA, cA]
      apply RGW.on (i := 6) rfl
      · (simp only [gA, gB, gC] <;> rfl)
      · intro γ u W hcur hd
        obtain ⟨⟨h3, -, -⟩, ⟨h5, -, -⟩, -⟩ := hd
        dsimp only at h3 h5
        (try simp only [h3, h5])
        refine ⟨rfl, ?_⟩
        go_simp <;> (try go_bits) <;> with_reducible rfl
      · exact fun _ _ _ => rfl
      · rfl
      dsimp only [nA, cA]
      apply RGW.on (i := 7) rfl
      · (simp only [gA, gB, gC] <;> rfl)
      · intro γ u W hcur hd
        obtain ⟨⟨h6, -, -⟩, -⟩ := hd
        dsimp only at h6
        (try simp only [h6])
        refine ⟨rfl, ?_⟩
        go_simp <;> (try go_bits) <;> with_reducible rfl
      · exact fun _ _ _ => rfl
      · rfl
      dsimp only [nA, cA]
      apply RGW.on (i := 8) rfl
      · (simp only [gA, gB, gC] <;> rfl)
      · intro γ u W hcur hd
        obtain ⟨⟨h7, -, -⟩, -⟩ := hd
        dsimp only at h7
        (try simp only [h7])
        refine ⟨rfl, ?_⟩
        go_simp <;> (try go_bits) <;> with_reducible rfl
      · exact fun _ _ _ => rfl
      · rfl
      dsimp only [nA, cA]
      apply RGW.on (i := 9) rfl
      · (simp only [gA, gB, gC] <;> rfl)
      · intro γ u W hcur hd
        obtain ⟨⟨h0, -, -⟩, -⟩ := hd
        dsimp only at h0
        (try simp only [h0])
        refine ⟨rfl, ?_⟩
        go_simp <;> (try go_bits) <;> with_reducible rfl
      · exact fun _ _ _ => rfl
      · rfl
      dsimp only [nA, cA]
      apply RGW.on (i := 10) rfl
      · (simp only [gA, gB, gC] <;> rfl)
      · intro γ u W hcur hd
        obtain ⟨⟨h9, -, -⟩, -⟩ := hd
        dsimp only at h9
        (try simp only [h9])
        refine ⟨rfl, ?_⟩
        go_simp <;> (try go_bits) <;> with_reducible rfl
      · exact fun _ _ _ => rfl
      · rfl
      dsimp only [nA, cA]
      apply RGW.on (i := 11) rfl
      · (simp only [gA, gB, gC] <;> rfl)
      · intro γ u W hcur hd
        obtain ⟨⟨h1, -, -⟩, ⟨h10, -, -⟩, -⟩ := hd
        dsimp only at h1 h10
        (try simp only [h1, h10])
        refine ⟨rfl, ?_⟩
        go_simp <;> (try go_bits) <;> with_reducible rfl
      · exact fun _ _ _ => rfl
      · rfl
      dsimp only [nA, cA]
      refine RGW.skip (i := 12) rfl rfl ?_
      dsimp only [nA, cA]
      refine RGW.fin (fun γ u w6 hw6 hd hdis => ?_)
      obtain ⟨⟨h0, -, -⟩, ⟨h1, -, -⟩, ⟨h2, -, -⟩, ⟨h3, -, -⟩, ⟨h4, -, -⟩, ⟨h5, -, -⟩, ⟨h6, -, -⟩, ⟨h7, -, -⟩, ⟨h8, -, -⟩, ⟨h9, -, -⟩, ⟨h10, -, -⟩, ⟨h11, -, -⟩, -⟩ := hd
      dsimp only at h0 h1 h2 h3 h4 h5 h6 h7 h8 h9 h10 h11
      clear hdis
      simp only [h0, h1, h2, h3, h4, h5, h6, h7, h8, h9, h10, h11]
      clear h11 h10 h9 h8 h7 h6 h5 h4 h3 h2 h1 h0
      clear u
      simp only [List.map_cons, List.map_nil]
      apply PlanW.step
      · (simp only [gA, gB, gC] <;> rfl)
      · rfl
      intro K hK
      first
      | refine wp_store_keep (X := [S]) (w0 := w6) rfl rfl rfl (by with_reducible first | exact bx_refl _ _ | assumption) (by with_reducible first | assumption | (apply Blk.below (hb := hw6); assumption)) (by simp) (by kernel_rfl) (by rfl) (by simp [Value.oneCell']) (fun hres1 hcur => ?_)
        refine hK.out _ _ hcur (fun _ => ?_)
      | go_simp
        refine hK.out _ _ (by (with_reducible (repeat' (first | assumption | apply jG | apply jH | apply jI | apply jJ | apply jK | apply hb3x | omega | (simp; done) | (simp; omega) | (dsimp only; omega))))) (fun hcur => ?_)
      clear hK K
      try simp only [Act.put, List.setIfInBounds_toArray, List.set_cons_zero, List.set_cons_succ]
      refine PlanW.done ?_
      have hb3 := bl_tt hw6
      obtain ⟨o, ho, hoo⟩ : ∃ o, (o = off + 3 ∨ (Q1.c i = 1 ∧ o = off)) ∧ (if Q1.c i = 1 then some (⟨g, off, none⟩ : Addr) else some ⟨g, off + 3, none⟩) = some ⟨g, o, none⟩ := by
        by_cases h1c : Q1.c i = 1
        · exact ⟨off, .inr ⟨h1c, rfl⟩, by rw [if_pos h1c]⟩
        · exact ⟨off + 3, .inl rfl, by rw [if_neg h1c]⟩
      obtain ⟨h4, hx4, hq4⟩ := (h3.below hw6).pop hi6 hup hA ho
      replace hx4 := (hx3.step hw6).trans hx4
      injection e with e1 e2
      subst e1 e2
      simp only [hoo]
      generalize w6.setCell ⟨S, 2 + i, none⟩ (.slice (some ⟨g, o, none⟩) r.length (Q1.c i - 1)) = w7 at *
      clear hb3 hcur LS FS H3
      go_wp2
      go_ret
      have huu : upF (upF q i ((a, k - 1) :: r)) i r = upF q i r := by funext j; unfold upF; split <;> rfl
      (try dsimp only at h4)
      rw [huu] at h4
      exact ⟨rfl, Turn.trans hx1 hq1 h4 hx4 hq4⟩
    · have e := hC3'.out hk
      injection e with e1 e2
      subst e1 e2
      go_wp2
      go_ret
      exact ⟨rfl, Turn.trans hx1 hq1 h2 hx2 (fun _ _ => rfl)⟩
end Go.Proofs.YtdlmkblmljhbfaaDoor
namespace Go.Proofs.YtdlmkblmljhbfaaDoor
set_option linter.unusedSimpArgs false
set_option linter.unusedVariables false
open Go.RowKit Go.Shelf
attribute [local go_sem] bl_al bl_drew bl_drewN bl_refl bx_al bx_drew bx_drewN bx_refl
set_option maxRecDepth 20000
/-- Streams lie where the header of their slice says; so many at most. -/
structure SmIn (l : List Sm) (A : Option Addr) (c : Nat) (w : World) : Prop where
  len : l.length ≤ 1000
  cap : l.length ≤ c
  nm : ∀ s ∈ l, s.name.size ≤ maxLen
  sl : Sl cSm 4 w A l
theorem SmIn.below {l : List Sm} {A : Option Addr} {c : Nat} {w w' : World} (h : SmIn l A c w) (hb : Below w.heap.size w w') : SmIn l A c w' := ⟨h.len, h.cap, h.nm, h.sl.below hb⟩
theorem c_smNm (x : Sm) (nm : ByteArray) (B : Nat) (w : World) (hB : w.cell? ⟨B, 0, none⟩ = some (.string nm)) :
    Calls Tryd.prog 154 #[vSm x, .pointer (some ⟨B, 0, none⟩)] w (Ret (.bool (x.name.toList == nm.toList)) w) := by
  have hB' := later hB
  have hlt := World.block_lt_of_cell? w _ hB
  clear hB
  have hn : B ≠ w.heap.size := Nat.ne_of_lt hlt
  go_enter Tryd.func154, Tryd.ntmps154
  go_wp2
  go_ret
  exact ⟨rfl, by solve_by_elim (maxDepth := 60) only [bl_al, bl_drew, bl_drewN, bl_refl, *]⟩
set_option maxHeartbeats 2000000 in
theorem c_smErr (l : List Sm) (A : Option Addr) (c B i : Nat) (x : Sm) (w : World) (hi : l[i]? = some x) (hl : l.length ≤ 1000000) (hcap : l.length ≤ c) (hx : x.name.size ≤ maxLen)
    (hc : w.cell? ⟨B, 0, none⟩ = some (.slice A l.length c)) (hs : Sl cSm 4 w A l) :
    Calls Tryd.prog 152 #[.int .i64 (i : Nat), vSm x, .pointer (some ⟨B, 0, none⟩)] w (Ret (.int .i64 (smErr l i x)) w) := by
  have hlt := World.block_lt_of_cell? w _ hc
  have hc' := later hc
  have hn : B ≠ w.heap.size := Nat.ne_of_lt hlt
  have hil : i < l.length := (List.getElem?_eq_some_iff.1 hi).1
  clear hc
  have Hs := Lib.hid hs
  clear hs
  generalize hnl : l.length = nl at *
  have Hnl := Lib.hid hnl
  clear hnl
  have htake : Hid ((l.take i).length = i) := by rw [List.length_take, Hnl.out]; exact Nat.min_eq_left (by omega)
  have hc1 : Hid (∀ W : World, Below w.heap.size w W → W.cell? ⟨w.heap.size, 0, none⟩ = some (.string x.name) →
      Calls Tryd.prog 153 #[.slice A i c, .func (.func 154) #[] #[.pointer (some ⟨w.heap.size, 0, none⟩)]] W (Ret (.bool (knownB ((l.take i).map (·.name)) x.name)) W)) := by
    intro W hW hcl
    have := c_ContainsFuncS 154 #[.pointer (some ⟨w.heap.size, 0, none⟩)] (fun o => o.name.toList == x.name.toList) A (l.take i) c W (by rw [htake.out]; omega)
      (enters_of Tryd.func154 (by kernel_rfl) rfl) (fun y _ W' hb => c_smNm y _ _ W' (kcell hb hcl)) ((Hs.out.below hW).take i)
    rw [htake.out] at this
    rwa [knownB, List.any_map]
  have hres : Hid (smErr l i x = fstE [unl (nameB x.name) 4, unl (!knownB ((l.take i).map (·.name)) x.name) 5, unl (inR x.per 1 60 && (inR x.dl 1 x.per && inR x.len 1 20)) 2]) := rfl
  generalize knownB ((l.take i).map (·.name)) x.name = kn at *
  cases hA : inR x.per 1 60
  all_goals cases hB : inR x.dl 1 x.per
  all_goals
    rw [hA, hB] at hres
    simp only [Bool.false_and, Bool.true_and, Bool.and_false] at hres
    go_enter Tryd.func152, Tryd.ntmps152
    go_wp2_with fail
    refine (hc1.out _ (bl_al _ (bl_refl _)) (by simp [go_sem])).mono ?_
    rintro e wb ⟨rfl, hb3⟩
    have k0 := ((Blk.new w 82 #[.string x.name, .int .i64 x.per, .int .i64 x.dl, .int .i64 x.len]).below hb3).later
    replace hb3 := bl_tt hb3
    have hcur := bl_refl wb
    go_wp2_with (first | (go_at_call 74; (with_reducible refine (c_within _ _ _ _).mono ?_); rintro e w3 ⟨rfl, rfl⟩) | (go_at_call 137; (with_reducible refine (c_isName x.name _ hx).mono ?_); rintro e w3 ⟨rfl, rfl⟩) | (go_at_call 78; (with_reducible refine (c_unless _ _ _).mono ?_); rintro e w3 ⟨rfl, rfl⟩) | (go_at_call 77; (with_reducible refine (c_first3 (Blk.new _ _ _)).mono ?_); rintro e w3 ⟨rfl, rfl⟩))
    go_ret
    exact ⟨by rw [hres.out] <;> rfl, by solve_by_elim (maxDepth := 60) only [bl_al, bl_drew, bl_drewN, bl_refl, *]⟩
set_option maxHeartbeats 4000000 in
theorem c_CheckStreams (l : List Sm) (A : Option Addr) (c : Nat) (w : World) (hn : SmIn l A c w) :
    Calls Tryd.prog 135 #[.slice A l.length c] w (Ret (.tuple #[.int .i64 (smsChk l).1, .int .i64 (smsChk l).2]) w) := by
  have Hn := Lib.hid hn
  have hlen := hn.len
  clear hn
  have hev := Lib.hid fun (W : World) (hb : Below w.heap.size w W) (hB : W.cell? ⟨w.heap.size, 0, none⟩ = some (.slice A l.length c)) =>
    c_eachS 152 #[.pointer (some ⟨w.heap.size, 0, none⟩)] (smErr l) A l c W (by have := Hn.out.len; omega) (enters_of Tryd.func152 (by kernel_rfl) rfl)
      (fun k x hx W' hb' => c_smErr l A c _ k x W' hx (by have := Hn.out.len; omega) Hn.out.cap (Hn.out.nm x (List.mem_of_getElem? hx)) (kcell hb' hB) ((Hn.out.sl.below hb).below hb'))
      (Hn.out.sl.below hb)
  have hres : Hid ((lenE l.length 6 = 0 → smsChk l = eachS (smErr l) l 0) ∧ (lenE l.length 6 ≠ 0 → smsChk l = (0, lenE l.length 6))) := ⟨fun h => by rw [smsChk, if_pos h], fun h => by rw [smsChk, if_neg h]⟩
  have hwe : Hid (lenE l.length 6 = fstE [unl (decide (0 < l.length)) 10, unl (decide ((l.length : Int) ≤ 6)) 8]) := rfl
  generalize l.length = nl at *
  go_enter Tryd.func135, Tryd.ntmps135
  go_wp2
  first
  | apply absB1 (w0 := w) (g0 := w.heap.size)
  | apply absTB1 (w0 := w) (g0 := w.heap.size)
  | apply absIB1 (w0 := w) (g0 := w.heap.size)
  iterate 2 (focus ((with_reducible (repeat' (first | assumption | apply jA | apply jB | apply jC | apply jD | apply jE | apply jF | apply hb3 | apply jG | apply jH | apply jI | apply jJ | apply jK | apply hb3x | (apply jL; first | (simp; done) | rfl) | apply jM | apply jN | apply jO | apply jP | apply jQ | apply jR | apply jS | apply jT (hb := hb3 _ (jA _)) | omega | (simp; done) | (simp; omega) | (dsimp only; omega)))); done))
  intro wa hb0' k0'
  (try simp only [List.setIfInBounds_toArray, List.set_cons_zero, List.set_cons_succ] at k0')
  try clear hb3
  try clear hb0
  try clear k0
  have hb0 := hb0'; clear hb0'
  have k0 := k0'; clear k0'
  have Lk0 := k0.later
  have Fk0 := k0.laterF
  have Qk0 := k0.lt
  refine wp_any (w0 := wa) ⟨[], [], [some 5, some 6, some 7, some 8, some 9, some 10, some 11, some 12, some 13, some 14, some 4], [[], [0], [0, 1], [0, 1, 2], [], [4], [4, 5], [0, 1, 2, 3, 4, 5, 6], [0, 1, 2, 3, 4, 5, 6, 7], [0, 1, 2, 3, 4, 5, 6, 7, 8], [0, 1, 2, 3, 4, 5, 6, 7, 8, 9]], [[], [0], [1], [2], [], [4], [5], [6], [3, 7], [8], [8, 9]]⟩ (fun _ => []) (by kernel_rfl) (by kernel_rfl) (by (with_reducible (repeat' (first | assumption | apply jA | apply jB | apply jC | apply jD | apply jE | apply jF | apply hb3 | omega | (simp; done) | (simp; omega) | (dsimp only; omega))))) (fun u => by simp only [putD, Act.put, List.setIfInBounds_toArray, List.set_cons_zero, List.set_cons_succ, Nat.zero_add, Nat.reduceAdd]; rfl) ?_
  apply RGW.on (i := 0) rfl
  · (simp only [gA, gB, gC] <;> rfl)
  · intro γ u W hcur hd
    clear hd
    (try dsimp only)
    refine ⟨rfl, ?_⟩
    go_simp <;> (try go_bits) <;> with_reducible rfl
  · exact fun _ _ _ => rfl
  · rfl
  dsimp only [nA, cA]
  apply RGW.on (i := 1) rfl
  · (simp only [gA, gB, gC] <;> rfl)
  · intro γ u W hcur hd
    obtain ⟨⟨h0, -, -⟩, -⟩ := hd
    dsimp only at h0
    (try simp only [h0])
    refine ⟨rfl, ?_⟩
    go_simp <;> (try go_bits) <;> with_reducible rfl
  · exact fun _ _ _ => rfl
  · rfl
  dsimp only [nA, cA]
  apply RGW.on (i := 2) rfl
  · (simp only [gA, gB, gC] <;> rfl)
  · intro γ u W hcur hd
    obtain ⟨⟨h1, -, -⟩, -⟩ := hd
    dsimp only at h1
    (try simp only [h1])
    refine ⟨rfl, ?_⟩
    go_simp <;> (try go_bits) <;> with_reducible rfl
  · exact fun _ _ _ => rfl
  · rfl
  dsimp only [nA, cA]
  apply RGW.call (i := 3) rfl
  · (simp only [gA, gB, gC] <;> rfl)
  · intro γ u W hcur hd
    obtain ⟨⟨h2, -, -⟩, -⟩ := hd
    dsimp only at h2
    (try simp only [h2])
    refine ⟨rfl, fun K hK => ?_⟩
    go_simp
    first
    | (go_at_call 78; (with_reducible refine (c_unless _ _ _).mono ?_); rintro e w3 ⟨rfl, rfl⟩)
    | (go_at_call 77; (with_reducible refine (c_first2 (by (with_reducible (repeat' (first | assumption | (apply jL; first | (simp; done) | rfl) | apply jM | apply jN | apply jO | apply jP | apply jQ | apply jR | apply jS | apply jT (hb := hb3 _ (jA _)) | omega | (simp; done) | (simp; omega) | (dsimp only; omega)))))).mono ?_); rintro e w3 ⟨rfl, rfl⟩)
    (try dsimp only)
    exact hK.out _ _ rfl (by (with_reducible (repeat' (first | assumption | apply jA | apply jB | apply jC | apply jD | apply jE | apply jF | apply hb3 | omega | (simp; done) | (simp; omega) | (dsimp only; omega)))))
  · exact fun _ _ _ => rfl
  · rfl
  dsimp only [nA, cA]
  apply RGW.on (i := 4) rfl
  · (simp only [gA, gB, gC] <;> rfl)
  · intro γ u W hcur hd
    clear hd
    (try dsimp only)
    refine ⟨rfl, ?_⟩
    go_simp <;> (try go_bits) <;> with_reducible rfl
  · exact fun _ _ _ => rfl
  · rfl
  dsimp only [nA, cA]
  apply RGW.on (i := 5) rfl
  · (simp only [gA, gB, gC] <;> rfl)
  · intro γ u W hcur hd
    obtain ⟨⟨h4, -, -⟩, -⟩ := hd
    dsimp only at h4
    (try simp only [h4])
    refine ⟨rfl, ?_⟩
    go_simp <;> (try go_bits) <;> with_reducible rfl
  · exact fun _ _ _ => rfl
  · rfl
  dsimp only [nA, cA]
  apply RGW.on (i := 6) rfl
  · (simp only [gA, gB, gC] <;> rfl)
  · intro γ u W hcur hd
    obtain ⟨⟨h5, -, -⟩, -⟩ := hd
    dsimp only at h5
    (try simp only [h5])
    refine ⟨rfl, ?_⟩
    go_simp <;> (try go_bits) <;> with_reducible rfl
  · exact fun _ _ _ => rfl
  · rfl
  dsimp only [nA, cA]
  apply RGW.call (i := 7) rfl
  · (simp only [gA, gB, gC] <;> rfl)
  · intro γ u W hcur hd
    obtain ⟨⟨h6, -, -⟩, -⟩ := hd
    dsimp only at h6
    (try simp only [h6])
    refine ⟨rfl, fun K hK => ?_⟩
    go_simp
    first
    | (go_at_call 78; (with_reducible refine (c_unless _ _ _).mono ?_); rintro e w3 ⟨rfl, rfl⟩)
    | (go_at_call 77; (with_reducible refine (c_first2 (by (with_reducible (repeat' (first | assumption | (apply jL; first | (simp; done) | rfl) | apply jM | apply jN | apply jO | apply jP | apply jQ | apply jR | apply jS | apply jT (hb := hb3 _ (jA _)) | omega | (simp; done) | (simp; omega) | (dsimp only; omega)))))).mono ?_); rintro e w3 ⟨rfl, rfl⟩)
    (try dsimp only)
    exact hK.out _ _ rfl (by (with_reducible (repeat' (first | assumption | apply jA | apply jB | apply jC | apply jD | apply jE | apply jF | apply hb3 | omega | (simp; done) | (simp; omega) | (dsimp only; omega)))))
  · exact fun _ _ _ => rfl
  · rfl
  dsimp only [nA, cA]
  apply RGW.bslice (i := 8) rfl
  · (simp only [gA, gB, gC] <;> rfl)
  · intro γ u W hcur hd
    obtain ⟨⟨h3, -, -⟩, ⟨h7, -, -⟩, -⟩ := hd
    dsimp only at h3 h7
    (try simp only [h3, h7])
    refine ⟨rfl, fun K hK => ?_⟩
    go_simp
    exact hK.out _ _ rfl rfl
  · exact fun _ _ _ => rfl
  · rfl
  · rfl
  dsimp only [nA, cA]
  apply RGW.call (i := 9) rfl
  · (simp only [gA, gB, gC] <;> rfl)
  · intro γ u W hcur hd
    obtain ⟨⟨h8, r8, -⟩, -⟩ := hd
    dsimp only at h8 r8
    have L8 := r8.cell
    (try simp only [h8])
    refine ⟨rfl, fun K hK => ?_⟩
    go_simp
    first
    | (go_at_call 78; (with_reducible refine (c_unless _ _ _).mono ?_); rintro e w3 ⟨rfl, rfl⟩)
    | (go_at_call 77; (with_reducible refine (c_first2 (by (with_reducible (repeat' (first | assumption | (apply jL; first | (simp; done) | rfl) | apply jM | apply jN | apply jO | apply jP | apply jQ | apply jR | apply jS | apply jT (hb := hb3 _ (jA _)) | omega | (simp; done) | (simp; omega) | (dsimp only; omega)))))).mono ?_); rintro e w3 ⟨rfl, rfl⟩)
    (try dsimp only)
    exact hK.out _ _ rfl (by (with_reducible (repeat' (first | assumption | apply jA | apply jB | apply jC | apply jD | apply jE | apply jF | apply hb3 | omega | (simp; done) | (simp; omega) | (dsimp only; omega)))))
  · first
    | exact fun _ _ _ => rfl
    | intro γ γ' hg
      try dsimp only
      have e8 := hg 8 (by decide)
      simp only [e8]
  · rfl
  dsimp only [nA, cA]
  apply RGW.on (i := 10) rfl
  · (simp only [gA, gB, gC] <;> rfl)
  · intro γ u W hcur hd
    obtain ⟨⟨h8, r8, -⟩, ⟨h9, -, -⟩, -⟩ := hd
    dsimp only at h8 h9 r8
    have L8 := r8.cell
    (try simp only [h8, h9])
    refine ⟨rfl, ?_⟩
    go_simp <;> (try go_bits) <;> with_reducible rfl
  · first
    | exact fun _ _ _ => rfl
    | intro γ γ' hg
      try dsimp only
      have e8 := hg 8 (by decide)
      simp only [e8]
  · rfl
  dsimp only [nA, cA]
  refine RGW.fin (fun γ u wb hwb hd hdis => ?_)
  obtain ⟨⟨h0, -, -⟩, ⟨h1, -, -⟩, ⟨h2, -, -⟩, ⟨h3, -, -⟩, ⟨h4, -, -⟩, ⟨h5, -, -⟩, ⟨h6, -, -⟩, ⟨h7, -, -⟩, ⟨h8, r8, b8⟩, ⟨h9, -, -⟩, ⟨h10, -, -⟩, -⟩ := hd
  dsimp only at h0 h1 h2 h3 h4 h5 h6 h7 h8 h9 h10 r8 b8
  clear hdis
  simp only [h0, h1, h2, h3, h4, h5, h6, h7, h8, h9, h10]
  clear h10 h9 h8 h7 h6 h5 h4 h3 h2 h1 h0
  replace b8 := b8 _ (List.mem_singleton.2 rfl)
  generalize hγ8 : (γ 8).n = g8 at *
  clear hγ8
  clear u
  simp only [List.map_nil]
  refine PlanW.done ?_
  have hb3 := bl_tt hwb
  rw [← hwe.out]
  have hbw := hb3 _ hb0
  generalize lenE nl 6 = we at *
  by_cases h0 : we = 0
  · have h0' : (we != 0) = false := by simp [h0]
    replace h0 := Lib.hid h0
    go_wp2_with fail
    refine Calls.mono (hev.out _ ?_ ?_) ?_
    · (with_reducible (repeat' (first | assumption | apply jA | apply jB | apply jC | apply jD | apply jE | apply jF | apply hb3 | omega | (simp; done) | (simp; omega) | (dsimp only; omega))))
    · exact Lk0 _ (by (with_reducible (repeat' (first | assumption | apply jA | apply jB | apply jC | apply jD | apply jE | apply jF | apply hb3 | omega | (simp; done) | (simp; omega) | (dsimp only; omega))))) 0
    rintro e w3 ⟨rfl, hb3⟩
    replace hb3 := bl_tt hb3
    go_wp2
    go_ret2
    exact ⟨by rw [hres.out.1 h0.out] <;> rfl, hb3 _ hbw⟩
  · have h0' : (we != 0) = true := by simp [h0]
    replace h0 := Lib.hid h0
    go_wp2
    go_ret2
    exact ⟨by rw [hres.out.2 h0.out] <;> rfl, hbw⟩
theorem c_streamsErr (l : List Sm) (A : Option Addr) (c : Nat) (w : World) (hn : SmIn l A c w) : Calls Tryd.prog 98 #[.slice A l.length c] w (Ret (.int .i64 (smsErr l)) w) := by
  have hcall := Lib.hid (c_CheckStreams l A c w hn)
  have he : Hid ((smsChk l).2 = smsErr l) := rfl
  clear hn
  generalize l.length = n at *
  go_enter Tryd.func98, Tryd.ntmps98
  go_wp2_with fail
  refine hcall.out.mono ?_
  rintro e w3 ⟨rfl, hb3⟩
  go_wp2
  go_ret
  exact ⟨by rw [he.out] <;> rfl, hb3⟩
end Go.Proofs.YtdlmkblmljhbfaaDoor
namespace Go.Proofs.YtdlmkblmljhbfaaDoor
set_option linter.unusedSimpArgs false
set_option linter.unusedVariables false
open Go.RowKit Go.Shelf
attribute [local go_sem] bl_al bl_drew bl_drewN bl_refl bx_al bx_drew bx_drewN bx_refl
set_option maxRecDepth 20000
theorem c_open1 (x : Int) (w : World) : Calls Tryd.prog 130 #[.int .i64 x] w (Same (.bool (inR x 0 400)) w) := by
  go_enter Tryd.func130, Tryd.ntmps130
  go_wp2_with (go_at_call 74; (with_reducible refine (c_within _ _ _ _).mono ?_); rintro e w3 ⟨rfl, rfl⟩)
  go_ret
  exact ⟨rfl, rfl⟩
theorem c_open2 (k x : Int) (B : Nat) (w : World) (kb : Blk w B 120 #[.func (.func 130) #[] #[]]) :
    Calls Tryd.prog 131 #[.int .i64 k, .int .i64 x, .pointer (some ⟨B, 0, none⟩)] w (Ret (.int .i64 (unl (inR x 0 400) 2)) w) := by
  have L0 := kb.cell
  go_enter Tryd.func131, Tryd.ntmps131
  go_wp2_with (first | (go_at_call 130; (with_reducible refine (c_open1 _ _).mono ?_); rintro e w3 ⟨rfl, rfl⟩) | (go_at_call 78; (with_reducible refine (c_unless _ _ _).mono ?_); rintro e w3 ⟨rfl, rfl⟩))
  go_ret
  exact ⟨rfl, by (with_reducible (repeat' (first | assumption | apply jA | apply jB | apply jC | apply jD | apply jE | apply jF | apply hb3 | omega | (simp; done) | (simp; omega) | (dsimp only; omega))))⟩
theorem mk_ints (n : Nat) (hn : n ≤ 6) (W : World) : (Instr.makeSlice 22 (.int .i64 n) (.int .i64 n)).run Tryd.prog W = .ok (.slice (some ⟨W.heap.size, 0, none⟩) n n) (W.alloc (.cells ((List.range n).map fun i => Value.int .i64 (ss0.wo i)).toArray 3)) := by
  obtain ⟨i0, hi, hz0, hz1, hz2⟩ := info_parts infoI
  have := run_make (P := Tryd.prog) W 22 3 i0 (.int .i64 0) Tryd.underlying22 hi hz0 .i64 .i64 (n : Int) (n : Int) (by omega) (Int.le_refl _) (by rw [hz2]; simp; omega) (by omega)
  rw [hz1, Int.toNat_natCast, Nat.mul_one] at this
  have e : madeCells (Value.int .i64 0).cells n = ((List.range n).map fun i => Value.int .i64 (ss0.wo i)).toArray := by
    apply Array.ext
    · simp [madeCells]
    · intro i h1 h2
      simp [madeCells, ss0, Value.cells, Nat.mod_one]
  rw [e] at this
  exact this
/-- The error of streams and as many starts. -/
def stE1 (l : List Sm) (st : List Int) : Int := fstE [smsErr l, unl (decide ((st.length : Int) = l.length)) 10]
def stE2 (l : List Sm) (st : List Int) : Int := if stE1 l st = 0 then (eachS (fun _ n => unl (inR n 0 400) 2) st 0).2 else stE1 l st
theorem stE_eq (l : List Sm) (st : List Int) (t : Int) : stE l st t = fstE [stE2 l st, unl (inR t 0 400) 2] := rfl
set_option maxHeartbeats 8000000 in
theorem c_openSender (l : List Sm) (st : List Int) (t : Int) (Al As : Option Addr) (cl cs : Nat) (w : World) (hl : SmIn l Al cl w) (hs : Sl cI 1 w As st) (hsl : st.length ≤ 100000) :
    Calls Tryd.prog 95 #[.slice Al l.length cl, .slice As st.length cs, .int .i64 t] w (fun e w' => Below w.heap.size w w' ∧
      ((stE l st t ≠ 0 ∧ e = .returned (.tuple #[.pointer none, .int .i64 (stE l st t)])) ∨
        (stE l st t = 0 ∧ ∃ S Bw, e = .returned (.tuple #[.pointer (some ⟨S, 0, none⟩), .int .i64 0]) ∧ Snd w.heap.size S Bw (.slice Al l.length cl) (.slice As st.length cs) l.length ⟨fun _ => none, fun _ => 0⟩ ss0 w'))) := by
  have hc1 := Lib.hid fun W (hb : Below w.heap.size w W) => c_streamsErr l Al cl W (hl.below hb)
  have hc2 := Lib.hid fun (B : Nat) W (hb : Below w.heap.size w W) (kb : Blk W B 120 #[.func (.func 130) #[] #[]]) =>
    c_eachI 131 #[.pointer (some ⟨B, 0, none⟩)] (fun _ n => unl (inR n 0 400) 2) As st cs W (by omega) (enters_of Tryd.func131 (by kernel_rfl) rfl)
      (fun k x _ W' hb' => c_open2 k x B W' (kb.below hb')) (hs.below hb)
  have hlen := hl.len
  have hE1 : Hid (stE1 l st = fstE [smsErr l, unl ((st.length : Int) == l.length) 10]) := rfl
  have hE2 : Hid ((stE1 l st = 0 → stE2 l st = (eachS (fun _ n => unl (inR n 0 400) 2) st 0).2) ∧ (stE1 l st ≠ 0 → stE2 l st = stE1 l st)) := ⟨fun h => by rw [stE2, if_pos h], fun h => by rw [stE2, if_neg h]⟩
  have hE3 : Hid (stE l st t = fstE [stE2 l st, unl (inR t 0 400) 2]) := rfl
  have hn6 : Hid (stE l st t = 0 → l.length ≤ 6) := fun h => by
    obtain ⟨a1, -⟩ := (fst_cons _ _).1 h
    change stE2 l st = 0 at a1
    have a2 : stE1 l st = 0 := by
      by_cases h0 : stE1 l st = 0
      · exact h0
      · rw [stE2, if_neg h0] at a1; exact absurd a1 h0
    obtain ⟨a3, -⟩ := (fst_cons _ _).1 a2
    by_cases h6 : lenE l.length 6 = 0
    · obtain ⟨-, a4⟩ := (fst_cons _ _).1 h6
      obtain ⟨a5, -⟩ := (fst_cons _ _).1 a4
      have := (unl_zero (by decide)).1 a5
      simp at this
      omega
    · rw [smsErr, smsChk, if_neg h6] at a3; exact absurd a3 h6
  clear hl hs
  generalize smsErr l = se at *
  generalize eachS (fun _ n => unl (inR n 0 400) 2) st 0 = P at *
  obtain ⟨p1, p2⟩ := P
  dsimp only at *
  generalize stE1 l st = e1 at *
  generalize stE2 l st = e2 at *
  generalize stE l st t = e3 at *
  generalize l.length = n at *
  generalize st.length = m at *
  go_enter Tryd.func95, Tryd.ntmps95
  go_upto_region 2 with fail
  first
  | apply absB1 (w0 := w) (g0 := w.heap.size)
  | apply absTB1 (w0 := w) (g0 := w.heap.size)
  | apply absIB1 (w0 := w) (g0 := w.heap.size)
  iterate 2 (focus ((with_reducible (repeat' (first | assumption | apply jA | apply jB | apply jC | apply jD | apply jE | apply jF | apply hb3 | apply jG | apply jH | apply jI | apply jJ | apply jK | apply hb3x | (apply jL; first | (simp; done) | rfl) | apply jM | apply jN | apply jO | apply jP | apply jQ | apply jR | apply jS | apply jT (hb := hb3 _ (jA _)) | omega | (simp; done) | (simp; omega) | (dsimp only; omega)))); done))
  intro wa hb0' k0'
  (try simp only [List.setIfInBounds_toArray, List.set_cons_zero, List.set_cons_succ] at k0')
  try clear hb3
  try clear hb0
  try clear k0
  have hb0 := hb0'; clear hb0'
  have k0 := k0'; clear k0'
  go_wp2_with fail
  refine (hc1.out wa hb0).mono ?_
  rintro e w3 ⟨rfl, hb3⟩
  replace hb0 := bl_tr hb0 hb3
  replace k0 := k0.below hb3
  clear hb3
  go_upto_region 3 with (first | (go_at_call 78; (with_reducible refine (c_unless _ _ _).mono ?_); rintro e w3 ⟨rfl, rfl⟩) | (go_at_call 77; (with_reducible refine (c_first2 (by (with_reducible (repeat' (first | assumption | (apply jL; first | (simp; done) | rfl) | apply jM | apply jN | apply jO | apply jP | apply jQ | apply jR | apply jS | apply jT (hb := hb3 _ (jA _)) | omega | (simp; done) | (simp; omega) | (dsimp only; omega)))))).mono ?_); rintro e w3 ⟨rfl, rfl⟩))
  rw [← hE1.out]
  first
  | apply absB1 (w0 := w) (g0 := w.heap.size)
  | apply absTB1 (w0 := w) (g0 := w.heap.size)
  | apply absIB1 (w0 := w) (g0 := w.heap.size)
  iterate 2 (focus ((with_reducible (repeat' (first | assumption | apply jA | apply jB | apply jC | apply jD | apply jE | apply jF | apply hb3 | apply jG | apply jH | apply jI | apply jJ | apply jK | apply hb3x | (apply jL; first | (simp; done) | rfl) | apply jM | apply jN | apply jO | apply jP | apply jQ | apply jR | apply jS | apply jT (hb := hb3 _ (jA _)) | omega | (simp; done) | (simp; omega) | (dsimp only; omega)))); done))
  intro wb hb0' k0'
  (try simp only [List.setIfInBounds_toArray, List.set_cons_zero, List.set_cons_succ] at k0')
  try clear hb3
  try clear hb0
  try clear k0
  have hb0 := hb0'; clear hb0'
  have k0 := k0'; clear k0'
  by_cases he1 : e1 = 0
  · have hE4 : Hid (fstE [p2, unl (inR t 0 400) 2] = e3) := Lib.hid (by rw [hE3.out, hE2.out.1 he1])
    have L0 := k0.cell
    go_wp2_with fail
    clear L0
    refine (hc2.out w.heap.size wb hb0 k0).mono ?_
    rintro e w3 ⟨rfl, hb3⟩
    replace hb0 := bl_tr hb0 hb3
    replace k0 := k0.below hb3
    clear hb3
    have L0 := k0.cell
    go_upto_region 6 with (first | (go_at_call 130; (with_reducible refine (c_open1 _ _).mono ?_); rintro e w3 ⟨rfl, rfl⟩) | (go_at_call 78; (with_reducible refine (c_unless _ _ _).mono ?_); rintro e w3 ⟨rfl, rfl⟩) | (go_at_call 77; (with_reducible refine (c_first2 (by (with_reducible (repeat' (first | assumption | (apply jL; first | (simp; done) | rfl) | apply jM | apply jN | apply jO | apply jP | apply jQ | apply jR | apply jS | apply jT (hb := hb3 _ (jA _)) | omega | (simp; done) | (simp; omega) | (dsimp only; omega)))))).mono ?_); rintro e w3 ⟨rfl, rfl⟩))
    rw [hE4.out]
    clear L0
    by_cases he3 : e3 = 0
    rotate_left
    · go_wp2
      go_ret2
      exact ⟨by (with_reducible (repeat' (first | assumption | apply jA | apply jB | apply jC | apply jD | apply jE | apply jF | apply hb3 | omega | (simp; done) | (simp; omega) | (dsimp only; omega)))), .inl ⟨he3, rfl⟩⟩
    have hn := hn6.out he3
    clear hc1 hc2 hE1 hE2 hE3 hE4 hn6
    subst he3
    have hmk : ∀ W : World, (Instr.makeSlice 22 (.int .i64 n) (.int .i64 n)).run Tryd.prog W = .ok (.slice (some ⟨W.heap.size, 0, none⟩) n n) (W.alloc (.cells ((List.range n).map fun i => Value.int .i64 (ss0.wo i)).toArray 3)) := fun W => mk_ints n hn W
    clear hlen
    go_wp2
    go_ret2
    have hsz := hb0.size
    refine ⟨by (with_reducible (repeat' (first | assumption | apply jA | apply jB | apply jC | apply jD | apply jE | apply jF | apply hb3 | omega | (simp; done) | (simp; omega) | (dsimp only; omega)))), _, rfl, w3.heap.size + 1, ?_⟩
    refine ⟨Blk.newAt (by simp), Blk.alloc (Blk.newAt (by simp)) _, fun i hi => Qu.nil _ _ _, by omega, by omega, by omega, fun i j _ _ _ g hg => by simp [blA] at hg, fun i _ => by simp [blA], fun i _ => by simp [blA]⟩
  · have hE4 : Hid (fstE [e1, unl (inR t 0 400) 2] = e3) := Lib.hid (by rw [hE3.out, hE2.out.2 he1])
    have he0 : ¬ e3 = 0 := fun h => by rw [← hE4.out] at h; exact he1 ((fst_cons _ _).1 h).1
    have L0 := k0.cell
    go_upto_region 6 with (first | (go_at_call 130; (with_reducible refine (c_open1 _ _).mono ?_); rintro e w3 ⟨rfl, rfl⟩) | (go_at_call 78; (with_reducible refine (c_unless _ _ _).mono ?_); rintro e w3 ⟨rfl, rfl⟩) | (go_at_call 77; (with_reducible refine (c_first2 (by (with_reducible (repeat' (first | assumption | (apply jL; first | (simp; done) | rfl) | apply jM | apply jN | apply jO | apply jP | apply jQ | apply jR | apply jS | apply jT (hb := hb3 _ (jA _)) | omega | (simp; done) | (simp; omega) | (dsimp only; omega)))))).mono ?_); rintro e w3 ⟨rfl, rfl⟩))
    rw [hE4.out]
    clear L0
    go_wp2
    go_ret2
    exact ⟨by (with_reducible (repeat' (first | assumption | apply jA | apply jB | apply jC | apply jD | apply jE | apply jF | apply hb3 | omega | (simp; done) | (simp; omega) | (dsimp only; omega)))), .inl ⟨he0, rfl⟩⟩
end Go.Proofs.YtdlmkblmljhbfaaDoor
namespace Go.Proofs.YtdlmkblmljhbfaaDoor
set_option linter.unusedSimpArgs false
set_option linter.unusedVariables false
theorem silOne_mem {f to hi : Int} {r : Rg} (h : r ∈ silOne f to hi) : r.lo = f ∧ r.hi = min to hi ∧ f ≤ min to hi := by
  unfold silOne at h
  split at h
  · have := List.mem_singleton.1 h
    subst this
    exact ⟨rfl, rfl, by assumption⟩
  · cases h
theorem silFrom_ge (hi t : Int) : ∀ (l : List Int) (f : Int) (r : Rg), r ∈ silFrom hi t l f → f ≤ r.lo
  | [], f, r, h => by
    have := silOne_mem h
    omega
  | n :: l, f, r, h => by
    unfold silFrom at h
    rcases List.mem_append.1 h with h | h
    · have := silOne_mem h
      omega
    · have := silFrom_ge hi t l _ r h
      omega
theorem silFrom_le (hi t : Int) : ∀ (l : List Int) (f : Int) (r : Rg), r ∈ silFrom hi t l f → r.lo ≤ r.hi
  | [], f, r, h => by
    have := silOne_mem h
    omega
  | n :: l, f, r, h => by
    unfold silFrom at h
    rcases List.mem_append.1 h with h | h
    · have := silOne_mem h
      omega
    · exact silFrom_le hi t l _ r h
theorem silFrom_apart (hi : Int) {t : Int} (ht : 0 ≤ t) : ∀ (l : List Int) (f : Int), (silFrom hi t l f).Pairwise fun a b => 2 ≤ b.lo - a.hi
  | [], f => by
    unfold silFrom silOne
    split <;> simp
  | n :: l, f => by
    unfold silFrom
    rw [List.pairwise_append]
    refine ⟨?_, silFrom_apart hi ht l _, fun a ha b hb => ?_⟩
    · unfold silOne
      split <;> simp
    · have := silOne_mem ha
      have := silFrom_ge hi t l _ b hb
      omega
theorem silFrom_len (hi t : Int) : ∀ (l : List Int) (f : Int), (silFrom hi t l f).length ≤ l.length + 1
  | [], f => by
    unfold silFrom silOne
    split <;> simp
  | n :: l, f => by
    unfold silFrom
    have := silFrom_len hi t l (max f (n + t + 1))
    have h1 : (silOne f (n - 1) hi).length ≤ 1 := by
      unfold silOne
      split <;> simp
    simp only [List.length_append, List.length_cons]
    omega
/-- A longer timeout. -/
theorem silFrom_sub (hi : Int) {t t' : Int} (h : t ≤ t') : ∀ (l : List Int) (f f' : Int), f ≤ f' → ∀ r' ∈ silFrom hi t' l f', ∃ r ∈ silFrom hi t l f, r.lo ≤ r'.lo ∧ r'.hi ≤ r.hi
  | [], f, f', hf, r', hr => by
    have := silOne_mem hr
    refine ⟨⟨f, min hi hi⟩, ?_, by dsimp only; omega, by dsimp only; omega⟩
    unfold silFrom silOne
    rw [if_pos (by omega)]
    simp
  | n :: l, f, f', hf, r', hr => by
    unfold silFrom at hr ⊢
    rcases List.mem_append.1 hr with hr | hr
    · have := silOne_mem hr
      refine ⟨⟨f, min (n - 1) hi⟩, List.mem_append_left _ ?_, by dsimp only; omega, by dsimp only; omega⟩
      unfold silOne
      rw [if_pos (by omega)]
      simp
    · obtain ⟨r, h1, h2⟩ := silFrom_sub hi h l (max f (n + t + 1)) (max f' (n + t' + 1)) (by omega) r' hr
      exact ⟨r, List.mem_append_right _ h1, h2⟩
theorem silS_le (l : List Int) (s : Rg) (t : Int) {i : Nat} {r : Rg} (h : (silS l s t)[i]? = some r) : r.lo ≤ r.hi := silFrom_le _ _ _ _ _ (List.mem_of_getElem? h)
theorem silS_apart (l : List Int) (s : Rg) {t : Int} (ht : 0 ≤ t) {i : Nat} {a b : Rg} (h1 : (silS l s t)[i]? = some a) (h2 : (silS l s t)[i + 1]? = some b) : 2 ≤ b.lo - a.hi := by
  have h := silFrom_apart s.hi ht l s.lo
  rw [List.pairwise_iff_getElem] at h
  have e1 := List.getElem?_eq_some_iff.1 h1
  have e2 := List.getElem?_eq_some_iff.1 h2
  have := h i (i + 1) e1.1 e2.1 (by omega)
  have f1 := e1.2
  have f2 := e2.2
  unfold silS at f1 f2
  rw [f1, f2] at this
  exact this
theorem silS_sub (l : List Int) (s : Rg) {t t' : Int} (h : t ≤ t') {r' : Rg} (hr : r' ∈ silS l s t') : ((silS l s t).any fun r => decide (r.lo ≤ r'.lo) && decide (r'.hi ≤ r.hi)) = true := by
  obtain ⟨r, h1, h2⟩ := silFrom_sub s.hi h l s.lo s.lo (Int.le_refl _) r' hr
  rw [List.any_eq_true]
  exact ⟨r, h1, by simpa using h2⟩
end Go.Proofs.YtdlmkblmljhbfaaDoor
namespace Go.Proofs.YtdlmkblmljhbfaaDoor
set_option linter.unusedSimpArgs false
set_option linter.unusedVariables false
open Go.RowKit Go.Shelf
attribute [local go_sem] bl_al bl_drew bl_drewN bl_refl bx_al bx_drew bx_drewN bx_refl
set_option maxRecDepth 20000
theorem c_sil1 (x : Int) (w : World) : Calls Tryd.prog 73 #[.int .i64 x] w (Same (.bool (tickB x)) w) := by
  go_enter Tryd.func73, Tryd.ntmps73
  go_wp2_with (go_at_call 74; (with_reducible refine (c_within _ _ _ _).mono ?_); rintro e w3 ⟨rfl, rfl⟩)
  go_ret
  exact ⟨rfl, rfl⟩
set_option maxHeartbeats 2000000 in
theorem c_sil2 (k x la : Int) (B1 B2 : Nat) (t : TypeId) (w : World) (k1 : Blk w B1 t #[.func (.func 73) #[] #[]]) (k2 : Blk w B2 3 #[.int .i64 la]) :
    Calls Tryd.prog 76 #[.int .i64 k, .int .i64 x, .pointer (some ⟨B1, 0, none⟩), .pointer (some ⟨B2, 0, none⟩)] w
      (fun e w' => e = .returned (.int .i64 (fstE [unl (tickB x) 2, unl (decide (la < x)) 9])) ∧ BX [B2] w w' ∧ Blk w' B2 3 #[.int .i64 x]) := by
  go_enter Tryd.func76, Tryd.ntmps76
  go_upto_region 1 with fail
  first
  | apply absB2 (w0 := w) (g0 := B1) (g1 := B2)
  | apply absTB2 (w0 := w) (g0 := B1) (g1 := B2)
  | apply absIB2 (w0 := w) (g0 := B1) (g1 := B2)
  iterate 3 (focus ((with_reducible (repeat' (first | assumption | apply jA | apply jB | apply jC | apply jD | apply jE | apply jF | apply hb3 | apply jG | apply jH | apply jI | apply jJ | apply jK | apply hb3x | (apply jL; first | (simp; done) | rfl) | apply jM | apply jN | apply jO | apply jP | apply jQ | apply jR | apply jS | apply jT (hb := hb3 _ (jA _)) | omega | (simp; done) | (simp; omega) | (dsimp only; omega)))); done))
  intro wa hb0' k1' k2'
  (try simp only [List.setIfInBounds_toArray, List.set_cons_zero, List.set_cons_succ] at k1' k2')
  try clear hb3
  try clear hb0
  try clear k1
  try clear k2
  have hb0 := hb0'; clear hb0'
  have k1 := k1'; clear k1'
  have k2 := k2'; clear k2'
  have Lk1 := k1.later
  have Fk1 := k1.laterF
  have Qk1 := k1.lt
  have Lk2 := k2.later
  have Fk2 := k2.laterF
  have Qk2 := k2.lt
  refine wp_any (w0 := wa) ⟨[], [], [some 8, some 9, some 10, some 11, some 12, some 13, some 14, some 15, some 16, some 17, some 7], [[], [], [0, 1], [0, 1, 2], [], [], [4, 5], [0, 1, 2, 3, 4, 5, 6], [0, 1, 2, 3, 4, 5, 6, 7], [0, 1, 2, 3, 4, 5, 6, 7, 8], [0, 1, 2, 3, 4, 5, 6, 7, 8, 9]], [[], [], [0, 1], [2], [], [], [4, 5], [6], [3, 7], [8], [8, 9]]⟩ (fun _ => []) (by kernel_rfl) (by kernel_rfl) (by (with_reducible (repeat' (first | assumption | apply jA | apply jB | apply jC | apply jD | apply jE | apply jF | apply hb3 | omega | (simp; done) | (simp; omega) | (dsimp only; omega))))) (fun u => by simp only [putD, Act.put, List.setIfInBounds_toArray, List.set_cons_zero, List.set_cons_succ, Nat.zero_add, Nat.reduceAdd]; rfl) ?_
  apply RGW.on (i := 0) rfl
  · (simp only [gA, gB, gC] <;> rfl)
  · intro γ u W hcur hd
    clear hd
    (try dsimp only)
    refine ⟨rfl, ?_⟩
    go_simp <;> (try go_bits) <;> with_reducible rfl
  · exact fun _ _ _ => rfl
  · rfl
  dsimp only [nA, cA]
  apply RGW.on (i := 1) rfl
  · (simp only [gA, gB, gC] <;> rfl)
  · intro γ u W hcur hd
    clear hd
    (try dsimp only)
    refine ⟨rfl, ?_⟩
    go_simp <;> (try go_bits) <;> with_reducible rfl
  · exact fun _ _ _ => rfl
  · rfl
  dsimp only [nA, cA]
  apply RGW.call (i := 2) rfl
  · (simp only [gA, gB, gC] <;> rfl)
  · intro γ u W hcur hd
    obtain ⟨⟨h0, -, -⟩, ⟨h1, -, -⟩, -⟩ := hd
    dsimp only at h0 h1
    (try simp only [h0, h1])
    refine ⟨rfl, fun K hK => ?_⟩
    go_simp
    first
    | (go_at_call 73; (with_reducible refine (c_sil1 _ _).mono ?_); rintro e w3 ⟨rfl, rfl⟩)
    | (go_at_call 78; (with_reducible refine (c_unless _ _ _).mono ?_); rintro e w3 ⟨rfl, rfl⟩)
    | (go_at_call 77; (with_reducible refine (c_first2 (by (with_reducible (repeat' (first | assumption | (apply jL; first | (simp; done) | rfl) | apply jM | apply jN | apply jO | apply jP | apply jQ | apply jR | apply jS | apply jT (hb := hb3 _ (jA _)) | omega | (simp; done) | (simp; omega) | (dsimp only; omega)))))).mono ?_); rintro e w3 ⟨rfl, rfl⟩)
    (try dsimp only)
    exact hK.out _ _ rfl (by (with_reducible (repeat' (first | assumption | apply jA | apply jB | apply jC | apply jD | apply jE | apply jF | apply hb3 | omega | (simp; done) | (simp; omega) | (dsimp only; omega)))))
  · exact fun _ _ _ => rfl
  · rfl
  dsimp only [nA, cA]
  apply RGW.call (i := 3) rfl
  · (simp only [gA, gB, gC] <;> rfl)
  · intro γ u W hcur hd
    obtain ⟨⟨h2, -, -⟩, -⟩ := hd
    dsimp only at h2
    (try simp only [h2])
    refine ⟨rfl, fun K hK => ?_⟩
    go_simp
    first
    | (go_at_call 73; (with_reducible refine (c_sil1 _ _).mono ?_); rintro e w3 ⟨rfl, rfl⟩)
    | (go_at_call 78; (with_reducible refine (c_unless _ _ _).mono ?_); rintro e w3 ⟨rfl, rfl⟩)
    | (go_at_call 77; (with_reducible refine (c_first2 (by (with_reducible (repeat' (first | assumption | (apply jL; first | (simp; done) | rfl) | apply jM | apply jN | apply jO | apply jP | apply jQ | apply jR | apply jS | apply jT (hb := hb3 _ (jA _)) | omega | (simp; done) | (simp; omega) | (dsimp only; omega)))))).mono ?_); rintro e w3 ⟨rfl, rfl⟩)
    (try dsimp only)
    exact hK.out _ _ rfl (by (with_reducible (repeat' (first | assumption | apply jA | apply jB | apply jC | apply jD | apply jE | apply jF | apply hb3 | omega | (simp; done) | (simp; omega) | (dsimp only; omega)))))
  · exact fun _ _ _ => rfl
  · rfl
  dsimp only [nA, cA]
  apply RGW.on (i := 4) rfl
  · (simp only [gA, gB, gC] <;> rfl)
  · intro γ u W hcur hd
    clear hd
    (try dsimp only)
    refine ⟨rfl, ?_⟩
    go_simp <;> (try go_bits) <;> with_reducible rfl
  · exact fun _ _ _ => rfl
  · rfl
  dsimp only [nA, cA]
  apply RGW.on (i := 5) rfl
  · (simp only [gA, gB, gC] <;> rfl)
  · intro γ u W hcur hd
    clear hd
    (try dsimp only)
    refine ⟨rfl, ?_⟩
    go_simp <;> (try go_bits) <;> with_reducible rfl
  · exact fun _ _ _ => rfl
  · rfl
  dsimp only [nA, cA]
  apply RGW.on (i := 6) rfl
  · (simp only [gA, gB, gC] <;> rfl)
  · intro γ u W hcur hd
    obtain ⟨⟨h4, -, -⟩, ⟨h5, -, -⟩, -⟩ := hd
    dsimp only at h4 h5
    (try simp only [h4, h5])
    refine ⟨rfl, ?_⟩
    go_simp <;> (try go_bits) <;> with_reducible rfl
  · exact fun _ _ _ => rfl
  · rfl
  dsimp only [nA, cA]
  apply RGW.call (i := 7) rfl
  · (simp only [gA, gB, gC] <;> rfl)
  · intro γ u W hcur hd
    obtain ⟨⟨h6, -, -⟩, -⟩ := hd
    dsimp only at h6
    (try simp only [h6])
    refine ⟨rfl, fun K hK => ?_⟩
    go_simp
    first
    | (go_at_call 73; (with_reducible refine (c_sil1 _ _).mono ?_); rintro e w3 ⟨rfl, rfl⟩)
    | (go_at_call 78; (with_reducible refine (c_unless _ _ _).mono ?_); rintro e w3 ⟨rfl, rfl⟩)
    | (go_at_call 77; (with_reducible refine (c_first2 (by (with_reducible (repeat' (first | assumption | (apply jL; first | (simp; done) | rfl) | apply jM | apply jN | apply jO | apply jP | apply jQ | apply jR | apply jS | apply jT (hb := hb3 _ (jA _)) | omega | (simp; done) | (simp; omega) | (dsimp only; omega)))))).mono ?_); rintro e w3 ⟨rfl, rfl⟩)
    (try dsimp only)
    exact hK.out _ _ rfl (by (with_reducible (repeat' (first | assumption | apply jA | apply jB | apply jC | apply jD | apply jE | apply jF | apply hb3 | omega | (simp; done) | (simp; omega) | (dsimp only; omega)))))
  · exact fun _ _ _ => rfl
  · rfl
  dsimp only [nA, cA]
  apply RGW.bslice (i := 8) rfl
  · (simp only [gA, gB, gC] <;> rfl)
  · intro γ u W hcur hd
    obtain ⟨⟨h3, -, -⟩, ⟨h7, -, -⟩, -⟩ := hd
    dsimp only at h3 h7
    (try simp only [h3, h7])
    refine ⟨rfl, fun K hK => ?_⟩
    go_simp
    exact hK.out _ _ rfl rfl
  · exact fun _ _ _ => rfl
  · rfl
  · rfl
  dsimp only [nA, cA]
  apply RGW.call (i := 9) rfl
  · (simp only [gA, gB, gC] <;> rfl)
  · intro γ u W hcur hd
    obtain ⟨⟨h8, r8, -⟩, -⟩ := hd
    dsimp only at h8 r8
    have L8 := r8.cell
    (try simp only [h8])
    refine ⟨rfl, fun K hK => ?_⟩
    go_simp
    first
    | (go_at_call 73; (with_reducible refine (c_sil1 _ _).mono ?_); rintro e w3 ⟨rfl, rfl⟩)
    | (go_at_call 78; (with_reducible refine (c_unless _ _ _).mono ?_); rintro e w3 ⟨rfl, rfl⟩)
    | (go_at_call 77; (with_reducible refine (c_first2 (by (with_reducible (repeat' (first | assumption | (apply jL; first | (simp; done) | rfl) | apply jM | apply jN | apply jO | apply jP | apply jQ | apply jR | apply jS | apply jT (hb := hb3 _ (jA _)) | omega | (simp; done) | (simp; omega) | (dsimp only; omega)))))).mono ?_); rintro e w3 ⟨rfl, rfl⟩)
    (try dsimp only)
    exact hK.out _ _ rfl (by (with_reducible (repeat' (first | assumption | apply jA | apply jB | apply jC | apply jD | apply jE | apply jF | apply hb3 | omega | (simp; done) | (simp; omega) | (dsimp only; omega)))))
  · first
    | exact fun _ _ _ => rfl
    | intro γ γ' hg
      try dsimp only
      have e8 := hg 8 (by decide)
      simp only [e8]
  · rfl
  dsimp only [nA, cA]
  apply RGW.on (i := 10) rfl
  · (simp only [gA, gB, gC] <;> rfl)
  · intro γ u W hcur hd
    obtain ⟨⟨h8, r8, -⟩, ⟨h9, -, -⟩, -⟩ := hd
    dsimp only at h8 h9 r8
    have L8 := r8.cell
    (try simp only [h8, h9])
    refine ⟨rfl, ?_⟩
    go_simp <;> (try go_bits) <;> with_reducible rfl
  · first
    | exact fun _ _ _ => rfl
    | intro γ γ' hg
      try dsimp only
      have e8 := hg 8 (by decide)
      simp only [e8]
  · rfl
  dsimp only [nA, cA]
  refine RGW.fin (fun γ u wb hwb hd hdis => ?_)
  obtain ⟨⟨h0, -, -⟩, ⟨h1, -, -⟩, ⟨h2, -, -⟩, ⟨h3, -, -⟩, ⟨h4, -, -⟩, ⟨h5, -, -⟩, ⟨h6, -, -⟩, ⟨h7, -, -⟩, ⟨h8, r8, b8⟩, ⟨h9, -, -⟩, ⟨h10, -, -⟩, -⟩ := hd
  dsimp only at h0 h1 h2 h3 h4 h5 h6 h7 h8 h9 h10 r8 b8
  clear hdis
  simp only [h0, h1, h2, h3, h4, h5, h6, h7, h8, h9, h10]
  clear h10 h9 h8 h7 h6 h5 h4 h3 h2 h1 h0
  replace b8 := b8 _ (List.mem_singleton.2 rfl)
  generalize hγ8 : (γ 8).n = g8 at *
  clear hγ8
  clear u
  simp only [List.map_nil]
  refine PlanW.done ?_
  have hb3 := bl_tt hwb
  have hbw := hb3 _ hb0
  replace k2 := k2.below hwb
  have L2 := k2.cell
  have F2 := k2.frozen
  go_wp2
  go_ret
  exact ⟨rfl, bx_set (.inl (by simp)) _ (bx_bl _ hbw), k2.set1 (by simp)⟩
theorem infoR : (Tryd.prog.info? 24).map (fun i => (i.zero, i.size, i.bytes)) = some (some (.agg #[.int .i64 0, .int .i64 0]), 2, 16) := by kernel_rfl
theorem Blk.grown {w w' : World} {g : Nat} {t : TypeId} {cs : Array Value} {row : Option Nat} (h : Blk w g t cs) (hg : w.grownBy w' row) (hne : some g ≠ row) : Blk w' g t cs := (hg.block g h.lt hne).trans h
theorem ne_own {w : World} {base n g : Nat} {e : TypeId} {size : Nat} {v : Value} {xs : List Value} (h : w.ownsRow base e size v n xs) (hg : g < base) : some g ≠ v.ownBlock := fun e => by
  have := own_ge h g e.symm
  omega
theorem own_slice {w : World} {base n : Nat} {e : TypeId} {size : Nat} {v : Value} {xs : List Value} (h : w.ownsRow base e size v n xs) : ∃ A c, v = .slice A n c := by
  rcases h.2 with ⟨e, hn⟩ | ⟨g, cap, cur, e, _⟩
  · exact ⟨none, 0, by rw [e, hn]⟩
  · exact ⟨_, _, e⟩
theorem own_set {w : World} {base n g i : Nat} {e : TypeId} {size : Nat} {v : Value} {xs : List Value} (u : Value) (h : w.ownsRow base e size v n xs) (hg : g < base) : (w.setCell ⟨g, i, none⟩ u).ownsRow base e size v n xs :=
  own_bx h (bx_set (X := [g]) (.inl (by simp)) u (bx_refl _ _)) (by simp; omega)
set_option maxHeartbeats 4000000 in
theorem c_sil3 (to f lo hi : Int) (L : List Rg) (v : Value) (Bs Bf Bo base D : Nat) (w : World) (ks : Blk w Bs 24 #[.int .i64 lo, .int .i64 hi]) (kf : Blk w Bf 3 #[.int .i64 f]) (ko : Blk w Bo 27 #[v])
    (hown : w.ownsRow base 24 2 v L.length (L.flatMap cRg)) (h1 : Bs < base) (h2 : Bf < base) (h3 : Bo < base) (hos : Bs ≠ Bo) (hof : Bf ≠ Bo) (hD : D ≤ Bo) (hL : L.length ≤ 1000) (hbase : base ≤ w.heap.size) :
    Calls Tryd.prog 79 #[.int .i64 to, .pointer (some ⟨Bs, 0, none⟩), .pointer (some ⟨Bf, 0, none⟩), .pointer (some ⟨Bo, 0, none⟩)] w
      (fun e w' => (∃ u, e = .returned u) ∧ Below D w w' ∧ Blk w' Bs 24 #[.int .i64 lo, .int .i64 hi] ∧ Blk w' Bf 3 #[.int .i64 f] ∧
        ∃ v', Blk w' Bo 27 #[v'] ∧ w'.ownsRow base 24 2 v' (L ++ silOne f to hi).length ((L ++ silOne f to hi).flatMap cRg)) := by
  obtain ⟨i0, hi0, hz0, hz1, hz2⟩ := info_parts infoR
  have Hown := Lib.hid hown
  clear hown
  have Ls := ks.cell
  have Lf := kf.cell
  have Lo := ko.cell
  have hyes : Hid (f ≤ min to hi → silOne f to hi = [⟨f, min to hi⟩]) := fun h => by rw [silOne, if_pos h]
  have hno : Hid (¬ f ≤ min to hi → silOne f to hi = []) := fun h => by rw [silOne, if_neg h]
  obtain ⟨m, hm⟩ : ∃ m, min to hi = m := ⟨_, rfl⟩
  rw [hm] at hyes hno
  by_cases hfm : f ≤ m
  · have hv := Lib.hid (hyes.out hfm)
    clear hyes hno
    have hfl : Hid ((cRg ⟨f, m⟩) = [.int .i64 f, .int .i64 m]) := rfl
    go_enter Tryd.func79, Tryd.ntmps79
    go_wp2_with (at_builtin; refine wpList_append_own _ rfl _ _ 27 rfl base 24 i0 (.agg #[.int .i64 0, .int .i64 0]) 2 16 Tryd.underlying27 hi0 hz0 hz1 hz2 rfl (by decide) v L.length _ rfl (Hown.out.alloc _) ⟨w.heap.size, 0, none⟩ 1 1 [.int .i64 f, .int .i64 m] rfl rfl ?c1 ?c2 ?c3 ?c4 ?c5 ?_)
    case c1 =>
      intro j u hj
      match j, hj with
      | 0, hj => simp at hj; subst hj; simp [Addr.add]
      | 1, hj => simp at hj; subst hj; simp [Addr.add]
    case c2 => intro u hu; simp at hu; rcases hu with rfl | rfl <;> rfl
    case c3 => unfold maxLen; omega
    case c4 => omega
    case c5 => simp; omega
    intro v' w1 hown' hgrow _
    obtain ⟨A', c', rfl⟩ := own_slice hown'
    have hno := ne_own Hown.out h1
    have hnf := ne_own Hown.out h2
    have hnb := ne_own Hown.out h3
    have hge := own_ge Hown.out
    have ks1 := (ks.alloc (.cells #[.int .i64 f, .int .i64 m] 24)).grown hgrow hno
    have kf1 := (kf.alloc (.cells #[.int .i64 f, .int .i64 m] 24)).grown hgrow hnf
    have ko1 := (ko.alloc (.cells #[.int .i64 f, .int .i64 m] 24)).grown hgrow hnb
    have hb1 : Below D w w1 := (((Below.refl D w).alloc (by omega) _).grown hgrow (by simp; omega) (fun k hk => by have := hge k hk; omega))
    have hown2 : w1.ownsRow base 24 2 (.slice A' (L.length + 1) c') (L ++ silOne f to hi).length ((L ++ silOne f to hi).flatMap cRg) := by
      rw [hv.out]
      simpa [hfl.out] using hown'
    replace hown2 := Lib.hid hown2
    clear hown' hgrow hno hnf hnb hge Ls Lf Lo ks kf ko Hown
    have Lo := ko1.cell
    have Fo := ko1.frozen
    go_wp2
    go_end0
    exact ⟨⟨_, rfl⟩, hb1.setCell (by exact hD) _, ks1.other hos _, kf1.other hof _, _, ko1.set1 (by simp), own_set _ hown2.out h3⟩
  · have hv := Lib.hid (hno.out hfm)
    clear hyes hno
    go_enter Tryd.func79, Tryd.ntmps79
    go_wp2
    go_end0
    exact ⟨⟨_, rfl⟩, Below.refl _ _, ks, kf, v, ko, by rw [hv.out]; simpa using Hown.out⟩
def frK (l : List Int) (t lo : Int) : Nat → Int
  | 0 => lo
  | k + 1 => max (frK l t lo k) (l.getD k 0 + t + 1)
def accK (l : List Int) (t lo hi : Int) : Nat → List Rg
  | 0 => []
  | k + 1 => accK l t lo hi k ++ silOne (frK l t lo k) (l.getD k 0 - 1) hi
theorem sil_acc (l : List Int) (t lo hi : Int) : ∀ k, k ≤ l.length → silFrom hi t l lo = accK l t lo hi k ++ silFrom hi t (l.drop k) (frK l t lo k)
  | 0, _ => rfl
  | k + 1, h => by
    rw [sil_acc l t lo hi k (by omega), List.drop_eq_getElem_cons (by omega : k < l.length), silFrom, accK, frK]
    simp [List.getElem?_eq_getElem (by omega : k < l.length), List.append_assoc]
theorem sil_end (l : List Int) (t lo hi : Int) : silFrom hi t l lo = accK l t lo hi l.length ++ silOne (frK l t lo l.length) hi hi := by
  rw [sil_acc l t lo hi l.length (Nat.le_refl _), List.drop_length]
  rfl
theorem frK_bd {l : List Int} {t lo : Int} (hl : ∀ n ∈ l, 0 ≤ n ∧ n ≤ 1000000000000) (ht : 0 ≤ t ∧ t ≤ 1000000000000) (h0 : 0 ≤ lo ∧ lo ≤ 1000000000000) : ∀ k, k ≤ l.length → 0 ≤ frK l t lo k ∧ frK l t lo k ≤ 3000000000000
  | 0, _ => by
    unfold frK
    omega
  | k + 1, h => by
    have := frK_bd hl ht h0 k (by omega)
    have e : l.getD k 0 = l[k]'(by omega) := by simp [List.getElem?_eq_getElem (by omega : k < l.length)]
    have := hl _ (List.getElem_mem (by omega : k < l.length))
    rw [frK, e]
    omega
theorem accK_len (l : List Int) (t lo hi : Int) : ∀ k, (accK l t lo hi k).length ≤ k
  | 0 => Nat.le_refl 0
  | k + 1 => by
    have := accK_len l t lo hi k
    have h1 : (silOne (frK l t lo k) (l.getD k 0 - 1) hi).length ≤ 1 := by
      unfold silOne
      split <;> simp
    rw [accK, List.length_append]
    omega
theorem heard_ok {l : List Int} (h : heardE l = 0) : ∀ n ∈ l, 0 ≤ n ∧ n ≤ 1000000000000 := fun n hn => by
  obtain ⟨j, hj, rfl⟩ := List.getElem_of_mem hn
  have := eachS_ok _ l 0 h j l[j] (List.getElem?_eq_getElem hj)
  simp only [fst_cons, unl_zero (show (2 : Int) ≠ 0 by decide)] at this
  exact inR_iff.1 this.1
/-- A slice of the call's own, and an error. -/
def RetP {α : Type} (cs : α → List Value) (e : TypeId) (sz : Nat) (L : List α) (x : Int) (w : World) (en : Ending) (w' : World) : Prop :=
  ∃ A c, en = .returned (.tuple #[.slice A L.length c, .int .i64 x]) ∧ Below w.heap.size w w' ∧ w'.ownsRow w.heap.size e sz (.slice A L.length c) L.length (L.flatMap cs)
def silR (l : List Int) (s : Rg) (t : Int) : List Rg := if silE l s t = 0 then silS l s t else []
set_option maxHeartbeats 8000000 in
theorem c_SilentIn (l : List Int) (s : Rg) (t : Int) (A : Option Addr) (c : Nat) (w : World) (hs : Sl cI 1 w A l) (hl : l.length ≤ 1000) :
    Calls Tryd.prog 16 #[.slice A l.length c, vRg s, .int .i64 t] w (RetP cRg 24 2 (silR l s t) (silE l s t) w) := by
  obtain ⟨lo, hi⟩ := s
  have Hs := Lib.hid hs
  have hE : Hid (silE l ⟨lo, hi⟩ t = fstE [unl (decide ((l.length : Int) ≤ 60)) 8, heardE l, unl (tickB lo && tickB hi) 2, unl (decide (lo ≤ hi)) 9, unl (tickB t) 2]) := rfl
  have hR0 : Hid (silE l ⟨lo, hi⟩ t ≠ 0 → silR l ⟨lo, hi⟩ t = []) := fun h => by rw [silR, if_neg h]
  have hR1 : Hid (silE l ⟨lo, hi⟩ t = 0 → silR l ⟨lo, hi⟩ t = accK l t lo hi l.length ++ silOne (frK l t lo l.length) hi hi) := fun h => by rw [silR, if_pos h, silS, sil_end]
  have hok : Hid (silE l ⟨lo, hi⟩ t = 0 → (∀ n ∈ l, 0 ≤ n ∧ n ≤ 1000000000000) ∧ (0 ≤ t ∧ t ≤ 1000000000000) ∧ (0 ≤ lo ∧ lo ≤ 1000000000000) ∧ l.length ≤ 60) := fun h => by
    rw [hE.out] at h
    simp only [fst_cons, unl_zero (show (2 : Int) ≠ 0 by decide), unl_zero (show (8 : Int) ≠ 0 by decide), unl_zero (show (9 : Int) ≠ 0 by decide), Bool.and_eq_true, decide_eq_true_eq, tickB, inR_iff] at h
    exact ⟨heard_ok h.2.1, h.2.2.2.2.1, h.2.2.1.1, by omega⟩
  by_cases h60 : l.length ≤ 60
  · have h60' : Hid (unl (decide ((l.length : Int) ≤ 60)) 8 = 0) := Lib.hid (by rw [unl_zero (by decide)]; simp; omega)
    have hE2 : Hid (silE l ⟨lo, hi⟩ t = fstE [heardE l, unl (tickB lo && tickB hi) 2, unl (decide (lo ≤ hi)) 9, unl (tickB t) 2]) := Lib.hid (by rw [hE.out, h60'.out]; rfl)
    clear hE h60' hs
    have hev := Lib.hid fun (B1 B2 : Nat) (ty : TypeId) (W : World) (hb : Below w.heap.size w W) (k1 : Blk W B1 ty #[.func (.func 73) #[] #[]]) (k2 : Blk W B2 3 #[.int .i64 (-1)]) (h2 : w.heap.size ≤ B2) (h12 : B1 ≠ B2) =>
      c_eachJI 76 #[.pointer (some ⟨B1, 0, none⟩), .pointer (some ⟨B2, 0, none⟩)] (fun k n => fstE [unl (tickB n) 2, unl (decide (prevI l k < n)) 9]) (fun k W => Blk W B2 3 #[.int .i64 (prevI l k)]) [B2] A l c W (by omega)
        (enters_of Tryd.func76 (by kernel_rfl) rfl) (fun k X Y h hb => h.below hb)
        (fun k x hx W' hb' hk => (c_sil2 k x (prevI l k) B1 B2 ty W' (k1.keep (by simpa using h12) hb') hk).mono fun e W2 ⟨e1, e2, e3⟩ => ⟨e1, e2, fun _ => by
          have : prevI l (k + 1) = x := by simp [prevI, hx]
          rw [this]
          exact e3⟩)
        (fun W' hb' => sl_new Hs.out ((bx_bl [B2] hb).trans hb') (by simpa using h2)) k2
    have hev2 : Hid ((eachS (fun k n => fstE [unl (tickB n) 2, unl (decide (prevI l k < n)) 9]) l 0).2 = heardE l) := rfl
    obtain ⟨n, Hn⟩ : ∃ n, Hid (l.length = n) := ⟨_, rfl⟩
    have hl60 : Hid (decide ((60 : Int) < n) = false) := Lib.hid (by rw [← Hn.out]; simp; omega)
    rw [Hn.out] at hev hl h60 ⊢
    rw [Hn.out] at hR1 hok
    have hx60 := hl60.out
    have hfin := Lib.hid fun k (h : silE l ⟨lo, hi⟩ t = 0) (hk : k ≤ n) => frK_bd (hok.out h).1 (hok.out h).2.1 (hok.out h).2.2.1 k (by rw [Hn.out]; exact hk)
    have hacl := Lib.hid fun k => accK_len l t lo hi k
    cases hA : tickB lo
    all_goals
      rw [hA] at hE2
      simp only [Bool.false_and, Bool.true_and] at hE2
      go_enter Tryd.func16, Tryd.ntmps16
      go_upto_region 5 with fail
      first
      | apply absB3 (w0 := w) (g0 := w.heap.size) (g1 := w.heap.size + 1) (g2 := w.heap.size + 2)
      | apply absTB3 (w0 := w) (g0 := w.heap.size) (g1 := w.heap.size + 1) (g2 := w.heap.size + 2)
      | apply absIB3 (w0 := w) (g0 := w.heap.size) (g1 := w.heap.size + 1) (g2 := w.heap.size + 2)
      iterate 4 (focus ((with_reducible (repeat' (first | assumption | apply jA | apply jB | apply jC | apply jD | apply jE | apply jF | apply hb3 | apply jG | apply jH | apply jI | apply jJ | apply jK | apply hb3x | (apply jL; first | (simp; done) | rfl) | apply jM | apply jN | apply jO | apply jP | apply jQ | apply jR | apply jS | apply jT (hb := hb3 _ (jA _)) | omega | (simp; done) | (simp; omega) | (dsimp only; omega)))); done))
      intro wa hb0' k0' k1' k2'
      (try simp only [List.setIfInBounds_toArray, List.set_cons_zero, List.set_cons_succ] at k0' k1' k2')
      try clear hb3
      try clear hb0
      try clear k0
      try clear k1
      try clear k2
      have hb0 := hb0'; clear hb0'
      have k0 := k0'; clear k0'
      have k1 := k1'; clear k1'
      have k2 := k2'; clear k2'
      go_wp2_with fail
      refine (hev.out (w.heap.size + 1) (w.heap.size + 2) 120 wa hb0 k1 k2 (by omega) (by omega)).mono ?_
      rintro e w3 ⟨rfl, hbx, -⟩
      rw [hev2.out]
      replace hb0 := bx_below hb0 hbx (by simp)
      replace k0 := k0.keep (by simp) hbx
      replace k1 := k1.keep (by simp) hbx
      clear k2 hbx hev hev2
      have Lk0 := k0.later
      have Fk0 := k0.laterF
      have Qk0 := k0.lt
      have Lk1 := k1.later
      have Fk1 := k1.laterF
      have Qk1 := k1.lt
      go_upto_region 6 with fail
      refine wp_any (w0 := w3) ⟨[24], [], [some 26, some 27, some 28, some 29, some 30, some 31, some 32, some 33, some 34, some 35, some 36, some 37, some 38, some 39, some 40, some 41, some 42, some 43, some 44, some 45, some 46, some 47, some 48, some 49, none], [[], [], [], [2], [1, 2, 3], [1, 2, 3, 4], [1, 2, 3, 4, 5], [1, 2, 3, 4, 5], [1, 2, 3, 4, 5, 7], [1, 2, 3, 4, 5, 6, 7, 8], [1, 2, 3, 4, 5, 6, 7, 8, 9], [1, 2, 3, 4, 5, 6, 7, 8, 9, 10], [], [12], [], [14], [12, 13, 14, 15], [1, 2, 3, 4, 5, 6, 7, 8, 9, 10, 11, 12, 13, 14, 15, 16], [], [], [1, 2, 3, 4, 5, 6, 7, 8, 9, 10, 11, 12, 13, 14, 15, 16, 17, 18, 19], [1, 2, 3, 4, 5, 6, 7, 8, 9, 10, 11, 12, 13, 14, 15, 16, 17, 18, 19, 20], [0, 1, 2, 3, 4, 5, 6, 7, 8, 9, 10, 11, 12, 13, 14, 15, 16, 17, 18, 19, 20, 21], [0, 1, 2, 3, 4, 5, 6, 7, 8, 9, 10, 11, 12, 13, 14, 15, 16, 17, 18, 19, 20, 21, 22], [0, 1, 2, 3, 4, 5, 6, 7, 8, 9, 10, 11, 12, 13, 14, 15, 16, 17, 18, 19, 20, 21, 22, 23]], [[], [], [], [2], [1, 3], [4], [5], [5], [5, 7], [5, 6, 8], [5, 9], [10], [], [12], [], [14], [13, 15], [16], [], [], [18, 19], [20], [0, 11, 17, 21], [22], []]⟩ (fun _ => []) (by kernel_rfl) (by kernel_rfl) (by (with_reducible (repeat' (first | assumption | apply jA | apply jB | apply jC | apply jD | apply jE | apply jF | apply hb3 | omega | (simp; done) | (simp; omega) | (dsimp only; omega))))) (fun u => by simp only [putD, Act.put, List.setIfInBounds_toArray, List.set_cons_zero, List.set_cons_succ, Nat.zero_add, Nat.reduceAdd]; rfl) ?_
      apply RGW.on (i := 0) rfl
      · (simp only [gA, gB, gC] <;> rfl)
      · intro γ u W hcur hd
        clear hd
        (try dsimp only)
        refine ⟨rfl, ?_⟩
        go_simp <;> (try go_bits) <;> with_reducible rfl
      · exact fun _ _ _ => rfl
      · rfl
      dsimp only [nA, cA]
      apply RGW.on (i := 1) rfl
      · (simp only [gA, gB, gC] <;> rfl)
      · intro γ u W hcur hd
        clear hd
        (try dsimp only)
        refine ⟨rfl, ?_⟩
        go_simp <;> (try go_bits) <;> with_reducible rfl
      · exact fun _ _ _ => rfl
      · rfl
      dsimp only [nA, cA]
      apply RGW.on (i := 2) rfl
      · (simp only [gA, gB, gC] <;> rfl)
      · intro γ u W hcur hd
        clear hd
        (try dsimp only)
        refine ⟨rfl, ?_⟩
        go_simp <;> (try go_bits) <;> with_reducible rfl
      · exact fun _ _ _ => rfl
      · rfl
      dsimp only [nA, cA]
      apply RGW.on (i := 3) rfl
      · (simp only [gA, gB, gC] <;> rfl)
      · intro γ u W hcur hd
        obtain ⟨⟨h2, -, -⟩, -⟩ := hd
        dsimp only at h2
        (try simp only [h2])
        refine ⟨rfl, ?_⟩
        go_simp <;> (try go_bits) <;> with_reducible rfl
      · exact fun _ _ _ => rfl
      · rfl
      dsimp only [nA, cA]
      apply RGW.call (i := 4) rfl
      · (simp only [gA, gB, gC] <;> rfl)
      · intro γ u W hcur hd
        obtain ⟨⟨h1, -, -⟩, ⟨h3, -, -⟩, -⟩ := hd
        dsimp only at h1 h3
        (try simp only [h1, h3])
        refine ⟨rfl, fun K hK => ?_⟩
        go_simp
        first
        | (go_at_call 73; (with_reducible refine (c_sil1 _ _).mono ?_); rintro e w3 ⟨rfl, rfl⟩)
        | (go_at_call 78; (with_reducible refine (c_unless _ _ _).mono ?_); rintro e w3 ⟨rfl, rfl⟩)
        | (go_at_call 77; (with_reducible refine (c_first4 (by (with_reducible (repeat' (first | assumption | (apply jL; first | (simp; done) | rfl) | apply jM | apply jN | apply jO | apply jP | apply jQ | apply jR | apply jS | apply jT (hb := hb3 _ (jA _)) | omega | (simp; done) | (simp; omega) | (dsimp only; omega)))))).mono ?_); rintro e w3 ⟨rfl, rfl⟩)
        (try dsimp only)
        exact hK.out _ _ rfl (by (with_reducible (repeat' (first | assumption | apply jA | apply jB | apply jC | apply jD | apply jE | apply jF | apply hb3 | omega | (simp; done) | (simp; omega) | (dsimp only; omega)))))
      · exact fun _ _ _ => rfl
      · rfl
      dsimp only [nA, cA]
      apply RGW.on (i := 5) rfl
      · (simp only [gA, gB, gC] <;> rfl)
      · intro γ u W hcur hd
        obtain ⟨⟨h4, -, -⟩, -⟩ := hd
        dsimp only at h4
        (try simp only [h4])
        refine ⟨rfl, ?_⟩
        go_simp <;> (try go_bits) <;> with_reducible rfl
      · exact fun _ _ _ => rfl
      · rfl
      dsimp only [nA, cA]
      first
      | apply RGW.on (i := 6) rfl
        · (simp only [gA, gB, gC] <;> rfl)
        · intro γ u W hcur hd
          obtain ⟨⟨h5, -, -⟩, -⟩ := hd
          dsimp only at h5
          (try simp only [h5])
          refine ⟨?_, ?_⟩
          · (simp [Region.wanted, yielded, undef, *]; done)
          go_simp <;> (try go_bits) <;> with_reducible rfl
        · exact fun _ _ _ => rfl
        · rfl
      | apply RGW.off (i := 6) rfl
        · (simp only [gA, gB, gC] <;> rfl)
        · intro γ u W hcur hd
          obtain ⟨⟨h5, -, -⟩, -⟩ := hd
          dsimp only at h5
          (try simp only [h5])
          simp [Region.wanted, yielded, undef, *]
        · rfl
      dsimp only [nA, cA]
      first
      | apply RGW.on (i := 7) rfl
        · (simp only [gA, gB, gC] <;> rfl)
        · intro γ u W hcur hd
          obtain ⟨⟨h5, -, -⟩, -⟩ := hd
          dsimp only at h5
          (try simp only [h5])
          refine ⟨?_, ?_⟩
          · (simp [Region.wanted, yielded, undef, *]; done)
          go_simp <;> (try go_bits) <;> with_reducible rfl
        · exact fun _ _ _ => rfl
        · rfl
      | apply RGW.off (i := 7) rfl
        · (simp only [gA, gB, gC] <;> rfl)
        · intro γ u W hcur hd
          obtain ⟨⟨h5, -, -⟩, -⟩ := hd
          dsimp only at h5
          (try simp only [h5])
          simp [Region.wanted, yielded, undef, *]
        · rfl
      dsimp only [nA, cA]
      first
      | apply RGW.on (i := 8) rfl
        · (simp only [gA, gB, gC] <;> rfl)
        · intro γ u W hcur hd
          obtain ⟨⟨h5, -, -⟩, ⟨h7, -, -⟩, -⟩ := hd
          dsimp only at h5 h7
          (try simp only [h5, h7])
          refine ⟨?_, ?_⟩
          · (simp [Region.wanted, yielded, undef, *]; done)
          go_simp <;> (try go_bits) <;> with_reducible rfl
        · exact fun _ _ _ => rfl
        · rfl
      | apply RGW.off (i := 8) rfl
        · (simp only [gA, gB, gC] <;> rfl)
        · intro γ u W hcur hd
          obtain ⟨⟨h5, -, -⟩, ⟨h7, -, -⟩, -⟩ := hd
          dsimp only at h5 h7
          (try simp only [h5, h7])
          simp [Region.wanted, yielded, undef, *]
        · rfl
      dsimp only [nA, cA]
      first
      | apply RGW.call (i := 9) rfl
        · (simp only [gA, gB, gC] <;> rfl)
        · intro γ u W hcur hd
          obtain ⟨⟨h5, -, -⟩, ⟨h6, -, -⟩, ⟨h8, -, -⟩, -⟩ := hd
          dsimp only at h5 h6 h8
          (try simp only [h5, h6, h8])
          refine ⟨?_, fun K hK => ?_⟩
          · (simp [Region.wanted, yielded, undef, *]; done)
          go_simp
          first
          | (go_at_call 73; (with_reducible refine (c_sil1 _ _).mono ?_); rintro e w3 ⟨rfl, rfl⟩)
          | (go_at_call 78; (with_reducible refine (c_unless _ _ _).mono ?_); rintro e w3 ⟨rfl, rfl⟩)
          | (go_at_call 77; (with_reducible refine (c_first4 (by (with_reducible (repeat' (first | assumption | (apply jL; first | (simp; done) | rfl) | apply jM | apply jN | apply jO | apply jP | apply jQ | apply jR | apply jS | apply jT (hb := hb3 _ (jA _)) | omega | (simp; done) | (simp; omega) | (dsimp only; omega)))))).mono ?_); rintro e w3 ⟨rfl, rfl⟩)
          (try dsimp only)
          exact hK.out _ _ rfl (by (with_reducible (repeat' (first | assumption | apply jA | apply jB | apply jC | apply jD | apply jE | apply jF | apply hb3 | omega | (simp; done) | (simp; omega) | (dsimp only; omega)))))
        · exact fun _ _ _ => rfl
        · rfl
      | apply RGW.off (i := 9) rfl
        · (simp only [gA, gB, gC] <;> rfl)
        · intro γ u W hcur hd
          obtain ⟨⟨h5, -, -⟩, ⟨h6, -, -⟩, ⟨h8, -, -⟩, -⟩ := hd
          dsimp only at h5 h6 h8
          (try simp only [h5, h6, h8])
          simp [Region.wanted, yielded, undef, *]
        · rfl
      dsimp only [nA, cA]
      apply RGW.on (i := 10) rfl
      · (simp only [gA, gB, gC] <;> rfl)
      · intro γ u W hcur hd
        obtain ⟨⟨h5, -, -⟩, ⟨h9, -, -⟩, -⟩ := hd
        dsimp only at h5 h9
        (try simp only [h5, h9])
        refine ⟨rfl, ?_⟩
        go_simp <;> (try go_bits) <;> with_reducible rfl
      · exact fun _ _ _ => rfl
      · rfl
      dsimp only [nA, cA]
      apply RGW.call (i := 11) rfl
      · (simp only [gA, gB, gC] <;> rfl)
      · intro γ u W hcur hd
        obtain ⟨⟨h10, -, -⟩, -⟩ := hd
        dsimp only at h10
        (try simp only [h10])
        refine ⟨rfl, fun K hK => ?_⟩
        go_simp
        first
        | (go_at_call 73; (with_reducible refine (c_sil1 _ _).mono ?_); rintro e w3 ⟨rfl, rfl⟩)
        | (go_at_call 78; (with_reducible refine (c_unless _ _ _).mono ?_); rintro e w3 ⟨rfl, rfl⟩)
        | (go_at_call 77; (with_reducible refine (c_first4 (by (with_reducible (repeat' (first | assumption | (apply jL; first | (simp; done) | rfl) | apply jM | apply jN | apply jO | apply jP | apply jQ | apply jR | apply jS | apply jT (hb := hb3 _ (jA _)) | omega | (simp; done) | (simp; omega) | (dsimp only; omega)))))).mono ?_); rintro e w3 ⟨rfl, rfl⟩)
        (try dsimp only)
        exact hK.out _ _ rfl (by (with_reducible (repeat' (first | assumption | apply jA | apply jB | apply jC | apply jD | apply jE | apply jF | apply hb3 | omega | (simp; done) | (simp; omega) | (dsimp only; omega)))))
      · exact fun _ _ _ => rfl
      · rfl
      dsimp only [nA, cA]
      apply RGW.on (i := 12) rfl
      · (simp only [gA, gB, gC] <;> rfl)
      · intro γ u W hcur hd
        clear hd
        (try dsimp only)
        refine ⟨rfl, ?_⟩
        go_simp <;> (try go_bits) <;> with_reducible rfl
      · exact fun _ _ _ => rfl
      · rfl
      dsimp only [nA, cA]
      apply RGW.on (i := 13) rfl
      · (simp only [gA, gB, gC] <;> rfl)
      · intro γ u W hcur hd
        obtain ⟨⟨h12, -, -⟩, -⟩ := hd
        dsimp only at h12
        (try simp only [h12])
        refine ⟨rfl, ?_⟩
        go_simp <;> (try go_bits) <;> with_reducible rfl
      · exact fun _ _ _ => rfl
      · rfl
      dsimp only [nA, cA]
      apply RGW.on (i := 14) rfl
      · (simp only [gA, gB, gC] <;> rfl)
      · intro γ u W hcur hd
        clear hd
        (try dsimp only)
        refine ⟨rfl, ?_⟩
        go_simp <;> (try go_bits) <;> with_reducible rfl
      · exact fun _ _ _ => rfl
      · rfl
      dsimp only [nA, cA]
      apply RGW.on (i := 15) rfl
      · (simp only [gA, gB, gC] <;> rfl)
      · intro γ u W hcur hd
        obtain ⟨⟨h14, -, -⟩, -⟩ := hd
        dsimp only at h14
        (try simp only [h14])
        refine ⟨rfl, ?_⟩
        go_simp <;> (try go_bits) <;> with_reducible rfl
      · exact fun _ _ _ => rfl
      · rfl
      dsimp only [nA, cA]
      apply RGW.on (i := 16) rfl
      · (simp only [gA, gB, gC] <;> rfl)
      · intro γ u W hcur hd
        obtain ⟨⟨h13, -, -⟩, ⟨h15, -, -⟩, -⟩ := hd
        dsimp only at h13 h15
        (try simp only [h13, h15])
        refine ⟨rfl, ?_⟩
        go_simp <;> (try go_bits) <;> with_reducible rfl
      · exact fun _ _ _ => rfl
      · rfl
      dsimp only [nA, cA]
      apply RGW.call (i := 17) rfl
      · (simp only [gA, gB, gC] <;> rfl)
      · intro γ u W hcur hd
        obtain ⟨⟨h16, -, -⟩, -⟩ := hd
        dsimp only at h16
        (try simp only [h16])
        refine ⟨rfl, fun K hK => ?_⟩
        go_simp
        first
        | (go_at_call 73; (with_reducible refine (c_sil1 _ _).mono ?_); rintro e w3 ⟨rfl, rfl⟩)
        | (go_at_call 78; (with_reducible refine (c_unless _ _ _).mono ?_); rintro e w3 ⟨rfl, rfl⟩)
        | (go_at_call 77; (with_reducible refine (c_first4 (by (with_reducible (repeat' (first | assumption | (apply jL; first | (simp; done) | rfl) | apply jM | apply jN | apply jO | apply jP | apply jQ | apply jR | apply jS | apply jT (hb := hb3 _ (jA _)) | omega | (simp; done) | (simp; omega) | (dsimp only; omega)))))).mono ?_); rintro e w3 ⟨rfl, rfl⟩)
        (try dsimp only)
        exact hK.out _ _ rfl (by (with_reducible (repeat' (first | assumption | apply jA | apply jB | apply jC | apply jD | apply jE | apply jF | apply hb3 | omega | (simp; done) | (simp; omega) | (dsimp only; omega)))))
      · exact fun _ _ _ => rfl
      · rfl
      dsimp only [nA, cA]
      apply RGW.on (i := 18) rfl
      · (simp only [gA, gB, gC] <;> rfl)
      · intro γ u W hcur hd
        clear hd
        (try dsimp only)
        refine ⟨rfl, ?_⟩
        go_simp <;> (try go_bits) <;> with_reducible rfl
      · exact fun _ _ _ => rfl
      · rfl
      dsimp only [nA, cA]
      apply RGW.on (i := 19) rfl
      · (simp only [gA, gB, gC] <;> rfl)
      · intro γ u W hcur hd
        clear hd
        (try dsimp only)
        refine ⟨rfl, ?_⟩
        go_simp <;> (try go_bits) <;> with_reducible rfl
      · exact fun _ _ _ => rfl
      · rfl
      dsimp only [nA, cA]
      apply RGW.call (i := 20) rfl
      · (simp only [gA, gB, gC] <;> rfl)
      · intro γ u W hcur hd
        obtain ⟨⟨h18, -, -⟩, ⟨h19, -, -⟩, -⟩ := hd
        dsimp only at h18 h19
        (try simp only [h18, h19])
        refine ⟨rfl, fun K hK => ?_⟩
        go_simp
        first
        | (go_at_call 73; (with_reducible refine (c_sil1 _ _).mono ?_); rintro e w3 ⟨rfl, rfl⟩)
        | (go_at_call 78; (with_reducible refine (c_unless _ _ _).mono ?_); rintro e w3 ⟨rfl, rfl⟩)
        | (go_at_call 77; (with_reducible refine (c_first4 (by (with_reducible (repeat' (first | assumption | (apply jL; first | (simp; done) | rfl) | apply jM | apply jN | apply jO | apply jP | apply jQ | apply jR | apply jS | apply jT (hb := hb3 _ (jA _)) | omega | (simp; done) | (simp; omega) | (dsimp only; omega)))))).mono ?_); rintro e w3 ⟨rfl, rfl⟩)
        (try dsimp only)
        exact hK.out _ _ rfl (by (with_reducible (repeat' (first | assumption | apply jA | apply jB | apply jC | apply jD | apply jE | apply jF | apply hb3 | omega | (simp; done) | (simp; omega) | (dsimp only; omega)))))
      · exact fun _ _ _ => rfl
      · rfl
      dsimp only [nA, cA]
      apply RGW.call (i := 21) rfl
      · (simp only [gA, gB, gC] <;> rfl)
      · intro γ u W hcur hd
        obtain ⟨⟨h20, -, -⟩, -⟩ := hd
        dsimp only at h20
        (try simp only [h20])
        refine ⟨rfl, fun K hK => ?_⟩
        go_simp
        first
        | (go_at_call 73; (with_reducible refine (c_sil1 _ _).mono ?_); rintro e w3 ⟨rfl, rfl⟩)
        | (go_at_call 78; (with_reducible refine (c_unless _ _ _).mono ?_); rintro e w3 ⟨rfl, rfl⟩)
        | (go_at_call 77; (with_reducible refine (c_first4 (by (with_reducible (repeat' (first | assumption | (apply jL; first | (simp; done) | rfl) | apply jM | apply jN | apply jO | apply jP | apply jQ | apply jR | apply jS | apply jT (hb := hb3 _ (jA _)) | omega | (simp; done) | (simp; omega) | (dsimp only; omega)))))).mono ?_); rintro e w3 ⟨rfl, rfl⟩)
        (try dsimp only)
        exact hK.out _ _ rfl (by (with_reducible (repeat' (first | assumption | apply jA | apply jB | apply jC | apply jD | apply jE | apply jF | apply hb3 | omega | (simp; done) | (simp; omega) | (dsimp only; omega)))))
      · exact fun _ _ _ => rfl
      · rfl
      dsimp only [nA, cA]
      apply RGW.bslice (i := 22) rfl
      · (simp only [gA, gB, gC] <;> rfl)
      · intro γ u W hcur hd
        obtain ⟨⟨h0, -, -⟩, ⟨h11, -, -⟩, ⟨h17, -, -⟩, ⟨h21, -, -⟩, -⟩ := hd
        dsimp only at h0 h11 h17 h21
        (try simp only [h0, h11, h17, h21])
        refine ⟨rfl, fun K hK => ?_⟩
        go_simp
        exact hK.out _ _ rfl rfl
      · exact fun _ _ _ => rfl
      · rfl
      · rfl
      dsimp only [nA, cA]
      apply RGW.call (i := 23) rfl
      · (simp only [gA, gB, gC] <;> rfl)
      · intro γ u W hcur hd
        obtain ⟨⟨h22, r22, -⟩, -⟩ := hd
        dsimp only at h22 r22
        have L22 := r22.cell
        (try simp only [h22])
        refine ⟨rfl, fun K hK => ?_⟩
        go_simp
        first
        | (go_at_call 73; (with_reducible refine (c_sil1 _ _).mono ?_); rintro e w3 ⟨rfl, rfl⟩)
        | (go_at_call 78; (with_reducible refine (c_unless _ _ _).mono ?_); rintro e w3 ⟨rfl, rfl⟩)
        | (go_at_call 77; (with_reducible refine (c_first4 (by (with_reducible (repeat' (first | assumption | (apply jL; first | (simp; done) | rfl) | apply jM | apply jN | apply jO | apply jP | apply jQ | apply jR | apply jS | apply jT (hb := hb3 _ (jA _)) | omega | (simp; done) | (simp; omega) | (dsimp only; omega)))))).mono ?_); rintro e w3 ⟨rfl, rfl⟩)
        (try dsimp only)
        exact hK.out _ _ rfl (by (with_reducible (repeat' (first | assumption | apply jA | apply jB | apply jC | apply jD | apply jE | apply jF | apply hb3 | omega | (simp; done) | (simp; omega) | (dsimp only; omega)))))
      · first
        | exact fun _ _ _ => rfl
        | intro γ γ' hg
          try dsimp only
          have e22 := hg 22 (by decide)
          simp only [e22]
      · rfl
      dsimp only [nA, cA]
      refine RGW.skip (i := 24) rfl rfl ?_
      dsimp only [nA, cA]
      refine RGW.fin (fun γ u wb hwb hd hdis => ?_)
      obtain ⟨⟨h0, -, -⟩, ⟨h1, -, -⟩, ⟨h2, -, -⟩, ⟨h3, -, -⟩, ⟨h4, -, -⟩, ⟨h5, -, -⟩, ⟨h6, -, -⟩, ⟨h7, -, -⟩, ⟨h8, -, -⟩, ⟨h9, -, -⟩, ⟨h10, -, -⟩, ⟨h11, -, -⟩, ⟨h12, -, -⟩, ⟨h13, -, -⟩, ⟨h14, -, -⟩, ⟨h15, -, -⟩, ⟨h16, -, -⟩, ⟨h17, -, -⟩, ⟨h18, -, -⟩, ⟨h19, -, -⟩, ⟨h20, -, -⟩, ⟨h21, -, -⟩, ⟨h22, r22, b22⟩, ⟨h23, -, -⟩, -⟩ := hd
      dsimp only at h0 h1 h2 h3 h4 h5 h6 h7 h8 h9 h10 h11 h12 h13 h14 h15 h16 h17 h18 h19 h20 h21 h22 h23 r22 b22
      clear hdis
      simp only [h0, h1, h2, h3, h4, h5, h6, h7, h8, h9, h10, h11, h12, h13, h14, h15, h16, h17, h18, h19, h20, h21, h22, h23]
      clear h23 h22 h21 h20 h19 h18 h17 h16 h15 h14 h13 h12 h11 h10 h9 h8 h7 h6 h5 h4 h3 h2 h1 h0
      replace b22 := b22 _ (List.mem_singleton.2 rfl)
      generalize hγ22 : (γ 22).n = g22 at *
      clear hγ22
      clear u
      simp only [List.map_cons, List.map_nil]
      apply PlanW.step
      · (simp only [gA, gB, gC] <;> rfl)
      · rfl
      intro K hK
      go_simp
      refine hK.out _ _ (by with_reducible first | assumption | exact bx_refl _ _) (fun hcur => ?_)
      clear hK K
      try simp only [Act.put, List.setIfInBounds_toArray, List.set_cons_zero, List.set_cons_succ]
      refine PlanW.done ?_
      have hb3 := bl_tt hwb
      rw [← hE2.out]
      have hbw := hb3 _ hb0
      replace k0 := k0.below hwb
      clear k1 Lk0 Lk1 Fk0 Fk1 Qk0 Qk1 hwb hb3 hE2
      have L0 := k0.later
      have hq1 := k0.lt
      generalize silE l ⟨lo, hi⟩ t = E at *
      by_cases h0 : E = 0
      · have h0' : (E != 0) = false := by simp [h0]
        have hR := Lib.hid (hR1.out h0)
        obtain ⟨hok1, ⟨ht1, ht2⟩, ⟨hlo1, hlo2⟩, -⟩ := hok.out h0
        replace hok1 := Lib.hid hok1
        have hfr := Lib.hid fun k hk => hfin.out k h0 hk
        replace h0 := Lib.hid h0
        clear hR0 hR1 hok hfin
        go_upto_region 12 with fail
        clear hb0
        have hb0 := hbw
        first
        | apply absB3 (w0 := w) (g0 := w.heap.size) (g1 := wb.heap.size) (g2 := wb.heap.size + 1)
        | apply absTB3 (w0 := w) (g0 := w.heap.size) (g1 := wb.heap.size) (g2 := wb.heap.size + 1)
        | apply absIB3 (w0 := w) (g0 := w.heap.size) (g1 := wb.heap.size) (g2 := wb.heap.size + 1)
        iterate 4 (focus ((with_reducible (repeat' (first | assumption | apply jA | apply jB | apply jC | apply jD | apply jE | apply jF | apply hb3 | apply jG | apply jH | apply jI | apply jJ | apply jK | apply hb3x | (apply jL; first | (simp; done) | rfl) | apply jM | apply jN | apply jO | apply jP | apply jQ | apply jR | apply jS | apply jT (hb := hb3 _ (jA _)) | omega | (simp; done) | (simp; omega) | (dsimp only; omega)))); done))
        intro wc hb0' k0' k3' k4'
        (try simp only [List.setIfInBounds_toArray, List.set_cons_zero, List.set_cons_succ] at k0' k3' k4')
        try clear hb3
        try clear hb0
        try clear k0
        try clear k3
        try clear k4
        have hb0 := hb0'; clear hb0'
        have k0 := k0'; clear k0'
        have k3 := k3'; clear k3'
        have k4 := k4'; clear k4'
        have hq0 := hbw.size
        have hq4 := k4.lt
        clear L0
        go_wp2
        go_loopw [58] (fun i wr => ∃ k : Nat, k ≤ n ∧ i = .int .i64 k ∧ Below w.heap.size w wr ∧ Blk wr w.heap.size 24 #[.int .i64 lo, .int .i64 hi] ∧ Blk wr (wb.heap.size + 1) 3 #[.int .i64 (frK l t lo k)] ∧ wc.heap.size ≤ wr.heap.size ∧
          ∃ v, Blk wr wb.heap.size 27 #[v] ∧ wr.ownsRow wc.heap.size 24 2 v (accK l t lo hi k).length ((accK l t lo hi k).flatMap cRg)) (fun i _ => n - (intOf i).toNat)
        case atStart => exact ⟨0, Nat.zero_le _, rfl, hb0, k0, k4, Nat.le_refl _, _, k3, World.ownsRow_nil _ _ _ _⟩
        case round =>
          clear k0 k3 k4 hb0
          obtain ⟨k, hk, rfl, hb0, ks, kf, hwr, v, ko, hown⟩ := hrel
          have hkb := hfr.out k hk
          have hka := hacl.out k
          by_cases hlt : k < n
          · have hx : l[k]? = some (l[k]'(by rw [Hn.out]; exact hlt)) := List.getElem?_eq_getElem _
            generalize l[k]'(by rw [Hn.out]; exact hlt) = x at hx
            have hxb := hok1.out x (List.mem_of_getElem? hx)
            have hf1 : Hid (frK l t lo (k + 1) = max (frK l t lo k) (x + t + 1)) := Lib.hid (by rw [frK]; simp [hx])
            have ha1 : Hid (accK l t lo hi (k + 1) = accK l t lo hi k ++ silOne (frK l t lo k) (x - 1) hi) := Lib.hid (by rw [accK]; simp [hx])
            obtain ⟨b, off, rfl, hc⟩ := (Hs.out.below hb0) k x hx
            have c0 : wr.cell? ⟨b, off + k, none⟩ = some (.int .i64 x) := by simpa using hc 0 _ rfl
            have hcall := Lib.hid (c_sil3 (x - 1) (frK l t lo k) lo hi (accK l t lo hi k) v w.heap.size (wb.heap.size + 1) wb.heap.size wc.heap.size w.heap.size wr ks kf ko hown (by omega) (by omega) (by omega) (by omega) (by omega) (by omega) (by omega) hwr)
            generalize frK l t lo k = fk at *
            clear hc hx ks kf ko hown
            go_wp2_with fail
            refine hcall.out.mono ?_
            rintro e w4 ⟨⟨u, rfl⟩, hb4, ks, kf, v', ko, hown⟩
            have hb5 : Below w.heap.size w w4 := hb0.trans hb4
            have hs4 := hb4.size
            have Lf := kf.cell
            have Ff := kf.frozen
            replace hown := Lib.hid hown
            clear c0 hb4 hcall
            go_wp2
            go_roundw
            case rel => exact ⟨k + 1, by omega, by go_num, hb5.setCell (by simp; omega) _, ks.other (by simp; omega) _, by rw [hf1.out]; exact kf.set1 (by simp), by simp [World.setCell]; omega, v', ko.other (by simp) _, by rw [ha1.out]; exact own_set _ hown.out (by omega)⟩
            case measure => simp [intOf]; omega
          · have : k = n := by omega
            subst this
            have Ls := ks.cell
            have hcall := Lib.hid (c_sil3 hi (frK l t lo k) lo hi (accK l t lo hi k) v w.heap.size (wb.heap.size + 1) wb.heap.size wc.heap.size w.heap.size wr ks kf ko hown (by omega) (by omega) (by omega) (by omega) (by omega) (by omega) (by omega) hwr)
            generalize silOne (frK l t lo k) hi hi = so at *
            clear ks kf ko hown
            go_wp2_with fail
            refine hcall.out.mono ?_
            rintro e w4 ⟨⟨u, rfl⟩, hb4, ks, kf, v', ko, hown⟩
            obtain ⟨A', c', rfl⟩ := own_slice hown
            have hb5 : Below w.heap.size w w4 := hb0.trans hb4
            have Lo := ko.cell
            replace hown := Lib.hid hown
            clear hb4 hcall
            go_wp2
            go_ret2
            exact ⟨A', c', by rw [hR.out, h0.out, List.length_append] <;> rfl, hb5, by rw [hR.out]; exact own_mono (by omega) hown.out⟩
      · have h0' : (E != 0) = true := by simp [h0]
        have hR := Lib.hid (hR0.out h0)
        replace h0 := Lib.hid h0
        go_wp2
        go_ret2
        exact ⟨none, 0, by rw [hR.out] <;> rfl, hbw, by rw [hR.out]; exact World.ownsRow_nil _ _ _ _⟩
  · have hE60 : Hid (silE l ⟨lo, hi⟩ t = 8) := Lib.hid (by rw [hE.out]; simp [fstE, unl]; omega)
    have h0 : silE l ⟨lo, hi⟩ t ≠ 0 := by rw [hE60.out]; decide
    have hR := Lib.hid (hR0.out h0)
    have h60' : decide ((60 : Int) < (l.length : Int)) = true := by simp; omega
    clear hE hR0 hR1 hok h0
    generalize l.length = n at *
    go_enter Tryd.func16, Tryd.ntmps16
    go_wp2
    go_ret2
    exact ⟨none, 0, by rw [hR.out, hE60.out] <;> rfl, by solve_by_elim (maxDepth := 60) only [bl_al, bl_drew, bl_drewN, bl_refl, *], by rw [hR.out]; exact World.ownsRow_nil _ _ _ _⟩
end Go.Proofs.YtdlmkblmljhbfaaDoor
namespace Go.Proofs.YtdlmkblmljhbfaaDoor
set_option linter.unusedSimpArgs false
set_option linter.unusedVariables false
open Go.RowKit Go.Shelf
attribute [local go_sem] bl_al bl_drew bl_drewN bl_refl bx_al bx_drew bx_drewN bx_refl
set_option maxRecDepth 20000
theorem St.zero (n : Nat) : St 0 n ss0 := ⟨fun _ _ => rfl, fun _ => Nat.le_refl _, fun _ m hm => by simp [ss0] at hm, fun _ => by simp [ss0]⟩
theorem St.step {ch : (Nat → List (Int × Int)) → Int} {l : List Sm} {st : List Int} {t : Nat} {s : Ss} (ho : Opn l st) (h : St t l.length s) : St (t + 1) l.length (carS ch l st t s).1 := by
  have hm := fun i => sendS_msg ho h i
  have hn : ∀ i, l.length ≤ i → sendS l st t s.q i = [] := fun i hi => by rw [sendS_none hi]; exact h.none i hi
  have hw := h.wor
  have hbase : St (t + 1) l.length ⟨sendS l st t s.q, s.wo⟩ := ⟨hn, fun i => (hm i).1, fun i m hmm => by have := (hm i).2 m hmm; omega, fun i => by have := hw i; dsimp only; omega⟩
  unfold carS
  generalize sendS l st t s.q = q at *
  split
  · exact hbase
  · generalize (ch q).toNat = i at *
    split
    · exact hbase
    · rename_i a k r hq
      have hin : ¬ l.length ≤ i := fun hi => by rw [hn i hi] at hq; cases hq
      have hmi := hm i
      rw [hq] at hmi
      have hak := hmi.2 (a, k) (by simp)
      have hr := fun m (hmr : m ∈ r) => hmi.2 m (by simp [hmr])
      have hlr := hmi.1
      simp only [List.length_cons] at hlr hak
      split
      · rename_i hk
        refine ⟨fun j hj => ?_, fun j => ?_, fun j m hj => ?_, fun j => ?_⟩
        · have : j ≠ i := fun e => hin (e ▸ hj)
          simp only [upF, if_neg this]
          exact hn j hj
        · simp only [upF]
          split
          · omega
          · exact (hm j).1
        · simp only [upF] at hj
          split at hj
          · have := hr m hj; omega
          · have := (hm j).2 m hj; omega
        · simp only [upF]
          have h1 := hw i
          have h2 := hw j
          split <;> omega
      · rename_i hk
        refine ⟨fun j hj => ?_, fun j => ?_, fun j m hj => ?_, fun j => by have := hw j; dsimp only; omega⟩
        · have : j ≠ i := fun e => hin (e ▸ hj)
          simp only [upF, if_neg this]
          exact hn j hj
        · simp only [upF]
          split
          · simp only [List.length_cons]; omega
          · exact (hm j).1
        · simp only [upF] at hj
          split at hj
          · rcases List.mem_cons.1 hj with rfl | hj
            · simp only; omega
            · have := hr m hj; omega
          · have := (hm j).2 m hj; omega
theorem St.run {ch : (Nat → List (Int × Int)) → Int} {l : List Sm} {st : List Int} (ho : Opn l st) : ∀ t : Nat, St t l.length (runS ch l st t).1
  | 0 => St.zero _
  | t + 1 => St.step ho (St.run ho t)
theorem runS_len (ch : (Nat → List (Int × Int)) → Int) (l : List Sm) (st : List Int) : ∀ t : Nat, (runS ch l st t).2.length = t
  | 0 => rfl
  | t + 1 => by simp [runS, runS_len ch l st t]
theorem own_keep {b n : Nat} {X : List Nat} {A B : World} {e : TypeId} {size : Nat} {v : Value} {xs : List Value} (h : A.ownsRow b e size v n xs) (hk : BX X A B) (hX : ∀ g, v.ownBlock = some g → g ∉ X) : B.ownsRow b e size v n xs := by
  refine ⟨h.1, ?_⟩
  rcases h.2 with h2 | ⟨g, cap, cur, e1, e2, e3, e4⟩
  · exact .inl h2
  · refine .inr ⟨g, cap, cur, e1, e2, (hk.block g (Array.getElem?_eq_some_iff.1 e3).1 (hX g (by rw [e1]; rfl))).trans e3, e4⟩
theorem own_lt {b n : Nat} {A : World} {e : TypeId} {size : Nat} {v : Value} {xs : List Value} (h : A.ownsRow b e size v n xs) : ∀ g, v.ownBlock = some g → g < A.heap.size := fun k hk => by
  rcases h.2 with ⟨e0, _⟩ | ⟨g, cap, cur, e1, e2, e3, e4⟩
  · rw [e0] at hk; simp [Value.ownBlock] at hk
  · rw [e1] at hk; simp [Value.ownBlock] at hk; subst hk; exact (Array.getElem?_eq_some_iff.1 e3).1
theorem bx_grown {X : List Nat} {w A B : World} {row : Option Nat} (h : BX X w A) (hg : A.grownBy B row) (hr : ∀ g, row = some g → w.heap.size ≤ g) (hX : ∀ g ∈ X, g < w.heap.size) : BX X w B :=
  ⟨hg.os.trans h.os, hg.tape.trans h.tape, hg.output.trans h.output, Nat.le_trans h.size hg.size, fun i hi hiX => (hg.block i (Nat.lt_of_lt_of_le hi h.size) (fun e => by have := hr i e.symm; omega)).trans (h.block i hi hiX), fun g hgX t cs hk => by
    obtain ⟨c1, k1, e1⟩ := h.shape g hgX t cs hk
    exact ⟨c1, (hg.block g k1.lt (fun e => by have := hr g e.symm; have := hX g hgX; omega)).trans k1, e1⟩⟩
theorem Snd.grown {b S Bw n : Nat} {vl vs : Value} {Q : QS} {s : Ss} {w w' : World} {row : Option Nat} (h : Snd b S Bw vl vs n Q s w) (hg : w.grownBy w' row) (hr : ∀ g ∈ foot S Bw Q, some g ≠ row) : Snd b S Bw vl vs n Q s w' := by
  have key : ∀ {g t cs}, Blk w g t cs → g ∈ foot S Bw Q → Blk w' g t cs := fun hk hm => (hg.block _ hk.lt (hr _ hm)).trans hk
  refine ⟨key h.blk (by simp [foot]), key h.wor (by simp [foot]), fun i hi => ?_, h.bS, h.bW, h.SW, h.dis, h.dS, h.dW⟩
  rcases h.que i hi with h1 | ⟨g, off, cs, e, h1, h2, h3⟩
  · exact .inl h1
  · exact .inr ⟨g, off, cs, e, h1, key h2 (foot_q hi (by rw [e]; simp [blA])), h3⟩
set_option maxHeartbeats 8000000 in
theorem c_run (fn : FuncId) (ch : (Nat → List (Int × Int)) → Int) (l : List Sm) (st : List Int) (T : Nat) (Al As : Option Addr) (cl cs S Bw : Nat) (Q : QS) (w0 w : World) (ho : Opn l st) (hT : T ≤ 400)
    (hw : Below w0.heap.size w0 w) (hl : Sl cSm 4 w0 Al l) (hst : Sl cI 1 w0 As st) (h : Snd w0.heap.size S Bw (.slice Al l.length cl) (.slice As st.length cs) l.length Q ss0 w)
    (he : Enters Tryd.prog fn) (hch : ∀ Q s w, Snd w0.heap.size S Bw (.slice Al l.length cl) (.slice As st.length cs) l.length Q s w → Calls Tryd.prog fn #[.pointer (some ⟨S, 0, none⟩)] w (Ret (.int .i64 (ch s.q)) w))
    (hcr : ∀ q, ch q = -1 ∨ ∃ i : Nat, i < 6 ∧ ch q = i ∧ q i ≠ []) :
    Calls Tryd.prog 96 #[.pointer (some ⟨S, 0, none⟩), .int .i64 T, .func (.func fn) #[.pointer (some ⟨S, 0, none⟩)] #[]] w
      (fun e w' => ∃ A c, e = .returned (.slice A T c) ∧ w'.ownsRow w.heap.size 3 1 (.slice A T c) T ((runS ch l st T).2.map (.int .i64)) ∧
        ∃ Q', Snd w0.heap.size S Bw (.slice Al l.length cl) (.slice As st.length cs) l.length Q' (runS ch l st T).1 w' ∧ BX (foot S Bw Q) w w') := by
  obtain ⟨i0, hi, hz0, hz1, hz2⟩ := info_parts infoI
  have hcar := Lib.hid fun (t : Nat) (ht : t < T) (Q' : QS) (W : World) (hb : Below w0.heap.size w0 W) (h' : Snd w0.heap.size S Bw (.slice Al l.length cl) (.slice As st.length cs) l.length Q' (runS ch l st t).1 W) =>
    c_carry fn ch l st t Al As cl cs S Bw Q' (runS ch l st t).1 w0 W ho (by omega) hb hl hst h' (St.run ho t) he hch hcr
  have hft := Lib.hid h.foot_ge
  have Hw := Lib.hid hw
  have H := Lib.hid h
  have hst1 := Lib.hid fun t => (show (runS ch l st (t + 1)).2 = (runS ch l st t).2 ++ [(carS ch l st t (runS ch l st t).1).2] from rfl)
  have hst2 := Lib.hid fun t : Nat => (show (runS ch l st (t + 1)).1 = (carS ch l st t (runS ch l st t).1).1 from rfl)
  clear hch hcr he hl hst ho hw h
  generalize l.length = n at *
  generalize st.length = m at *
  go_enter Tryd.func96, Tryd.ntmps96
  go_wp2
  go_loopw [7, 10] (fun o i wr => ∃ t : Nat, t ≤ T ∧ i = .int .i64 t ∧ ∃ Q', Snd w0.heap.size S Bw (.slice Al n cl) (.slice As m cs) n Q' (runS ch l st t).1 wr ∧ BX (foot S Bw Q) w wr ∧ (∀ g ∈ foot S Bw Q', g ∈ foot S Bw Q ∨ w.heap.size ≤ g) ∧
    wr.ownsRow w.heap.size 3 1 o t ((runS ch l st t).2.map (.int .i64)) ∧ ∀ g, o.ownBlock = some g → g ∉ foot S Bw Q') (fun _ i _ => T - (intOf i).toNat)
  case atStart => exact ⟨0, Nat.zero_le _, rfl, Q, H.out, bx_refl _ _, fun g hg => .inl hg, World.ownsRow_nil _ _ _ _, fun g hg => by simp [Value.ownBlock] at hg⟩
  case round =>
    obtain ⟨t, ht, rfl, Q', h1, h2, h3, h4, h5⟩ := hrel
    by_cases htT : t < T
    rotate_left
    · go_wp2
      go_ret
      have e : t = T := by omega
      subst e
      obtain ⟨A, c, rfl⟩ := own_slice h4
      exact ⟨A, c, rfl, h4, Q', h1, h2⟩
    have hbr := bx_below Hw.out h2 (fun x hx => (hft.out x hx).1)
    go_wp2_with fail
    refine (hcar.out t htT Q' wr hbr h1).mono ?_
    rintro e w3 ⟨rfl, Q3, k1, k2, k3⟩
    rw [← hst2.out t] at k1
    have hs1 := hst1.out t
    generalize (carS ch l st t (runS ch l st t).1).2 = v at *
    have hown3 := own_keep h4 k2 h5
    have hlt4 := own_lt h4
    have hge4 := own_ge h4
    have h7 : ∀ g ∈ foot S Bw Q3, g ∈ foot S Bw Q' ∨ wr.heap.size ≤ g := foot_new k3
    have hsz := h2.size
    have hsz2 := k2.size
    have hf3 := Lib.hid k1.foot_ge
    go_wp2_with (at_builtin; refine wpList_append_own_at _ rfl _ _ 22 rfl w.heap.size 3 i0 (.int .i64 0) 1 8 Tryd.underlying22 hi hz0 hz1 hz2 rfl (by decide) _ _ _ rfl (hown3.alloc _) ⟨w3.heap.size, 0, none⟩ 1 1 [.int .i64 v] rfl rfl ?c1 ?c2 ?c3 ?c4 ?c5 ?_)
    case c1 =>
      intro j u hj
      match j, hj with
      | 0, hj => simp at hj; subst hj; simp [Addr.add]
    case c2 => intro u hu; simp at hu; subst hu; rfl
    case c3 => unfold maxLen; omega
    case c4 => omega
    case c5 => simp; omega
    intro v' w4 hown' hgrow hnil hat
    have hout : ∀ g, u7.ownBlock = some g → g ∉ foot S Bw Q3 := fun g hg hm => by
      rcases h7 g hm with h | h
      · exact h5 g hg h
      · have := hlt4 g hg; omega
    have hsnd := (k1.below (bl_al (.cells #[.int .i64 v] 3) (bl_refl w3))).grown hgrow (fun g hg e => hout g e.symm hg)
    have hbx := bx_grown ((bx_trX h2 k2 h3).step (bl_al (.cells #[.int .i64 v] 3) (bl_refl w3))) hgrow hge4 (fun g hg => (hft.out g hg).2)
    have hnew : ∀ g ∈ foot S Bw Q3, g ∈ foot S Bw Q ∨ w.heap.size ≤ g := fun g hg => by
      rcases h7 g hg with h | h
      · exact h3 g h
      · exact .inr (by omega)
    have hdis : ∀ g, v'.ownBlock = some g → g ∉ foot S Bw Q3 := fun g hg hm => by
      rcases hat with e | e
      · exact hout g (e ▸ hg) hm
      · rw [e] at hg
        simp at hg
        have := (hf3.out g hm).2
        omega
    clear hat hnil hgrow hout hown3 hlt4 hge4 k2 k3 hf3
    go_wp2
    go_roundw
    case rel => exact ⟨t + 1, by omega, by go_num, Q3, hsnd, hbx, hnew, by rw [hs1]; simpa using hown', hdis⟩
    case measure => simp [intOf]; omega
end Go.Proofs.YtdlmkblmljhbfaaDoor
