/-
  Walks: a sender's tick: what is carried.
-/
import Derived.Test.YtdlmkblmljhbfaaDoorTurn
import Derived.Test.YtdlmkblmljhbfaaDoorPrio
namespace Go.Proofs.YtdlmkblmljhbfaaDoor
set_option linter.unusedSimpArgs false
set_option linter.unusedVariables false
open Go.RowKit Go.Shelf
attribute [local go_sem] bl_al bl_drew bl_drewN bl_refl bx_al bx_drew bx_drewN bx_refl
set_option maxRecDepth 20000
theorem bx_trX {X Y : List Nat} {w w1 w2 : World} (h1 : BX X w w1) (h2 : BX Y w1 w2) (hY : ∀ y ∈ Y, y ∈ X ∨ w.heap.size ≤ y) : BX X w w2 :=
  ⟨h2.os.trans h1.os, h2.tape.trans h1.tape, h2.output.trans h1.output, Nat.le_trans h1.size h2.size, fun i hi hX =>
    (h2.block i (Nat.lt_of_lt_of_le hi h1.size) (fun hm => by rcases hY i hm with h | h; exact hX h; omega)).trans (h1.block i hi hX), fun g hg t cs hk => by
    obtain ⟨c1, k1, e1⟩ := h1.shape g hg t cs hk
    by_cases hgY : g ∈ Y
    · obtain ⟨c2, k2, e2⟩ := h2.shape g hgY t c1 k1
      exact ⟨c2, k2, e2.trans e1⟩
    · exact ⟨c1, k1.keep hgY h2, e1⟩⟩
theorem foot_new {S Bw : Nat} {Q Q1 : QS} {w : World} (h : ∀ i, i < 6 → blA (Q1.A i) = blA (Q.A i) ∨ ∃ g, blA (Q1.A i) = [g] ∧ w.heap.size ≤ g) : ∀ y ∈ foot S Bw Q1, y ∈ foot S Bw Q ∨ w.heap.size ≤ y := fun y hy => by
  simp only [foot, List.mem_cons, List.mem_flatMap, List.mem_range] at hy ⊢
  rcases hy with rfl | rfl | ⟨i, hi, hy⟩
  · exact .inl (.inl rfl)
  · exact .inl (.inr (.inl rfl))
  · rcases h i hi with e | ⟨g, e, hg⟩
    · rw [e] at hy; exact .inl (.inr (.inr ⟨i, hi, hy⟩))
    · rw [e] at hy; simp at hy; subst hy; exact .inr hg
theorem Turn.trans {b S Bw n : Nat} {vl vs : Value} {Q Q1 Q2 : QS} {s2 : Ss} {w w1 w2 : World} (hx1 : BX (foot S Bw Q) w w1) (hq1 : ∀ i, i < 6 → blA (Q1.A i) = blA (Q.A i) ∨ ∃ g, blA (Q1.A i) = [g] ∧ w.heap.size ≤ g)
    (h2 : Snd b S Bw vl vs n Q2 s2 w2) (hx2 : BX (foot S Bw Q1) w1 w2) (hq2 : ∀ i, i < 6 → blA (Q2.A i) = blA (Q1.A i)) : Turn b S Bw vl vs n Q s2 w w2 :=
  ⟨Q2, h2, bx_trX hx1 hx2 (foot_new hq1), fun i hi => by rw [hq2 i hi]; exact hq1 i hi⟩
/-- What holds of a sender's messages ahead of a tick. -/
structure St (t n : Nat) (s : Ss) : Prop where
  none : ∀ i, n ≤ i → s.q i = []
  len : ∀ i, (s.q i).length ≤ t
  msg : ∀ i, ∀ m ∈ s.q i, 0 ≤ m.1 ∧ m.1 < t ∧ 1 ≤ m.2 ∧ m.2 ≤ 20
  wor : ∀ i, 0 ≤ s.wo i ∧ s.wo i ≤ t
theorem sendS_none {l : List Sm} {st : List Int} {t : Int} {q : Nat → List (Int × Int)} {i : Nat} (hi : l.length ≤ i) : sendS l st t q i = q i := by
  have : l[i]? = Option.none := List.getElem?_eq_none hi
  simp [sendS, relB, this]
theorem sendS_msg {l : List Sm} {st : List Int} {t : Nat} {n : Nat} {s : Ss} (ho : Opn l st) (h : St t n s) (i : Nat) : (sendS l st t s.q i).length ≤ t + 1 ∧ ∀ m ∈ sendS l st t s.q i, 0 ≤ m.1 ∧ m.1 ≤ t ∧ 1 ≤ m.2 ∧ m.2 ≤ 20 := by
  unfold sendS
  split
  · rename_i hr
    have hl : 1 ≤ lenAt l i ∧ lenAt l i ≤ 20 := by
      unfold relB at hr
      split at hr
      · rename_i x a hx ha
        have := ho.sm x (List.mem_of_getElem? hx)
        simp [lenAt, hx]
        omega
      · cases hr
    refine ⟨by have := h.len i; simp; omega, fun m hm => ?_⟩
    rcases List.mem_append.1 hm with hm | hm
    · have := h.msg i m hm; omega
    · simp at hm; subst hm; simp only; omega
  · exact ⟨by have := h.len i; omega, fun m hm => by have := h.msg i m hm; omega⟩
set_option maxHeartbeats 8000000 in
theorem c_carry (fn : FuncId) (ch : (Nat → List (Int × Int)) → Int) (l : List Sm) (st : List Int) (t : Nat) (Al As : Option Addr) (cl cs S Bw : Nat) (Q : QS) (s : Ss) (w0 w : World) (ho : Opn l st) (ht : t ≤ 400)
    (hw : Below w0.heap.size w0 w) (hl : Sl cSm 4 w0 Al l) (hst : Sl cI 1 w0 As st) (h : Snd w0.heap.size S Bw (.slice Al l.length cl) (.slice As st.length cs) l.length Q s w) (hs : St t l.length s)
    (he : Enters Tryd.prog fn) (hch : ∀ Q s w, Snd w0.heap.size S Bw (.slice Al l.length cl) (.slice As st.length cs) l.length Q s w → Calls Tryd.prog fn #[.pointer (some ⟨S, 0, none⟩)] w (Ret (.int .i64 (ch s.q)) w))
    (hcr : ∀ q, ch q = -1 ∨ ∃ i : Nat, i < 6 ∧ ch q = i ∧ q i ≠ []) :
    Calls Tryd.prog 132 #[.pointer (some ⟨S, 0, none⟩), .int .i64 t, .func (.func fn) #[.pointer (some ⟨S, 0, none⟩)] #[]] w
      (fun e w' => e = .returned (.int .i64 (carS ch l st t s).2) ∧ Turn w0.heap.size S Bw (.slice Al l.length cl) (.slice As st.length cs) l.length Q (carS ch l st t s).1 w w') := by
  have hsend := Lib.hid (c_send l st t Al As cl cs S Bw Q s w0 w ho ht hw hl hst h (fun i => by have := hs.len i; omega))
  have hmsg := Lib.hid fun i => sendS_msg ho hs i
  have hnone : Hid (∀ i, l.length ≤ i → sendS l st t s.q i = []) := fun i hi => by rw [sendS_none hi]; exact hs.none i hi
  have hwor := Lib.hid hs.wor
  have he' : ∀ args w, (callFunc fn args).run Tryd.prog w = .ok (.enter fn args) w := he
  have Hch := Lib.hid hch
  have hC1 : Hid (ch (sendS l st t s.q) = -1 → carS ch l st t s = (⟨sendS l st t s.q, s.wo⟩, -1)) := fun h => by rw [carS, if_pos h]
  have hC2 : Hid (∀ (i : Nat) (a k : Int) (r : List (Int × Int)), ch (sendS l st t s.q) = i → sendS l st t s.q i = (a, k) :: r → k - 1 = 0 → carS ch l st t s = (⟨upF (sendS l st t s.q) i r, upF s.wo i (max (s.wo i) (t - a + 1))⟩, (i : Int))) := fun i a k r h1 h2 h3 => by
    rw [carS, if_neg (by rw [h1]; omega), h1, Int.toNat_natCast, h2]
    simp only [h3, if_true]
  have hC3 : Hid (∀ (i : Nat) (a k : Int) (r : List (Int × Int)), ch (sendS l st t s.q) = i → sendS l st t s.q i = (a, k) :: r → ¬ k - 1 = 0 → carS ch l st t s = (⟨upF (sendS l st t s.q) i ((a, k - 1) :: r), s.wo⟩, (i : Int))) := fun i a k r h1 h2 h3 => by
    rw [carS, if_neg (by rw [h1]; omega), h1, Int.toNat_natCast, h2]
    simp only [h3, if_false]
  have hc := hcr (sendS l st t s.q)
  clear hcr hch he hl hst hs ho hw h
  generalize carS ch l st t s = C at *
  obtain ⟨s', v⟩ := C
  dsimp only at *
  generalize sendS l st t s.q = q at *
  generalize l.length = n at *
  generalize st.length = m at *
  go_enter Tryd.func132, Tryd.ntmps132
  go_wp2_with fail
  refine hsend.out.mono ?_
  rintro e w1 ⟨⟨v0, rfl⟩, Q1, h1, hx1, hq1⟩
  go_wp2_with fail
  refine (Hch.out Q1 _ w1 h1).mono ?_
  rintro e w2 ⟨rfl, hb2⟩
  replace hx1 := hx1.step hb2
  replace h1 := h1.below hb2
  clear hb2 hsend Hch
  rcases hc with hc | ⟨i, hi6, hc, hne⟩
  · rw [hc]
    have e := hC1.out hc
    injection e with e1 e2
    subst e1 e2
    go_wp2
    go_ret
    exact ⟨rfl, Q1, h1, hx1, hq1⟩
  · rw [hc]
    obtain ⟨⟨a, k⟩, r, hqi⟩ : ∃ x r, q i = x :: r := List.exists_cons_of_ne_nil hne
    have hin : i < n := by
      rcases Nat.lt_or_ge i n with h | h
      · exact h
      · exact absurd (hnone.out i h) hne
    have hmi := hmsg.out i
    rw [hqi] at hmi
    have hm := hmi.2 (a, k) (by simp)
    have hln := hmi.1
    simp only [List.length_cons] at hln hm
    have hwi := hwor.out i
    have hQ := h1.que i hi6
    dsimp only at hQ
    rw [hqi] at hQ
    obtain ⟨g, off, gs, hA, kg, hrc, hsz, c0, c1, c2, -, -⟩ := hQ.cons
    have hC2' := Lib.hid (hC2.out i a k r hc hqi)
    have hC3' := Lib.hid (hC3.out i a k r hc hqi)
    clear hC1 hC2 hC3 hmi hmsg hnone hwor hQ
    have LS : w2.cell? ⟨S, 2 + i, none⟩ = some (.slice (some ⟨g, off, none⟩) (r.length + 1) (Q1.c i)) := by
      rw [h1.blk.cell, cSnd_at _ _ _ _ _ hi6]
      simp only [vQ, hqi, hA, List.length_cons]
    have L2 : w2.cell? ⟨g, off + 2, none⟩ = some (.int .i64 k) := by rw [kg.cell]; exact c2
    have F2 : w2.frozen? ⟨g, off + 2, none⟩ = false := kg.frozen _
    have hi7 : (i : Int) < 6 := by omega
    go_upto_region 7 with fail
    obtain ⟨h2, hx2⟩ := h1.dec hi6 hqi hA (k - 1)
    have hgl := kg.lt
    have kg2 := kg.set (off + 2) (.int .i64 (k - 1))
    generalize w2.setCell ⟨g, off + 2, none⟩ (.int .i64 (k - 1)) = w3 at *
    clear LS L2 F2 kg
    have c3 : w3.cell? ⟨g, off + 2, none⟩ = some (.int .i64 (k - 1)) := by
      rw [kg2.cell]
      exact Array.getElem?_setIfInBounds_self_of_lt (by omega)
    by_cases hk : k - 1 = 0
    · have e := hC2'.out hk
      go_upto_region 8 with fail
      have H2 := Lib.hid fun W (hb : Below w3.heap.size w3 W) => h2.below hb
      have LW : ∀ W, Below w3.heap.size w3 W → W.cell? ⟨S, 8, none⟩ = some (.slice (some ⟨Bw, 0, none⟩) n n) := fun W hb => by rw [(H2.out W hb).blk.cell]; rfl
      have LC : ∀ W, Below w3.heap.size w3 W → W.cell? ⟨Bw, i, none⟩ = some (.int .i64 (s.wo i)) := fun W hb => by rw [(H2.out W hb).wor.cell]; simp [hin]
      have FC : ∀ W, Below w3.heap.size w3 W → W.frozen? ⟨Bw, i, none⟩ = false := fun W hb => (H2.out W hb).wor.frozen _
      have LA : ∀ W, Below w3.heap.size w3 W → W.cell? ⟨g, off + 1, none⟩ = some (.int .i64 a) := fun W hb => by
        rw [(kg2.below hb).cell, Array.getElem?_setIfInBounds_ne (by omega)]
        exact c1
      have hi8 : (i : Int) < n := by omega
      clear c3
      refine wp_any (w0 := w3) ⟨[21], [], [some 36, some 37, some 38, some 39, some 40, some 41, some 42, some 43, some 44, some 45, some 46, some 47, some 48, some 49, some 50, some 51, some 52, some 53, some 54, some 55, some 56, none], [[], [0], [0, 1], [0, 1, 2], [], [], [5], [5, 6], [5, 6, 7], [], [5, 6, 7, 8, 9], [5, 6, 7, 8, 9, 10], [], [], [13], [13, 14], [13, 14, 15], [12, 13, 14, 15, 16], [12, 13, 14, 15, 16, 17], [5, 6, 7, 8, 9, 10, 11, 12, 13, 14, 15, 16, 17, 18], [0, 1, 2, 3, 4, 5, 6, 7, 8, 9, 10, 11, 12, 13, 14, 15, 16, 17, 18, 19], [0, 1, 2, 3, 4, 5, 6, 7, 8, 9, 10, 11, 12, 13, 14, 15, 16, 17, 18, 19, 20]], [[], [0], [1], [2], [], [], [5], [6], [7], [], [8, 9], [10], [], [], [13], [14], [15], [12, 16], [17], [11, 18], [3, 4], []]⟩ (fun _ => [Bw]) (by kernel_rfl) (by kernel_rfl) (by (with_reducible (repeat' (first | assumption | apply jA | apply jB | apply jC | apply jD | apply jE | apply jF | apply hb3 | omega | (simp; done) | (simp; omega) | (dsimp only; omega))))) (fun u => by simp only [putD, Act.put, List.setIfInBounds_toArray, List.set_cons_zero, List.set_cons_succ, Nat.zero_add, Nat.reduceAdd]; rfl) ?_
      apply RGW.on (i := 0) rfl
      · (simp only [gA, gB, gC] <;> rfl)
      · intro γ u W hcur hd
        clear hd
        (try dsimp only)
        refine ⟨rfl, ?_⟩
        go_simp <;> (try go_bits) <;> with_reducible rfl
      · exact fun _ _ _ => rfl
      · rfl
      dsimp only [nA, cA]
      apply RGW.on (i := 1) rfl
      · (simp only [gA, gB, gC] <;> rfl)
      · intro γ u W hcur hd
        obtain ⟨⟨h0, -, -⟩, -⟩ := hd
        dsimp only at h0
        (try simp only [h0])
        refine ⟨rfl, ?_⟩
        go_simp <;> (try go_bits) <;> with_reducible rfl
      · exact fun _ _ _ => rfl
      · rfl
      dsimp only [nA, cA]
      apply RGW.on (i := 2) rfl
      · (simp only [gA, gB, gC] <;> rfl)
      · intro γ u W hcur hd
        obtain ⟨⟨h1, -, -⟩, -⟩ := hd
        dsimp only at h1
        (try simp only [h1])
        refine ⟨rfl, ?_⟩
        go_simp <;> (try go_bits) <;> with_reducible rfl
      · exact fun _ _ _ => rfl
      · rfl
      dsimp only [nA, cA]
      apply RGW.on (i := 3) rfl
      · (simp only [gA, gB, gC] <;> rfl)
      · intro γ u W hcur hd
        obtain ⟨⟨h2, -, -⟩, -⟩ := hd
        dsimp only at h2
        (try simp only [h2])
        refine ⟨rfl, ?_⟩
        go_simp <;> (try go_bits) <;> with_reducible rfl
      · exact fun _ _ _ => rfl
      · rfl
      dsimp only [nA, cA]
      apply RGW.on (i := 4) rfl
      · (simp only [gA, gB, gC] <;> rfl)
      · intro γ u W hcur hd
        clear hd
        (try dsimp only)
        refine ⟨rfl, ?_⟩
        go_simp <;> (try go_bits) <;> with_reducible rfl
      · exact fun _ _ _ => rfl
      · rfl
      dsimp only [nA, cA]
      apply RGW.on (i := 5) rfl
      · (simp only [gA, gB, gC] <;> rfl)
      · intro γ u W hcur hd
        clear hd
        (try dsimp only)
        refine ⟨rfl, ?_⟩
        go_simp <;> (try go_bits) <;> with_reducible rfl
      · exact fun _ _ _ => rfl
      · rfl
      dsimp only [nA, cA]
      apply RGW.on (i := 6) rfl
      · (simp only [gA, gB, gC] <;> rfl)
      · intro γ u W hcur hd
        obtain ⟨⟨h5, -, -⟩, -⟩ := hd
        dsimp only at h5
        (try simp only [h5])
        refine ⟨rfl, ?_⟩
        go_simp <;> (try go_bits) <;> with_reducible rfl
      · exact fun _ _ _ => rfl
      · rfl
      dsimp only [nA, cA]
      apply RGW.on (i := 7) rfl
      · (simp only [gA, gB, gC] <;> rfl)
      · intro γ u W hcur hd
        obtain ⟨⟨h6, -, -⟩, -⟩ := hd
        dsimp only at h6
        (try simp only [h6])
        refine ⟨rfl, ?_⟩
        go_simp <;> (try go_bits) <;> with_reducible rfl
      · exact fun _ _ _ => rfl
      · rfl
      dsimp only [nA, cA]
      apply RGW.on (i := 8) rfl
      · (simp only [gA, gB, gC] <;> rfl)
      · intro γ u W hcur hd
        obtain ⟨⟨h7, -, -⟩, -⟩ := hd
        dsimp only at h7
        (try simp only [h7])
        refine ⟨rfl, ?_⟩
        go_simp <;> (try go_bits) <;> with_reducible rfl
      · exact fun _ _ _ => rfl
      · rfl
      dsimp only [nA, cA]
      apply RGW.on (i := 9) rfl
      · (simp only [gA, gB, gC] <;> rfl)
      · intro γ u W hcur hd
        clear hd
        (try dsimp only)
        refine ⟨rfl, ?_⟩
        go_simp <;> (try go_bits) <;> with_reducible rfl
      · exact fun _ _ _ => rfl
      · rfl
      dsimp only [nA, cA]
      apply RGW.on (i := 10) rfl
      · (simp only [gA, gB, gC] <;> rfl)
      · intro γ u W hcur hd
        obtain ⟨⟨h8, -, -⟩, ⟨h9, -, -⟩, -⟩ := hd
        dsimp only at h8 h9
        (try simp only [h8, h9])
        refine ⟨rfl, ?_⟩
        go_simp <;> (try go_bits) <;> with_reducible rfl
      · exact fun _ _ _ => rfl
      · rfl
      dsimp only [nA, cA]
      apply RGW.on (i := 11) rfl
      · (simp only [gA, gB, gC] <;> rfl)
      · intro γ u W hcur hd
        obtain ⟨⟨h10, -, -⟩, -⟩ := hd
        dsimp only at h10
        (try simp only [h10])
        refine ⟨rfl, ?_⟩
        go_simp <;> (try go_bits) <;> with_reducible rfl
      · exact fun _ _ _ => rfl
      · rfl
      dsimp only [nA, cA]
      apply RGW.on (i := 12) rfl
      · (simp only [gA, gB, gC] <;> rfl)
      · intro γ u W hcur hd
        clear hd
        (try dsimp only)
        refine ⟨rfl, ?_⟩
        go_simp <;> (try go_bits) <;> with_reducible rfl
      · exact fun _ _ _ => rfl
      · rfl
      dsimp only [nA, cA]
      apply RGW.on (i := 13) rfl
      · (simp only [gA, gB, gC] <;> rfl)
      · intro γ u W hcur hd
        clear hd
        (try dsimp only)
        refine ⟨rfl, ?_⟩
        go_simp <;> (try go_bits) <;> with_reducible rfl
      · exact fun _ _ _ => rfl
      · rfl
      dsimp only [nA, cA]
      apply RGW.on (i := 14) rfl
      · (simp only [gA, gB, gC] <;> rfl)
      · intro γ u W hcur hd
        obtain ⟨⟨h13, -, -⟩, -⟩ := hd
        dsimp only at h13
        (try simp only [h13])
        refine ⟨rfl, ?_⟩
        go_simp <;> (try go_bits) <;> with_reducible rfl
      · exact fun _ _ _ => rfl
      · rfl
      dsimp only [nA, cA]
      apply RGW.on (i := 15) rfl
      · (simp only [gA, gB, gC] <;> rfl)
      · intro γ u W hcur hd
        obtain ⟨⟨h14, -, -⟩, -⟩ := hd
        dsimp only at h14
        (try simp only [h14])
        refine ⟨rfl, ?_⟩
        go_simp <;> (try go_bits) <;> with_reducible rfl
      · exact fun _ _ _ => rfl
      · rfl
      dsimp only [nA, cA]
      apply RGW.on (i := 16) rfl
      · (simp only [gA, gB, gC] <;> rfl)
      · intro γ u W hcur hd
        obtain ⟨⟨h15, -, -⟩, -⟩ := hd
        dsimp only at h15
        (try simp only [h15])
        refine ⟨rfl, ?_⟩
        go_simp <;> (try go_bits) <;> with_reducible rfl
      · exact fun _ _ _ => rfl
      · rfl
      dsimp only [nA, cA]
      apply RGW.on (i := 17) rfl
      · (simp only [gA, gB, gC] <;> rfl)
      · intro γ u W hcur hd
        obtain ⟨⟨h12, -, -⟩, ⟨h16, -, -⟩, -⟩ := hd
        dsimp only at h12 h16
        (try simp only [h12, h16])
        refine ⟨rfl, ?_⟩
        go_simp <;> (try go_bits) <;> with_reducible rfl
      · exact fun _ _ _ => rfl
      · rfl
      dsimp only [nA, cA]
      apply RGW.on (i := 18) rfl
      · (simp only [gA, gB, gC] <;> rfl)
      · intro γ u W hcur hd
        obtain ⟨⟨h17, -, -⟩, -⟩ := hd
        dsimp only at h17
        (try simp only [h17])
        refine ⟨rfl, ?_⟩
        go_simp <;> (try go_bits) <;> with_reducible rfl
      · exact fun _ _ _ => rfl
      · rfl
      dsimp only [nA, cA]
      apply RGW.on (i := 19) rfl
      · (simp only [gA, gB, gC] <;> rfl)
      · intro γ u W hcur hd
        obtain ⟨⟨h11, -, -⟩, ⟨h18, -, -⟩, -⟩ := hd
        dsimp only at h11 h18
        (try simp only [h11, h18])
        refine ⟨rfl, ?_⟩
        go_simp <;> (try go_bits) <;> with_reducible rfl
      · exact fun _ _ _ => rfl
      · rfl
      dsimp only [nA, cA]
      apply RGW.on (i := 20) rfl
      · (simp only [gA, gB, gC] <;> rfl)
      · intro γ u W hcur hd
        obtain ⟨⟨h3, -, -⟩, ⟨h4, -, -⟩, -⟩ := hd
        dsimp only at h3 h4
        (try simp only [h3, h4])
        refine ⟨rfl, ?_⟩
        go_simp <;> (try go_bits) <;> with_reducible rfl
      · exact fun _ _ _ => rfl
      · rfl
      dsimp only [nA, cA]
      refine RGW.skip (i := 21) rfl rfl ?_
      dsimp only [nA, cA]
      refine RGW.fin (fun γ u w4 hw4 hd hdis => ?_)
      obtain ⟨⟨h0, -, -⟩, ⟨h1, -, -⟩, ⟨h2, -, -⟩, ⟨h3, -, -⟩, ⟨h4, -, -⟩, ⟨h5, -, -⟩, ⟨h6, -, -⟩, ⟨h7, -, -⟩, ⟨h8, -, -⟩, ⟨h9, -, -⟩, ⟨h10, -, -⟩, ⟨h11, -, -⟩, ⟨h12, -, -⟩, ⟨h13, -, -⟩, ⟨h14, -, -⟩, ⟨h15, -, -⟩, ⟨h16, -, -⟩, ⟨h17, -, -⟩, ⟨h18, -, -⟩, ⟨h19, -, -⟩, ⟨h20, -, -⟩, -⟩ := hd
      dsimp only at h0 h1 h2 h3 h4 h5 h6 h7 h8 h9 h10 h11 h12 h13 h14 h15 h16 h17 h18 h19 h20
      clear hdis
      simp only [h0, h1, h2, h3, h4, h5, h6, h7, h8, h9, h10, h11, h12, h13, h14, h15, h16, h17, h18, h19, h20]
      clear h20 h19 h18 h17 h16 h15 h14 h13 h12 h11 h10 h9 h8 h7 h6 h5 h4 h3 h2 h1 h0
      clear u
      simp only [List.map_cons, List.map_nil]
      apply PlanW.step
      · (simp only [gA, gB, gC] <;> rfl)
      · rfl
      intro K hK
      first
      | refine wp_store_keep (X := [Bw]) (w0 := w4) rfl rfl rfl (by with_reducible first | exact bx_refl _ _ | assumption) (by with_reducible first | assumption | (apply Blk.below (hb := hw4); assumption)) (by simp) (by kernel_rfl) (by rfl) (by simp [Value.oneCell']) (fun hres1 hcur => ?_)
        refine hK.out _ _ hcur (fun _ => ?_)
      | go_simp
        refine hK.out _ _ (by (with_reducible (repeat' (first | assumption | apply jG | apply jH | apply jI | apply jJ | apply jK | apply hb3x | omega | (simp; done) | (simp; omega) | (dsimp only; omega))))) (fun hcur => ?_)
      clear hK K
      try simp only [Act.put, List.setIfInBounds_toArray, List.set_cons_zero, List.set_cons_succ]
      refine PlanW.done ?_
      have hb3 := bl_tt hw4
      obtain ⟨h3, hx3⟩ := (h2.below hw4).worst hin (max (s.wo i) ((t : Int) - a + 1))
      replace hx3 := (hx2.step hw4).trans hx3
      generalize w4.setCell ⟨Bw, i, none⟩ (.int .i64 (max (s.wo i) ((t : Int) - a + 1))) = w5 at *
      clear hb3 hcur LW LC FC LA H2 hx2 h2 hw4 kg2
      have H3 := Lib.hid fun W (hb : Below w5.heap.size w5 W) => h3.below hb
      have hup : upF q i ((a, k - 1) :: r) i = (a, k - 1) :: r := by simp [upF]
      have LS : ∀ W, Below w5.heap.size w5 W → W.cell? ⟨S, 2 + i, none⟩ = some (.slice (some ⟨g, off, none⟩) (r.length + 1) (Q1.c i)) := fun W hb => by
        rw [(H3.out W hb).blk.cell, cSnd_at _ _ _ _ _ hi6]
        simp only [vQ, hup, hA, List.length_cons]
      have FS : ∀ W, Below w5.heap.size w5 W → W.frozen? ⟨S, 2 + i, none⟩ = false := fun W hb => (H3.out W hb).blk.frozen _
      clear hi8
      have hb1 : (1 : Int) ≤ (r.length : Int) + 1 := by omega
      go_upto_region 9 with fail
      refine wp_any (w0 := w5) ⟨[12], [], [some 57, some 58, some 59, some 60, some 61, some 62, some 63, some 64, some 65, some 66, some 67, some 68, none], [[], [], [], [], [2], [2, 4], [2, 3, 4, 5], [2, 3, 4, 5, 6], [2, 3, 4, 5, 6, 7], [0], [0, 9], [0, 1, 2, 3, 4, 5, 6, 7, 8, 9, 10], [0, 1, 2, 3, 4, 5, 6, 7, 8, 9, 10, 11]], [[], [], [], [], [2], [4], [3, 5], [6], [7], [0], [9], [1, 10], []]⟩ (fun _ => [S]) (by kernel_rfl) (by kernel_rfl) (by (with_reducible (repeat' (first | assumption | apply jA | apply jB | apply jC | apply jD | apply jE | apply jF | apply hb3 | omega | (simp; done) | (simp; omega) | (dsimp only; omega))))) (fun u => by simp only [putD, Act.put, List.setIfInBounds_toArray, List.set_cons_zero, List.set_cons_succ, Nat.zero_add, Nat.reduceAdd]; rfl) ?_
      apply RGW.on (i := 0) rfl
      · (simp only [gA, gB, gC] <;> rfl)
      · intro γ u W hcur hd
        clear hd
        (try dsimp only)
        refine ⟨rfl, ?_⟩
        go_simp <;> (try go_bits) <;> with_reducible rfl
      · exact fun _ _ _ => rfl
      · rfl
      dsimp only [nA, cA]
      apply RGW.on (i := 1) rfl
      · (simp only [gA, gB, gC] <;> rfl)
      · intro γ u W hcur hd
        clear hd
        (try dsimp only)
        refine ⟨rfl, ?_⟩
        go_simp <;> (try go_bits) <;> with_reducible rfl
      · exact fun _ _ _ => rfl
      · rfl
      dsimp only [nA, cA]
      apply RGW.on (i := 2) rfl
      · (simp only [gA, gB, gC] <;> rfl)
      · intro γ u W hcur hd
        clear hd
        (try dsimp only)
        refine ⟨rfl, ?_⟩
        go_simp <;> (try go_bits) <;> with_reducible rfl
      · exact fun _ _ _ => rfl
      · rfl
      dsimp only [nA, cA]
      apply RGW.on (i := 3) rfl
      · (simp only [gA, gB, gC] <;> rfl)
      · intro γ u W hcur hd
        clear hd
        (try dsimp only)
        refine ⟨rfl, ?_⟩
        go_simp <;> (try go_bits) <;> with_reducible rfl
      · exact fun _ _ _ => rfl
      · rfl
      dsimp only [nA, cA]
      apply RGW.on (i := 4) rfl
      · (simp only [gA, gB, gC] <;> rfl)
      · intro γ u W hcur hd
        obtain ⟨⟨h2, -, -⟩, -⟩ := hd
        dsimp only at h2
        (try simp only [h2])
        refine ⟨rfl, ?_⟩
        go_simp <;> (try go_bits) <;> with_reducible rfl
      · exact fun _ _ _ => rfl
      · rfl
      dsimp only [nA, cA]
      apply RGW.on (i := 5) rfl
      · (simp only [gA, gB, gC] <;> rfl)
      · intro γ u W hcur hd
        obtain ⟨⟨h4, -, -⟩, -⟩ := hd
        dsimp only at h4
        (try simp only [h4])
        refine ⟨rfl, ?_⟩
        go_simp <;> (try go_bits) <;> with_reducible rfl
      · exact fun _ _ _ => rfl
      · rfl
      dsimp only [nA, cA]
      apply RGW.on (i := 6) rfl
      · (simp only [gA, gB, gC] <;> rfl)
      · intro γ u W hcur hd
        obtain ⟨⟨h3, -, -⟩, ⟨h5, -, -⟩, -⟩ := hd
        dsimp only at h3 h5
        (try simp only [h3, h5])
        refine ⟨rfl, ?_⟩
        go_simp <;> (try go_bits) <;> with_reducible rfl
      · exact fun _ _ _ => rfl
      · rfl
      dsimp only [nA, cA]
      apply RGW.on (i := 7) rfl
      · (simp only [gA, gB, gC] <;> rfl)
      · intro γ u W hcur hd
        obtain ⟨⟨h6, -, -⟩, -⟩ := hd
        dsimp only at h6
        (try simp only [h6])
        refine ⟨rfl, ?_⟩
        go_simp <;> (try go_bits) <;> with_reducible rfl
      · exact fun _ _ _ => rfl
      · rfl
      dsimp only [nA, cA]
      apply RGW.on (i := 8) rfl
      · (simp only [gA, gB, gC] <;> rfl)
      · intro γ u W hcur hd
        obtain ⟨⟨h7, -, -⟩, -⟩ := hd
        dsimp only at h7
        (try simp only [h7])
        refine ⟨rfl, ?_⟩
        go_simp <;> (try go_bits) <;> with_reducible rfl
      · exact fun _ _ _ => rfl
      · rfl
      dsimp only [nA, cA]
      apply RGW.on (i := 9) rfl
      · (simp only [gA, gB, gC] <;> rfl)
      · intro γ u W hcur hd
        obtain ⟨⟨h0, -, -⟩, -⟩ := hd
        dsimp only at h0
        (try simp only [h0])
        refine ⟨rfl, ?_⟩
        go_simp <;> (try go_bits) <;> with_reducible rfl
      · exact fun _ _ _ => rfl
      · rfl
      dsimp only [nA, cA]
      apply RGW.on (i := 10) rfl
      · (simp only [gA, gB, gC] <;> rfl)
      · intro γ u W hcur hd
        obtain ⟨⟨h9, -, -⟩, -⟩ := hd
        dsimp only at h9
        (try simp only [h9])
        refine ⟨rfl, ?_⟩
        go_simp <;> (try go_bits) <;> with_reducible rfl
      · exact fun _ _ _ => rfl
      · rfl
      dsimp only [nA, cA]
      apply RGW.on (i := 11) rfl
      · (simp only [gA, gB, gC] <;> rfl)
      · intro γ u W hcur hd
        obtain ⟨⟨h1, -, -⟩, ⟨h10, -, -⟩, -⟩ := hd
        dsimp only at h1 h10
        (try simp only [h1, h10])
        refine ⟨rfl, ?_⟩
        go_simp <;> (try go_bits) <;> with_reducible rfl
      · exact fun _ _ _ => rfl
      · rfl
      dsimp only [nA, cA]
      refine RGW.skip (i := 12) rfl rfl ?_
      dsimp only [nA, cA]
      refine RGW.fin (fun γ u w6 hw6 hd hdis => ?_)
      obtain ⟨⟨h0, -, -⟩, ⟨h1, -, -⟩, ⟨h2, -, -⟩, ⟨h3, -, -⟩, ⟨h4, -, -⟩, ⟨h5, -, -⟩, ⟨h6, -, -⟩, ⟨h7, -, -⟩, ⟨h8, -, -⟩, ⟨h9, -, -⟩, ⟨h10, -, -⟩, ⟨h11, -, -⟩, -⟩ := hd
      dsimp only at h0 h1 h2 h3 h4 h5 h6 h7 h8 h9 h10 h11
      clear hdis
      simp only [h0, h1, h2, h3, h4, h5, h6, h7, h8, h9, h10, h11]
      clear h11 h10 h9 h8 h7 h6 h5 h4 h3 h2 h1 h0
      clear u
      simp only [List.map_cons, List.map_nil]
      apply PlanW.step
      · (simp only [gA, gB, gC] <;> rfl)
      · rfl
      intro K hK
      first
      | refine wp_store_keep (X := [S]) (w0 := w6) rfl rfl rfl (by with_reducible first | exact bx_refl _ _ | assumption) (by with_reducible first | assumption | (apply Blk.below (hb := hw6); assumption)) (by simp) (by kernel_rfl) (by rfl) (by simp [Value.oneCell']) (fun hres1 hcur => ?_)
        refine hK.out _ _ hcur (fun _ => ?_)
      | go_simp
        refine hK.out _ _ (by (with_reducible (repeat' (first | assumption | apply jG | apply jH | apply jI | apply jJ | apply jK | apply hb3x | omega | (simp; done) | (simp; omega) | (dsimp only; omega))))) (fun hcur => ?_)
      clear hK K
      try simp only [Act.put, List.setIfInBounds_toArray, List.set_cons_zero, List.set_cons_succ]
      refine PlanW.done ?_
      have hb3 := bl_tt hw6
      obtain ⟨o, ho, hoo⟩ : ∃ o, (o = off + 3 ∨ (Q1.c i = 1 ∧ o = off)) ∧ (if Q1.c i = 1 then some (⟨g, off, none⟩ : Addr) else some ⟨g, off + 3, none⟩) = some ⟨g, o, none⟩ := by
        by_cases h1c : Q1.c i = 1
        · exact ⟨off, .inr ⟨h1c, rfl⟩, by rw [if_pos h1c]⟩
        · exact ⟨off + 3, .inl rfl, by rw [if_neg h1c]⟩
      obtain ⟨h4, hx4, hq4⟩ := (h3.below hw6).pop hi6 hup hA ho
      replace hx4 := (hx3.step hw6).trans hx4
      injection e with e1 e2
      subst e1 e2
      simp only [hoo]
      generalize w6.setCell ⟨S, 2 + i, none⟩ (.slice (some ⟨g, o, none⟩) r.length (Q1.c i - 1)) = w7 at *
      clear hb3 hcur LS FS H3
      go_wp2
      go_ret
      have huu : upF (upF q i ((a, k - 1) :: r)) i r = upF q i r := by funext j; unfold upF; split <;> rfl
      (try dsimp only at h4)
      rw [huu] at h4
      exact ⟨rfl, Turn.trans hx1 hq1 h4 hx4 hq4⟩
    · have e := hC3'.out hk
      injection e with e1 e2
      subst e1 e2
      go_wp2
      go_ret
      exact ⟨rfl, Turn.trans hx1 hq1 h2 hx2 (fun _ _ => rfl)⟩
end Go.Proofs.YtdlmkblmljhbfaaDoor
