/-
  Walks: a sender's tick: what is sent, what is carried.
  Walks: a sender is opened.
  Walk: strings.Split at a separator of one byte.
  A region that draws its order, in whatever order, of which one operation (m) may turn some old blocks (M) that no other operation looks at, and which ends in a tail that waits for all else.
  A region that draws its order, of which one operation (m) may turn some old blocks (M) that no other operation looks at, which ends in a tail of stores, and of which some operations that only read may come behind a part of the tail; in a round.
-/
import Derived.Test.YtbdgblnccjpahaaGreatDoorU9
import Derived.Test.YtbdgblnccjpahaaGreatDoorU7
import Derived.Test.YtbdgblnccjpahaaGreatDoorU10
import Derived.Laws.Strings2
set_option linter.unusedSimpArgs false
set_option linter.unusedVariables false
namespace Go.Proofs.YtbdgblnccjpahaaGreatDoor
open Go.RowKit Go.Shelf
attribute [local go_sem] bl_al bl_drew bl_drewN bl_refl bx_al bx_drew bx_drewN bx_refl
set_option maxRecDepth 20000
def sendTo (l : List Sm) (st : List Int) (t : Int) (q : Nat → List (Int × Int)) (k : Nat) : Nat → List (Int × Int) := fun i => if i < k then sendS l st t q i else q i
theorem sendTo_zero (l : List Sm) (st : List Int) (t : Int) (q : Nat → List (Int × Int)) : sendTo l st t q 0 = q := by funext i; simp [sendTo]
theorem sendTo_len (l : List Sm) (st : List Int) (t : Int) (q : Nat → List (Int × Int)) : sendTo l st t q l.length = sendS l st t q := by
  funext i
  unfold sendTo
  split
  · rfl
  · rename_i h
    have : l[i]? = none := List.getElem?_eq_none (by omega)
    simp [sendS, relB, this]
theorem sendTo_at (l : List Sm) (st : List Int) (t : Int) (q : Nat → List (Int × Int)) (k : Nat) : sendTo l st t q k k = q k := by simp [sendTo]
theorem sendTo_off {l : List Sm} {st : List Int} {t : Int} {q : Nat → List (Int × Int)} {k : Nat} (h : relB l st t k = false) : sendTo l st t q (k + 1) = sendTo l st t q k := by
  funext i
  unfold sendTo
  by_cases h1 : i < k
  · rw [if_pos (by omega), if_pos h1]
  · rw [if_neg h1]
    by_cases h2 : i = k
    · subst h2; rw [if_pos (by omega)]; simp [sendS, h]
    · rw [if_neg (by omega)]
theorem sendTo_on {l : List Sm} {st : List Int} {t : Int} {q : Nat → List (Int × Int)} {k : Nat} (h : relB l st t k = true) : sendTo l st t q (k + 1) = upF (sendTo l st t q k) k (q k ++ [(t, lenAt l k)]) := by
  funext i
  unfold sendTo upF
  dsimp only
  by_cases h1 : i < k
  · rw [if_pos (by omega), if_neg (by omega), if_pos h1]
  · by_cases h2 : i = k
    · subst h2; rw [if_pos (by omega), if_pos rfl]; simp [sendS, h]
    · rw [if_neg (by omega), if_neg h2, if_neg h1]
/-- Streams and starts of a sender that was opened. -/
structure Opn (l : List Sm) (st : List Int) : Prop where
  len : l.length ≤ 6
  slen : st.length = l.length
  sm : ∀ x ∈ l, 1 ≤ x.per ∧ x.per ≤ 60 ∧ 1 ≤ x.dl ∧ x.dl ≤ x.per ∧ 1 ≤ x.len ∧ x.len ≤ 20
  st : ∀ a ∈ st, 0 ≤ a ∧ a ≤ 400
/-- What a call leaves of a sender that it turns. -/
def Turn (b S Bw : Nat) (vl vs : Value) (n : Nat) (Q : QS) (s' : Ss) (w w' : World) : Prop :=
  ∃ Q', Snd b S Bw vl vs n Q' s' w' ∧ BX (foot S Bw Q) w w' ∧ ∀ i, i < 6 → blA (Q'.A i) = blA (Q.A i) ∨ ∃ g, blA (Q'.A i) = [g] ∧ w.heap.size ≤ g
set_option maxHeartbeats 8000000 in
theorem c_send (l : List Sm) (st : List Int) (t : Nat) (Al As : Option Addr) (cl cs S Bw : Nat) (Q : QS) (s : Ss) (w0 w : World) (ho : Opn l st) (ht : t ≤ 400) (hw : Below w0.heap.size w0 w) (hl : Sl cSm 4 w0 Al l) (hst : Sl cI 1 w0 As st)
    (h : Snd w0.heap.size S Bw (.slice Al l.length cl) (.slice As st.length cs) l.length Q s w) (hq : ∀ i, (s.q i).length ≤ 900) :
    Calls Tryz.prog 163 #[.pointer (some ⟨S, 0, none⟩), .int .i64 t] w (fun e w' => (∃ v, e = .returned v) ∧ Turn w0.heap.size S Bw (.slice Al l.length cl) (.slice As st.length cs) l.length Q ⟨sendS l st t s.q, s.wo⟩ w w') := by
  obtain ⟨n, Hn⟩ : ∃ n, Hid (l.length = n) := ⟨_, rfl⟩
  have hlen := ho.len
  rw [ho.slen] at h ⊢
  rw [Hn.out] at h hlen ⊢
  have Ho := Lib.hid ho
  have Hl := Lib.hid hl
  have Hst := Lib.hid hst
  have Hq := Lib.hid hq
  have Hw := Lib.hid hw
  clear ho hl hst hq hw
  have hfb : Hid (∀ x ∈ foot S Bw Q, w0.heap.size ≤ x) := fun x hx => by
    simp only [foot, List.mem_cons, List.mem_flatMap, List.mem_range] at hx
    rcases hx with rfl | rfl | ⟨i, hi, hx⟩
    · exact h.bS
    · exact h.bW
    · exact ((h.que i hi).ge x hx).1
  have H := Lib.hid h
  have C0 : w.cell? ⟨S, 0, none⟩ = some (.slice Al n cl) := by rw [h.blk.cell]; rfl
  clear h
  go_enter Tryz.func163, Tryz.ntmps163
  go_wp2
  clear C0
  go_loopw [12] (fun k wr => ∃ j : Nat, j ≤ n ∧ k = .int .i64 j ∧ ∃ Q' : QS, Snd w0.heap.size S Bw (.slice Al n cl) (.slice As n cs) n Q' ⟨sendTo l st t s.q j, s.wo⟩ wr ∧ BX (foot S Bw Q) w wr ∧ (∀ i, j ≤ i → Q'.A i = Q.A i) ∧
    ∀ i, i < 6 → blA (Q'.A i) = blA (Q.A i) ∨ ∃ g, blA (Q'.A i) = [g] ∧ w.heap.size ≤ g) (fun k _ => n - (intOf k).toNat)
  case atStart => exact ⟨0, Nat.zero_le _, rfl, Q, by rw [sendTo_zero]; exact H.out, bx_refl _ _, fun _ _ => rfl, fun _ _ => .inl rfl⟩
  case round =>
    obtain ⟨k, hk, rfl, Q', h1, h2, h3, h4⟩ := hrel
    by_cases hkn : k < n
    rotate_left
    · go_wp2
      have e : k = n := by omega
      subst e
      rw [← Hn.out, sendTo_len, Hn.out] at h1
      go_end0
      exact ⟨⟨_, rfl⟩, Q', h1, h2, h4⟩
    have hbr := bx_below Hw.out h2 hfb.out
    have hx : l[k]? = some (l[k]'(by rw [Hn.out]; exact hkn)) := List.getElem?_eq_getElem _
    generalize l[k]'(by rw [Hn.out]; exact hkn) = x at hx
    have ha : st[k]? = some (st[k]'(by rw [Ho.out.slen, Hn.out]; exact hkn)) := List.getElem?_eq_getElem _
    generalize st[k]'(by rw [Ho.out.slen, Hn.out]; exact hkn) = a at ha
    have hxb := Ho.out.sm x (List.mem_of_getElem? hx)
    have hab := Ho.out.st a (List.mem_of_getElem? ha)
    obtain ⟨bl, ol, rfl, hcl⟩ := Hl.out k x hx
    obtain ⟨bs, os, rfl, hcs⟩ := Hst.out k a ha
    have c0 : wr.cell? ⟨bl, ol + k * 4, none⟩ = some (.string x.name) := kcell hbr (hcl 0 _ rfl)
    have c1 : wr.cell? ⟨bl, ol + k * 4 + 1, none⟩ = some (.int .i64 x.per) := kcell hbr (hcl 1 _ rfl)
    have c2 : wr.cell? ⟨bl, ol + k * 4 + 2, none⟩ = some (.int .i64 x.dl) := kcell hbr (hcl 2 _ rfl)
    have c3 : wr.cell? ⟨bl, ol + k * 4 + 3, none⟩ = some (.int .i64 x.len) := kcell hbr (hcl 3 _ rfl)
    have c4 : wr.cell? ⟨bs, os + k, none⟩ = some (.int .i64 a) := by have := kcell hbr (hcs 0 _ rfl); simpa using this
    have c5 : wr.cell? ⟨S, 1, none⟩ = some (.slice (some ⟨bs, os, none⟩) n cs) := by rw [h1.blk.cell]; rfl
    clear hcl hcs
    go_upto_region 3 with fail
    have kS := h1.blk
    have hS2 : Hid (∀ W : World, Below wr.heap.size wr W → W.cell? ⟨S, 1, none⟩ = some (.slice (some ⟨bs, os, none⟩) n cs) ∧ W.cell? ⟨bs, os + k, none⟩ = some (.int .i64 a)) := fun W hb => ⟨kcell hb c5, kcell hb c4⟩
    have kR : Blk wr S tSnd (cSnd (.slice (some ⟨bl, ol, none⟩) n cl) (.slice (some ⟨bs, os, none⟩) n cs) (vQ Q' (sendTo l st t s.q k)) (.slice (some ⟨Bw, 0, none⟩) n n)) := h1.blk
    clear c0 c1 c2 c3 c4 c5
    first
    | apply absB1 (w0 := wr) (g0 := wr.heap.size)
    | apply absTB1 (w0 := wr) (g0 := wr.heap.size)
    | apply absIB1 (w0 := wr) (g0 := wr.heap.size)
    iterate 2 (focus exact zL)
    try clear hb3
    try clear hb0
    try clear k5
    intro wa hb0 k5
    (try simp only [List.setIfInBounds_toArray, List.set_cons_zero, List.set_cons_succ] at k5)
    have hrel : relB l st t k = (decide (a ≤ (t : Int)) && decide (((t : Int) - a) % x.per = 0)) := by simp [relB, hx, ha]
    have hla : lenAt l k = x.len := by simp [lenAt, hx]
    have C1 := (hS2.out wa hb0).1
    have C2 := (hS2.out wa hb0).2
    have L5 := k5.cell
    have hper : ¬ x.per = 0 := by omega
    by_cases c1 : a ≤ (t : Int)
    · have hmod : ((t : Int) - a).tmod x.per = ((t : Int) - a) % x.per := Int.tmod_eq_emod_of_nonneg (by omega)
      by_cases c2 : ((t : Int) - a) % x.per = 0
      · have e : relB l st t k = true := by rw [hrel]; simp [c1, c2]
        go_upto_region 5 with fail
        have LS : ∀ W, Below wa.heap.size wa W → W.cell? ⟨S, 2 + k, none⟩ = some (.slice (Q.A k) (s.q k).length (Q'.c k)) := fun W hb => by
          rw [((kR.below hb0).below hb).cell, cSnd_at _ _ _ _ _ (by omega)]
          simp only [vQ, sendTo_at, h3 k (Nat.le_refl k)]
        have HQ := Lib.hid fun W (hb : Below wa.heap.size wa W) => (show Qu W w0.heap.size k (Q.A k) (Q'.c k) (s.q k) by have := ((h1.que k (by omega)).below hb0).below hb; simpa only [sendTo_at, h3 k (Nat.le_refl k)] using this)
        have HS := Lib.hid fun W (hb : Below wa.heap.size wa W) => (kR.below hb0).below hb
        have hdk : S ∉ blA (Q.A k) := by have := h1.dS k (by omega); rwa [h3 k (Nat.le_refl k)] at this
        have hwa : w0.heap.size ≤ wa.heap.size := Nat.le_trans hbr.size hb0.size
        have hk6 : k < 6 := by omega
        have hk7 : (k : Int) < 6 := by omega
        clear C1 C2 c1 c2 hrel L5
        have Lk5 := k5.later
        have Fk5 := k5.laterF
        have Qk5 := k5.lt
        refine wp_any (w0 := wa) ⟨[14, 17, 18], [0, 1, 15, 16], [some 35, some 36, some 37, some 38, some 39, some 40, some 41, some 42, some 43, some 44, some 45, some 46, some 47, some 48, none, some 50, some 51, none, none], [[], [], [], [], [2], [2, 4], [2, 3, 4, 5], [2, 3, 4, 5, 6], [], [], [], [10], [8, 9, 10, 11], [8, 9, 10, 11, 12], [2, 3, 4, 5, 6, 7, 8, 9, 10, 11, 12, 13], [0], [0, 15], [0, 1, 2, 3, 4, 5, 6, 7, 8, 9, 10, 11, 12, 13, 14, 15, 16], []], [[], [], [], [], [2], [4], [3, 5], [6], [], [], [], [10], [8, 9, 11], [12], [7, 13], [0], [15], [1, 16], []]⟩ (fun _ => S :: blA (Q.A k)) (by kernel_rfl) (by kernel_rfl) (by (exact zE)) (fun u => by simp only [putD, Act.put, List.setIfInBounds_toArray, List.set_cons_zero, List.set_cons_succ, Nat.zero_add, Nat.reduceAdd]; rfl) ?_
        apply RGW.onL (i := 0) rfl
        · exact zG
        · intro γ u Wm W hcur hd hX
          clear hd
          (try dsimp only)
          exact ⟨rfl, zS⟩
        · exact zC
        dsimp only [nA, cA]
        apply RGW.onL (i := 1) rfl
        · exact zG
        · intro γ u Wm W hcur hd hX
          clear hd
          (try dsimp only)
          exact ⟨rfl, zS⟩
        · exact zC
        dsimp only [nA, cA]
        apply RGW.on (i := 2) rfl
        · exact zG
        · intro γ u W hcur hd
          clear hd
          (try dsimp only)
          exact ⟨rfl, zS⟩
        · exact zC
        · rfl
        dsimp only [nA, cA]
        apply RGW.on (i := 3) rfl
        · exact zG
        · intro γ u W hcur hd
          clear hd
          (try dsimp only)
          exact ⟨rfl, zS⟩
        · exact zC
        · rfl
        dsimp only [nA, cA]
        apply RGW.on (i := 4) rfl
        · exact zG
        · intro γ u W hcur hd
          obtain ⟨⟨h2, -, -⟩, -⟩ := hd
          dsimp only at h2
          (try simp only [h2])
          exact ⟨rfl, zS⟩
        · exact zC
        · rfl
        dsimp only [nA, cA]
        apply RGW.on (i := 5) rfl
        · exact zG
        · intro γ u W hcur hd
          obtain ⟨⟨h4, -, -⟩, -⟩ := hd
          dsimp only at h4
          (try simp only [h4])
          exact ⟨rfl, zS⟩
        · exact zC
        · rfl
        dsimp only [nA, cA]
        apply RGW.on (i := 6) rfl
        · exact zG
        · intro γ u W hcur hd
          obtain ⟨⟨h3, -, -⟩, ⟨h5, -, -⟩, -⟩ := hd
          dsimp only at h3 h5
          (try simp only [h3, h5])
          exact ⟨rfl, zS⟩
        · exact zC
        · rfl
        dsimp only [nA, cA]
        apply RGW.on (i := 7) rfl
        · exact zG
        · intro γ u W hcur hd
          obtain ⟨⟨h6, -, -⟩, -⟩ := hd
          dsimp only at h6
          (try simp only [h6])
          exact ⟨rfl, zS⟩
        · exact zC
        · rfl
        dsimp only [nA, cA]
        apply RGW.on (i := 8) rfl
        · exact zG
        · intro γ u W hcur hd
          clear hd
          (try dsimp only)
          exact ⟨rfl, zS⟩
        · exact zC
        · rfl
        dsimp only [nA, cA]
        apply RGW.on (i := 9) rfl
        · exact zG
        · intro γ u W hcur hd
          clear hd
          (try dsimp only)
          exact ⟨rfl, zS⟩
        · exact zC
        · rfl
        dsimp only [nA, cA]
        apply RGW.on (i := 10) rfl
        · exact zG
        · intro γ u W hcur hd
          clear hd
          (try dsimp only)
          exact ⟨rfl, zS⟩
        · exact zC
        · rfl
        dsimp only [nA, cA]
        apply RGW.on (i := 11) rfl
        · exact zG
        · intro γ u W hcur hd
          obtain ⟨⟨h10, -, -⟩, -⟩ := hd
          dsimp only at h10
          (try simp only [h10])
          exact ⟨rfl, zS⟩
        · exact zC
        · rfl
        dsimp only [nA, cA]
        apply RGW.on (i := 12) rfl
        · exact zG
        · intro γ u W hcur hd
          obtain ⟨⟨h8, -, -⟩, ⟨h9, -, -⟩, ⟨h11, -, -⟩, -⟩ := hd
          dsimp only at h8 h9 h11
          (try simp only [h8, h9, h11])
          exact ⟨rfl, zS⟩
        · exact zC
        · rfl
        dsimp only [nA, cA]
        apply RGW.bslice (i := 13) rfl
        · exact zG
        · intro γ u W hcur hd
          obtain ⟨⟨h12, -, -⟩, -⟩ := hd
          dsimp only at h12
          (try simp only [h12])
          refine ⟨rfl, fun K hK => ?_⟩
          go_simp
          exact hK.out _ _ rfl rfl
        · exact zC
        · rfl
        · rfl
        dsimp only [nA, cA]
        refine RGW.skip (i := 14) rfl rfl ?_
        dsimp only [nA, cA]
        apply RGW.onL (i := 15) rfl
        · exact zG
        · intro γ u Wm W hcur hd hX
          obtain ⟨⟨h0, -, -⟩, -⟩ := hd
          dsimp only at h0
          (try simp only [h0])
          exact ⟨rfl, zS⟩
        · exact zC
        dsimp only [nA, cA]
        apply RGW.onL (i := 16) rfl
        · exact zG
        · intro γ u Wm W hcur hd hX
          obtain ⟨⟨h15, -, -⟩, -⟩ := hd
          dsimp only at h15
          (try simp only [h15])
          exact ⟨rfl, zS⟩
        · exact zC
        dsimp only [nA, cA]
        refine RGW.skip (i := 17) rfl rfl ?_
        dsimp only [nA, cA]
        refine RGW.skip (i := 18) rfl rfl ?_
        dsimp only [nA, cA]
        refine RGW.fin (fun γ u wb hwb hd hdis => ?_)
        obtain ⟨⟨h0, -, -⟩, ⟨h1, -, -⟩, ⟨h2, -, -⟩, ⟨h3, -, -⟩, ⟨h4, -, -⟩, ⟨h5, -, -⟩, ⟨h6, -, -⟩, ⟨h7, -, -⟩, ⟨h8, -, -⟩, ⟨h9, -, -⟩, ⟨h10, -, -⟩, ⟨h11, -, -⟩, ⟨h12, -, -⟩, ⟨h13, r13, b13⟩, ⟨h15, -, -⟩, ⟨h16, -, -⟩, -⟩ := hd
        dsimp only at h0 h1 h2 h3 h4 h5 h6 h7 h8 h9 h10 h11 h12 h13 h15 h16 r13 b13
        clear hdis
        simp only [h0, h1, h2, h3, h4, h5, h6, h7, h8, h9, h10, h11, h12, h13, h15, h16]
        clear h16 h15 h13 h12 h11 h10 h9 h8 h7 h6 h5 h4 h3 h2 h1 h0
        replace b13 := b13 _ (List.mem_singleton.2 rfl)
        generalize hγ13 : (γ 13).n = g13 at *
        clear hγ13
        clear u
        simp only [List.map_cons, List.map_nil]
        apply PlanW.step
        · exact zG
        · rfl
        intro K hK
        (refine wp_qu (i := k) (t := t) (n := x.len) (Operand.tmp 42) (Operand.tmp 48) rfl rfl rfl rfl (HQ.out wb hwb) (Nat.le_trans hwa hwb.size) r13 (Nat.le_trans (Hq.out k) (by decide)) ?_; intro A' c' w' hq' hbx' hA'; refine hK.out _ _ (bx_sub hbx' (fun g hg => List.mem_cons_of_mem _ hg)) (fun hcur => ?_); have u0 : w'.cell? ⟨S, 2 + k, none⟩ = some (vQ Q' (sendTo l st t s.q k) k) := (by rw [((HS.out wb hwb).keep hdk hbx').cell, cSnd_at _ _ _ _ _ hk6]); have z0 : w'.frozen? ⟨S, 2 + k, none⟩ = false := ((HS.out wb hwb).keep hdk hbx').frozen _)
        clear hK K
        try simp only [Act.put, List.setIfInBounds_toArray, List.set_cons_zero, List.set_cons_succ]
        apply PlanW.step
        · exact zG
        · rfl
        intro K hK
        go_simp
        refine hK.out _ _ (by with_reducible first | assumption | exact bx_refl _ _) (fun hcur => ?_)
        clear hK K
        try simp only [Act.put, List.setIfInBounds_toArray, List.set_cons_zero, List.set_cons_succ]
        apply PlanW.step
        · exact zG
        · rfl
        intro K hK
        first
        | refine wp_store_keep (X := S :: blA (Q.A k)) (w0 := wb) rfl rfl rfl (by with_reducible first | exact bx_refl _ _ | assumption) (by with_reducible first | assumption | (apply Blk.below (hb := hwb); assumption)) (by simp) (by kernel_rfl) (by rfl) (by simp [Value.oneCell']) (fun hres1 hcur => ?_)
          refine hK.out _ _ hcur (fun _ => ?_)
        | go_simp
          refine hK.out _ _ (by (exact zX)) (fun hcur => ?_)
        | obtain ⟨u0, v0, z0⟩ := bx_cell0 hcur (Blk.below k5 hwb) (by simp)
          go_simp
          refine hK.out _ _ (by (exact zX)) (fun hcur => ?_)
        | obtain ⟨u0, v0, z0⟩ := bx_cell0 (X := S :: blA (Q.A k)) (w0 := wb) (by with_reducible first | assumption | exact bx_refl _ _) r13 (by simp)
          go_simp
          refine hK.out _ _ (by (exact zX)) (fun hcur => ?_)
        clear hK K
        try simp only [Act.put, List.setIfInBounds_toArray, List.set_cons_zero, List.set_cons_succ]
        refine PlanW.done ?_
        have hb3 := bl_tt hwb
        have hAk := h3 k (Nat.le_refl k)
        have hws : w.heap.size ≤ wb.heap.size := Nat.le_trans h2.size (Nat.le_trans hb0.size hwb.size)
        obtain ⟨hS', hX'⟩ := Snd.put (w := wb) (w1 := w') ((h1.below hb0).below hwb) hk6 hq' (by rw [hAk]; exact hbx') (by rw [hAk]; exact hA') rfl
        have hll : (s.q k ++ [((t : Int), x.len)]).length = (s.q k).length + 1 := by simp
        rw [hll] at hS' hX'
        rw [hAk] at hX'
        have h2' : BX (foot S Bw Q) w (w'.setCell ⟨S, 2 + k, none⟩ (.slice A' ((s.q k).length + 1) c')) := (h2.step (bl_tr hb0 hwb)).trans (bx_sub hX' (fun g hg => by
          rcases List.mem_cons.1 hg with rfl | hg
          · simp [foot]
          · exact foot_q hk6 hg))
        generalize w'.setCell ⟨S, 2 + k, none⟩ (.slice A' ((s.q k).length + 1) c') = w2 at *
        clear hX' hcur hq' hbx' u0 z0 hS2 LS HQ HS
        go_wp2
        go_roundw
        case rel =>
          refine ⟨k + 1, by omega, by go_num, _, by rw [sendTo_on e, hla]; exact hS', h2', fun i hi => ?_, fun i hi => ?_⟩
          · simp only [upF, if_neg (show i ≠ k by omega)]
            exact h3 i (by omega)
          · simp only [upF]
            split
            · rename_i hik
              rw [hik]
              rcases hA' with h | ⟨g, hg, hg2⟩
              · exact .inl h
              · exact .inr ⟨g, hg, by omega⟩
            · exact h4 i hi
        case measure => simp [intOf]; omega
      · have e : relB l st t k = false := by rw [hrel]; simp [c2]
        go_wp2
        go_roundw
        case rel => exact ⟨k + 1, by omega, by go_num, Q', by rw [sendTo_off e]; exact h1.below hb0, h2.step hb0, fun i hi => h3 i (by omega), h4⟩
        case measure => simp [intOf]; omega
    · have e : relB l st t k = false := by rw [hrel]; simp [c1]
      go_wp2
      go_roundw
      case rel => exact ⟨k + 1, by omega, by go_num, Q', by rw [sendTo_off e]; exact h1.below hb0, h2.step hb0, fun i hi => h3 i (by omega), h4⟩
      case measure => simp [intOf]; omega
end Go.Proofs.YtbdgblnccjpahaaGreatDoor
namespace Go.Proofs.YtbdgblnccjpahaaGreatDoor
open Go.RowKit Go.Shelf
attribute [local go_sem] bl_al bl_drew bl_drewN bl_refl bx_al bx_drew bx_drewN bx_refl
set_option maxRecDepth 20000
theorem c_open1 (x : Int) (w : World) : Calls Tryz.prog 125 #[.int .i64 x] w (Same (.bool (inR x 0 400)) w) := by
  go_enter Tryz.func125, Tryz.ntmps125
  go_wp2_with (go_at_call 71; (with_reducible refine (c_within _ _ _ _).mono ?_); rintro e w3 ⟨rfl, rfl⟩)
  go_ret
  exact ⟨rfl, rfl⟩
theorem c_open2 (k x : Int) (B : Nat) (w : World) (kb : Blk w B 126 #[.func (.func 125) #[] #[]]) :
    Calls Tryz.prog 126 #[.int .i64 k, .int .i64 x, .pointer (some ⟨B, 0, none⟩)] w (Ret (.int .i64 (unl (inR x 0 400) 2)) w) := by
  have L0 := kb.cell
  go_enter Tryz.func126, Tryz.ntmps126
  go_wp2_with (first | (go_at_call 125; (with_reducible refine (c_open1 _ _).mono ?_); rintro e w3 ⟨rfl, rfl⟩) | (go_at_call 58; (with_reducible refine (c_unless _ _ _).mono ?_); rintro e w3 ⟨rfl, rfl⟩))
  go_ret
  exact ⟨rfl, by (exact zE)⟩
theorem mk_ints (n : Nat) (hn : n ≤ 6) (W : World) : (Instr.makeSlice 23 (.int .i64 n) (.int .i64 n)).run Tryz.prog W = .ok (.slice (some ⟨W.heap.size, 0, none⟩) n n) (W.alloc (.cells ((List.range n).map fun i => Value.int .i64 (ss0.wo i)).toArray 3)) := by
  obtain ⟨i0, hi, hz0, hz1, hz2⟩ := info_parts infoI
  have := run_make (P := Tryz.prog) W 23 3 i0 (.int .i64 0) Tryz.underlying23 hi hz0 .i64 .i64 (n : Int) (n : Int) (by omega) (Int.le_refl _) (by rw [hz2]; simp; omega) (by omega)
  rw [hz1, Int.toNat_natCast, Nat.mul_one] at this
  have e : madeCells (Value.int .i64 0).cells n = ((List.range n).map fun i => Value.int .i64 (ss0.wo i)).toArray := by
    apply Array.ext
    · simp [madeCells]
    · intro i h1 h2
      simp [madeCells, ss0, Value.cells, Nat.mod_one]
  rw [e] at this
  exact this
/-- The error of streams and as many starts. -/
def stE1 (l : List Sm) (st : List Int) : Int := fstE [smsErr l, unl (decide ((st.length : Int) = l.length)) 10]
def stE2 (l : List Sm) (st : List Int) : Int := if stE1 l st = 0 then (eachS (fun _ n => unl (inR n 0 400) 2) st 0).2 else stE1 l st
set_option maxHeartbeats 8000000 in
theorem c_openSender (l : List Sm) (st : List Int) (t : Int) (Al As : Option Addr) (cl cs : Nat) (w : World) (hl : SmIn l Al cl w) (hs : Sl cI 1 w As st) (hsl : st.length ≤ 100000) :
    Calls Tryz.prog 67 #[.slice Al l.length cl, .slice As st.length cs, .int .i64 t] w (fun e w' => Below w.heap.size w w' ∧
      ((stE l st t ≠ 0 ∧ e = .returned (.tuple #[.pointer none, .int .i64 (stE l st t)])) ∨
        (stE l st t = 0 ∧ ∃ S Bw, e = .returned (.tuple #[.pointer (some ⟨S, 0, none⟩), .int .i64 0]) ∧ Snd w.heap.size S Bw (.slice Al l.length cl) (.slice As st.length cs) l.length ⟨fun _ => none, fun _ => 0⟩ ss0 w'))) := by
  have hc1 := Lib.hid fun W (hb : Below w.heap.size w W) => c_streamsErr l Al cl W (hl.below hb)
  have hc2 := Lib.hid fun (B : Nat) W (hb : Below w.heap.size w W) (kb : Blk W B 126 #[.func (.func 125) #[] #[]]) =>
    c_eachI 126 #[.pointer (some ⟨B, 0, none⟩)] (fun _ n => unl (inR n 0 400) 2) As st cs W (by omega) (enters_of Tryz.func126 (by kernel_rfl) rfl)
      (fun k x _ W' hb' => c_open2 k x B W' (kb.below hb')) (hs.below hb)
  have hlen := hl.len
  have hE1 : Hid (stE1 l st = fstE [smsErr l, unl ((st.length : Int) == l.length) 10]) := rfl
  have hE2 : Hid ((stE1 l st = 0 → stE2 l st = (eachS (fun _ n => unl (inR n 0 400) 2) st 0).2) ∧ (stE1 l st ≠ 0 → stE2 l st = stE1 l st)) := ⟨fun h => by rw [stE2, if_pos h], fun h => by rw [stE2, if_neg h]⟩
  have hE3 : Hid (stE l st t = fstE [stE2 l st, unl (inR t 0 400) 2]) := rfl
  have hn6 : Hid (stE l st t = 0 → l.length ≤ 6) := fun h => by
    obtain ⟨a1, -⟩ := (fst_cons _ _).1 h
    change stE2 l st = 0 at a1
    have a2 : stE1 l st = 0 := by
      by_cases h0 : stE1 l st = 0
      · exact h0
      · rw [stE2, if_neg h0] at a1; exact absurd a1 h0
    obtain ⟨a3, -⟩ := (fst_cons _ _).1 a2
    by_cases h6 : lenE l.length 6 = 0
    · obtain ⟨-, a4⟩ := (fst_cons _ _).1 h6
      obtain ⟨a5, -⟩ := (fst_cons _ _).1 a4
      have := (unl_zero (by decide)).1 a5
      simp at this
      omega
    · rw [smsErr, smsChk, if_neg h6] at a3; exact absurd a3 h6
  clear hl hs
  generalize smsErr l = se at *
  generalize eachS (fun _ n => unl (inR n 0 400) 2) st 0 = P at *
  obtain ⟨p1, p2⟩ := P
  dsimp only at *
  generalize stE1 l st = e1 at *
  generalize stE2 l st = e2 at *
  generalize stE l st t = e3 at *
  generalize l.length = n at *
  generalize st.length = m at *
  go_enter Tryz.func67, Tryz.ntmps67
  go_upto_region 2 with fail
  first
  | apply absB1 (w0 := w) (g0 := w.heap.size)
  | apply absTB1 (w0 := w) (g0 := w.heap.size)
  | apply absIB1 (w0 := w) (g0 := w.heap.size)
  iterate 2 (focus exact zL)
  try clear hb3
  try clear hb0
  try clear k0
  intro wa hb0 k0
  (try simp only [List.setIfInBounds_toArray, List.set_cons_zero, List.set_cons_succ] at k0)
  go_wp2_with fail
  refine (hc1.out wa hb0).mono ?_
  rintro e w3 ⟨rfl, hb3⟩
  replace hb0 := bl_tr hb0 hb3
  replace k0 := k0.below hb3
  clear hb3
  go_upto_region 3 with (first | (go_at_call 58; (with_reducible refine (c_unless _ _ _).mono ?_); rintro e w3 ⟨rfl, rfl⟩) | (go_at_call 74; (with_reducible refine (c_first2 (by (exact zK))).mono ?_); rintro e w3 ⟨rfl, rfl⟩))
  rw [← hE1.out]
  first
  | apply absB1 (w0 := w) (g0 := w.heap.size)
  | apply absTB1 (w0 := w) (g0 := w.heap.size)
  | apply absIB1 (w0 := w) (g0 := w.heap.size)
  iterate 2 (focus exact zL)
  try clear hb3
  try clear hb0
  try clear k0
  intro wb hb0 k0
  (try simp only [List.setIfInBounds_toArray, List.set_cons_zero, List.set_cons_succ] at k0)
  by_cases he1 : e1 = 0
  · have hE4 : Hid (fstE [p2, unl (inR t 0 400) 2] = e3) := Lib.hid (by rw [hE3.out, hE2.out.1 he1])
    have L0 := k0.cell
    go_wp2_with fail
    clear L0
    refine (hc2.out w.heap.size wb hb0 k0).mono ?_
    rintro e w3 ⟨rfl, hb3⟩
    replace hb0 := bl_tr hb0 hb3
    replace k0 := k0.below hb3
    clear hb3
    have L0 := k0.cell
    go_upto_region 6 with (first | (go_at_call 125; (with_reducible refine (c_open1 _ _).mono ?_); rintro e w3 ⟨rfl, rfl⟩) | (go_at_call 58; (with_reducible refine (c_unless _ _ _).mono ?_); rintro e w3 ⟨rfl, rfl⟩) | (go_at_call 74; (with_reducible refine (c_first2 (by (exact zK))).mono ?_); rintro e w3 ⟨rfl, rfl⟩))
    rw [hE4.out]
    clear L0
    by_cases he3 : e3 = 0
    rotate_left
    · go_wp2
      go_ret2
      exact ⟨by (exact zE), .inl ⟨he3, rfl⟩⟩
    have hn := hn6.out he3
    clear hc1 hc2 hE1 hE2 hE3 hE4 hn6
    subst he3
    have hmk : ∀ W : World, (Instr.makeSlice 23 (.int .i64 n) (.int .i64 n)).run Tryz.prog W = .ok (.slice (some ⟨W.heap.size, 0, none⟩) n n) (W.alloc (.cells ((List.range n).map fun i => Value.int .i64 (ss0.wo i)).toArray 3)) := fun W => mk_ints n hn W
    clear hlen
    go_wp2
    go_ret2
    have hsz := hb0.size
    refine ⟨by (exact zE), _, rfl, w3.heap.size + 1, ?_⟩
    refine ⟨Blk.newAt (by simp), Blk.alloc (Blk.newAt (by simp)) _, fun i hi => Qu.nil _ _ _, by omega, by omega, by omega, fun i j _ _ _ g hg => by simp [blA] at hg, fun i _ => by simp [blA], fun i _ => by simp [blA]⟩
  · have hE4 : Hid (fstE [e1, unl (inR t 0 400) 2] = e3) := Lib.hid (by rw [hE3.out, hE2.out.2 he1])
    have he0 : ¬ e3 = 0 := fun h => by rw [← hE4.out] at h; exact he1 ((fst_cons _ _).1 h).1
    have L0 := k0.cell
    go_upto_region 6 with (first | (go_at_call 125; (with_reducible refine (c_open1 _ _).mono ?_); rintro e w3 ⟨rfl, rfl⟩) | (go_at_call 58; (with_reducible refine (c_unless _ _ _).mono ?_); rintro e w3 ⟨rfl, rfl⟩) | (go_at_call 74; (with_reducible refine (c_first2 (by (exact zK))).mono ?_); rintro e w3 ⟨rfl, rfl⟩))
    rw [hE4.out]
    clear L0
    go_wp2
    go_ret2
    exact ⟨by (exact zE), .inl ⟨he0, rfl⟩⟩
end Go.Proofs.YtbdgblnccjpahaaGreatDoor
namespace Go.Proofs.YtbdgblnccjpahaaGreatDoor
open Go.RowKit Go.Shelf
attribute [local go_sem] bl_al bl_drew bl_drewN bl_refl bx_al bx_drew bx_drewN bx_refl
set_option maxRecDepth 20000
theorem mk_strs (n : Nat) (hn : n ≤ 1000000) (W : World) : (Instr.makeSlice 54 (.int .i64 n) (.int .i64 n)).run Tryz.prog W = .ok (.slice (some ⟨W.heap.size, 0, none⟩) n n) (W.alloc (.cells (List.replicate n (Value.string ByteArray.empty)).toArray 9)) := by
  obtain ⟨i0, hi, hz0, hz1, hz2⟩ := info_parts infoStr
  have := run_make (P := Tryz.prog) W 54 9 i0 (.string ByteArray.empty) Tryz.underlying54 hi hz0 .i64 .i64 (n : Int) (n : Int) (by omega) (Int.le_refl _) (by rw [hz2]; simp; omega) (by omega)
  rw [hz1, Int.toNat_natCast, Nat.mul_one] at this
  have e : madeCells (Value.string ByteArray.empty).cells n = (List.replicate n (Value.string ByteArray.empty)).toArray := by
    apply Array.ext
    · simp [madeCells]
    · intro i h1 h2
      simp [madeCells, Value.cells, Nat.mod_one]
  rw [e] at this
  exact this
/-- A row of strings, of which the first ones are laid. -/
def stB (n : Nat) (pre : List (List UInt8)) : Array Value := (pre.flatMap cB ++ List.replicate (n - pre.length) (Value.string ByteArray.empty)).toArray
theorem cB_len (l : List (List UInt8)) : (l.flatMap cB).length = l.length := by
  rw [flat_len' (sz := 1) (fun _ => rfl), Nat.mul_one]
theorem stB_at {n : Nat} {pre : List (List UInt8)} (h : pre.length < n) : (stB n pre)[pre.length]? = some (Value.string ByteArray.empty) := by
  unfold stB
  rw [List.getElem?_toArray, List.getElem?_append_right (by rw [cB_len]; exact Nat.le_refl _), cB_len, Nat.sub_self, List.getElem?_replicate, if_pos (by omega)]
theorem stB_set {n : Nat} {pre : List (List UInt8)} (x : List UInt8) (h : pre.length < n) : (stB n pre).setIfInBounds pre.length (.string ⟨x.toArray⟩) = stB n (pre ++ [x]) := by
  unfold stB
  obtain ⟨m, hm⟩ : ∃ m, n - pre.length = m + 1 := ⟨n - pre.length - 1, by omega⟩
  rw [List.setIfInBounds_toArray]
  congr 1
  rw [hm, List.length_append, List.length_singleton, show n - (pre.length + 1) = m by omega, List.set_append, if_neg (by rw [cB_len]; omega), cB_len, Nat.sub_self, List.replicate_succ, List.set_cons_zero, List.flatMap_append]
  simp [cB]
theorem splitC_count (c : UInt8) : ∀ l : List UInt8, (splitC c l).length = l.count c + 1
  | [] => rfl
  | x :: l => by
    have ih := splitC_count c l
    rw [splitC]
    split
    · rename_i h
      subst h
      simp [ih]
    · rename_i h
      rw [List.count_cons_of_ne h]
      split
      · rename_i a t he
        rw [he] at ih
        simpa using ih
      · rename_i he
        exact absurd he (splitC_ne c l)
set_option maxHeartbeats 4000000 in
theorem c_genSplit (l : List UInt8) (c : UInt8) (w : World) (hl : l.length ≤ 100000) :
    Calls Tryz.prog 137 #[.string ⟨l.toArray⟩, .string ⟨#[c]⟩, .int .i64 0, .int .i64 (-1)] w (fun e w' => ∃ A2 c2, e = .returned (.slice A2 (splitC c l).length c2) ∧ Below w.heap.size w w' ∧ w'.ownsRow w.heap.size 9 1 (.slice A2 (splitC c l).length c2) (splitC c l).length ((splitC c l).flatMap cB)) := by
  have hcl := List.count_le_length (a := c) (l := l)
  have hct := splitC_count c l
  have hcnt : Hid (∀ W : World, Calls Tryz.prog 168 #[.string ⟨l.toArray⟩, .string ⟨#[c]⟩] W (Same (.int .i64 (l.count c : Nat)) W)) := fun W => (Tryz.strings_Count_one ⟨l.toArray⟩ c W).mono fun e w' ⟨h1, h2⟩ => ⟨h1, h2.symm⟩
  obtain ⟨n, hn⟩ : ∃ n, l.count c = n := ⟨_, rfl⟩
  rw [hn] at hcl hct hcnt
  obtain ⟨xs, hxs⟩ : ∃ xs, Hid (splitC c l = xs) := ⟨_, rfl⟩
  rw [hxs.out] at hct ⊢
  have hmk := mk_strs (n + 1) (by omega)
  have e0 : (List.replicate (n + 1) (Value.string ByteArray.empty)).toArray = stB (n + 1) [] := by simp [stB]
  rw [e0] at hmk
  clear e0
  replace hn := Lib.hid hn
  rw [hct]
  simp only [Int.natCast_add, Int.cast_ofNat_Int] at hmk
  have hmin : min ((n : Int) + 1) ((l.length : Int) + 1) = (n : Int) + 1 := by omega
  go_enter Tryz.func137, Tryz.ntmps137
  go_upto_region 9 with (go_at_call 168; (with_reducible refine (hcnt.out _).mono ?_); rintro e w3 ⟨rfl, rfl⟩)
  have kB := Blk.new w 9 (stB (n + 1) [])
  have hb0 := bl_al (.cells (stB (n + 1) []) 9) (bl_refl w)
  generalize w.alloc (.cells (stB (n + 1) []) 9) = wA at *
  clear hmk hcnt hmin
  go_wp2
  go_loopw [0, 10] (fun s i wr => ∃ (pre : List (List UInt8)) (r : List UInt8), pre ++ splitC c r = xs ∧ r.length ≤ l.length ∧ i = .int .i64 pre.length ∧ s = .string ⟨r.toArray⟩ ∧ Below w.heap.size w wr ∧ Blk wr w.heap.size 9 (stB (n + 1) pre)) (fun _ i _ => n - (intOf i).toNat)
  case atStart => exact ⟨[], l, by rw [List.nil_append, hxs.out], Nat.le_refl _, rfl, rfl, hb0, kB⟩
  case round =>
    clear hb0 kB
    obtain ⟨pre, r, hpr, hrl, rfl, rfl, hb0, kB⟩ := hrel
    have hpl : pre.length + (splitC c r).length = n + 1 := by rw [← hct, ← hpr, List.length_append]
    have hs0 : 0 < (splitC c r).length := List.length_pos_iff.2 (splitC_ne c r)
    have hC : ∀ W, Below wr.heap.size wr W → W.cell? ⟨w.heap.size, pre.length, none⟩ = some (.string ByteArray.empty) := fun W hb => by rw [(kB.below hb).cell]; exact stB_at (by omega)
    have hF : ∀ W, Below wr.heap.size wr W → W.frozen? ⟨w.heap.size, pre.length, none⟩ = false := fun W hb => (kB.below hb).frozen _
    by_cases hkn : pre.length < n
    · have hkn2 : (pre.length : Int) < n := by omega
      obtain ⟨ix, Hix⟩ : ∃ z, Hid (Lib.indexByte r c = z) := ⟨_, rfl⟩
      have hix : Hid (∀ W : World, Calls Tryz.prog 157 #[.string ⟨r.toArray⟩, .string ⟨#[c]⟩] W (Same (.int .i64 ix) W)) := fun W => (Tryz.strings_Index_one ⟨r.toArray⟩ c W).mono fun e w' ⟨h1, h2⟩ => ⟨by rw [h1]; exact congrArg (fun z => Ending.returned (.int .i64 z)) Hix.out, h2.symm⟩
      have hge : ¬ ix < 0 := fun h => by
        have := splitC_none c r (by rw [Hix.out]; exact h)
        rw [this] at hpl
        simp at hpl
        omega
      obtain ⟨i, hi⟩ : ∃ i : Nat, ix = i := ⟨ix.toNat, by omega⟩
      subst hi
      obtain ⟨hil, hstep⟩ := splitC_some c r i Hix.out
      rw [hstep] at hpr
      have hnew := stB_set (n := n + 1) (pre := pre) (r.take i) (by omega)
      replace hpr := Lib.hid hpr
      replace hnew := Lib.hid hnew
      replace hpl := Lib.hid hpl
      replace hct := Lib.hid hct
      clear Hix hstep hge
      go_upto_region 13 with (go_at_call 157; (with_reducible refine (hix.out _).mono ?_); rintro e w3 ⟨rfl, rfl⟩)
      clear hix
      go_upto_region 14 with fail
      have hex : (ByteArray.mk r.toArray).extract 0 i = ⟨(r.take i).toArray⟩ := by rw [ByteArray.extract_mk, List.drop_zero, Nat.sub_zero]
      have hex2 : (ByteArray.mk r.toArray).extract (i + 1) r.length = ⟨(r.drop (i + 1)).toArray⟩ := by rw [ByteArray.extract_mk, List.take_of_length_le (by simp)]
      have hi1 : (i : Int) < 1000000 := by omega
      have hi2 : (i : Int) ≤ r.length := by omega
      have hi3 : (i : Int) + 1 ≤ r.length := by omega
      have hLC := hC wr (bl_refl wr)
      have hLF := hF wr (bl_refl wr)
      have hb2 := bl_set (p := ⟨w.heap.size, pre.length, none⟩) (by simp) (.string ⟨(r.take i).toArray⟩) hb0
      have k2 := kB.set pre.length (.string ⟨(r.take i).toArray⟩)
      rw [hnew.out] at k2
      clear hC hF
      go_upto_region 15 with fail
      generalize wr.setCell ⟨w.heap.size, pre.length, none⟩ (.string ⟨(r.take i).toArray⟩) = w2 at *
      clear hLC hLF hex
      go_wp2
      go_roundw
      case rel => exact ⟨pre ++ [r.take i], r.drop (i + 1), by rw [List.append_assoc]; exact hpr.out, by rw [List.length_drop]; omega, by first | rfl | go_num | (simp; done), rfl, hb2, k2⟩
      case measure => simp [intOf]; omega
    · have hone : (splitC c r).length = 1 := by omega
      have hr1 := splitC_not c r ((splitC_two c r).1 hone)
      rw [hr1] at hpr
      have hk : pre.length = n := by omega
      have hnew := stB_set (n := n + 1) (pre := pre) r (by omega)
      rw [hpr] at hnew
      have hkn2 : ¬ (pre.length : Int) < n := by omega
      have hLC := hC wr (bl_refl wr)
      have hLF := hF wr (bl_refl wr)
      have hb2 := bl_set (p := ⟨w.heap.size, pre.length, none⟩) (by simp) (.string ⟨r.toArray⟩) hb0
      have k2 := kB.set pre.length (.string ⟨r.toArray⟩)
      rw [hnew] at k2
      clear hC hF hpl hone hr1 hpr hnew hs0 hrl
      replace hct := Lib.hid hct
      subst hk
      go_upto_region 18 with fail
      generalize wr.setCell ⟨w.heap.size, pre.length, none⟩ (.string ⟨r.toArray⟩) = w2 at *
      go_wp2
      go_ret
      refine ⟨_, _, rfl, hb2, by rw [cB_len, hct.out, Nat.mul_one], .inr ⟨w.heap.size, pre.length + 1, _, rfl, Nat.le_refl _, k2, Nat.le_refl _, by unfold maxLen; omega, ?_, ?_⟩⟩
      · have h1 := cB_len xs
        unfold stB
        rw [hct.out] at h1 ⊢
        rw [Nat.sub_self, List.replicate_zero, List.append_nil, List.size_toArray, h1, Nat.mul_one]
      · have h1 := cB_len xs
        unfold stB
        rw [hct.out] at h1 ⊢
        rw [Nat.sub_self, List.replicate_zero, List.append_nil, Nat.mul_one, List.take_of_length_le (by rw [h1]; exact Nat.le_refl _)]
theorem c_SplitB (l : List UInt8) (c : UInt8) (w : World) (hl : l.length ≤ 100000) :
    Calls Tryz.prog 83 #[.string ⟨l.toArray⟩, .string ⟨#[c]⟩] w (fun e w' => ∃ A2 c2, e = .returned (.slice A2 (splitC c l).length c2) ∧ Below w.heap.size w w' ∧ w'.ownsRow w.heap.size 9 1 (.slice A2 (splitC c l).length c2) (splitC c l).length ((splitC c l).flatMap cB)) := by
  have hc := Lib.hid fun W => c_genSplit l c W hl
  generalize splitC c l = xs at *
  go_enter Tryz.func83, Tryz.ntmps83
  go_wp2_with fail
  refine (hc.out _).mono ?_
  rintro e w1 ⟨A2, c2, rfl, hb, ho⟩
  go_wp2
  go_ret
  exact ⟨A2, c2, rfl, hb, ho⟩
end Go.Proofs.YtbdgblnccjpahaaGreatDoor
namespace Go.Proofs.YtbdgblnccjpahaaGreatDoor
open Go.RowKit
section
variable {P : Program} {ops : Array Oper} {Q : Exit → Act → World → Prop} {m : Nat} {M : List Nat}
def FinT (P : Program) (ops : Array Oper) (Q : Exit → Act → World → Prop) (M : List Nat) (w0 : World) (A : (Nat → Value) → Act) (X : (Nat → Gh) → List Nat) (p : Parts) (h : List Sp) : Prop :=
  ∀ γ u W, BX M w0 W → Known h γ u w0 W (heads ops.size p.tail) → PlanW P ops Q (fun W' => BX (X γ) W W') (p.tail.map fun t => (t, false)) (A u) W
def RGT (P : Program) (ops : Array Oper) (Q : Exit → Act → World → Prop) (m : Nat) (M : List Nat) (w0 : World) (A : (Nat → Value) → Act) (X : (Nat → Gh) → List Nat) (p : Parts) : Nat → List Sp → Prop
  | 0, h => FinT P ops Q M w0 A X p h
  | k + 1, h => ∃ s, (p.tail.contains h.length = false → OpOKM P ops Q m M w0 A p h h.length s) ∧ RGT P ops Q m M w0 A X p k (h ++ [s])
structure InvT (ops : Array Oper) (p : Parts) (hs : List Sp) (m : Nat) (M : List Nat) (w0 : World) (a0 : Act) (listed : Array Bool) (γ : Nat → Gh) (u : Nat → Value) (a : Act) (W : World) : Prop where
  bx : BX M w0 W
  bl : listed.getD m false = false → Below w0.heap.size w0 W
  put : a = putD a0 p.ds 0 u
  kn : ∀ j, p.tail.contains j = false → j < ops.size → listed.getD j false = true → Known1 hs γ u w0 W j
theorem inv_upT {p : Parts} {hs : List Sp} {w0 : World} {a0 : Act} {A : (Nat → Value) → Act} (F : AnyF ops p)
    (ok : ∀ i, i < ops.size → p.tail.contains i = false → OpOKM P ops Q m M w0 A p hs i (spAt hs i)) {listed : Array Bool} {γ : Nat → Gh} {u : Nat → Value} {a : Act} {W W' : World} (inv : LInv ops p listed) (I : InvT ops p hs m M w0 a0 listed γ u a W)
    {i : Nat} {o : Oper} (hi : i < ops.size) (hti : p.tail.contains i = false) (hun : listed.getD i true = false) (ho : ops[i]? = some o) (g : Gh)
    (hb' : StM m M i W W') (hR : (spAt hs i).R (up γ i g) W') (hbl : ∀ x ∈ (spAt hs i).bl g, W.heap.size ≤ x ∧ x < W'.heap.size) :
    InvT ops p hs m M w0 a0 (listed.setIfInBounds i true) (up γ i g) (up u i ((spAt hs i).val (up γ i g))) (a.put o.dst ((spAt hs i).val (up γ i g))) W' := by
  obtain ⟨hbx, hb, ha, hkn⟩ := I
  obtain ⟨o', ho', hdst, _, hD⟩ := F.dst i hi hti
  obtain rfl : o = o' := Option.some.inj (ho.symm.trans ho')
  have hCl : ∀ j, p.tail.contains j = false → j < ops.size → listed.getD j false = true → ∀ k ∈ p.C.getD j [], listed.getD k false = true := fun j htj hj hl =>
    F.closed_C inv j hj htj fun o' ho' => inv.closed j o' ho' hl
  have hni : ∀ j, listed.getD j false = true → j ≠ i := fun j hj e => by rw [e, getD_both hun] at hj; cases hj
  have hbx' := hb'.bx
  refine ⟨hbx.trans hbx', fun hl => ?_, ?_, fun j htj hj hl => ?_⟩
  · have him : i ≠ m := fun e => by
      subst e
      have hlt : i < listed.size := by rw [inv.size]; exact hi
      simp [hlt] at hl
    have hl' : listed.getD m false = false := by rwa [getD_set_ne false him] at hl
    unfold StM at hb'
    rw [if_neg him] at hb'
    exact (hb hl').trans (hb'.mono (hb hl').size)
  · rw [ha, hdst]
    have := putD_up p.ds a0 0 i u ((spAt hs i).val (up γ i g)) F.dis (Nat.zero_le _) (by rw [F.len]; omega)
    simpa using this
  · rcases listed_set hl with rfl | hl
    · exact ⟨by simp [up], hR, fun x hx => by
        have : x ∈ (spAt hs j).bl g := by simpa [up] using hx
        have := hbl x this
        exact ⟨Nat.le_trans hbx.size this.1, this.2⟩⟩
    · have hji := hni j hl
      obtain ⟨k1, k2, k3⟩ := hkn j htj hj hl
      have hcg := (ok j hj htj).1 γ (up γ i g) (fun k hk => by
        have : k ≠ i := by
          rcases hk with rfl | hk
          · exact hji
          · exact hni k (hCl j htj hj hl k hk)
        simp [up, this])
      refine ⟨?_, hcg.2 _ ?_, fun x hx => ?_⟩
      · rw [← hcg.1, ← k1]; simp [up, hji]
      · unfold StM at hb'
        by_cases him : i = m
        · subst him
          rw [if_pos rfl] at hb'
          exact (ok j hj htj).2.2.1 hji γ W W' k3 hb' k2
        · rw [if_neg him] at hb'
          exact (ok j hj htj).2.1 γ W W' hb' k2
      · have := k3 x (by simpa [up, hji] using hx)
        exact ⟨this.1, Nat.lt_of_lt_of_le this.2 hbx'.size⟩
end
section
variable {P : Program} {ops : Array Oper} {Q : Exit → Act → World → Prop} {m : Nat} {M : List Nat} {w0 : World} {A : (Nat → Value) → Act} {X : (Nat → Gh) → List Nat} {p : Parts} {k i : Nat} {h : List Sp} {o : Oper} {val : (Nat → Gh) → Value}
theorem RGT.skip (hn : h.length = i) (ht : p.tail.contains i = true) (H : RGT P ops Q m M w0 A X p k (h ++ [sp0])) : RGT P ops Q m M w0 A X p (k + 1) h :=
  ⟨sp0, fun h' => (by rw [hn, ht] at h'; cases h'), H⟩
theorem RGT.fin (H : ∀ γ u W, BX M w0 W → KnownL h γ u w0 W (heads ops.size p.tail) → PlanW P ops Q (fun W' => BX (X γ) W W') (p.tail.map fun t => (t, false)) (A u) W) : RGT P ops Q m M w0 A X p 0 h := fun γ u W hb hk => H γ u W hb hk.toL
end
end Go.Proofs.YtbdgblnccjpahaaGreatDoor
namespace Go.Proofs.YtbdgblnccjpahaaGreatDoor
open Go.RowKit
section
variable {P : Program} {ops : Array Oper} {Q : Exit → Act → World → Prop} {m : Nat} {M : List Nat}
def LateOKL (P : Program) (ops : Array Oper) (M : List Nat) (w0 : World) (A : (Nat → Value) → Act) (X : (Nat → Gh) → List Nat) (D : List (List Nat)) (h : List Sp) (i : Nat) (s : Sp) : Prop :=
  ∀ γ u Wm W, BX M w0 Wm → Known h γ u w0 Wm (D.getD i []) → BX (X γ) Wm W → ∃ o, ops[i]? = some o ∧
    ((Region.wanted o (yielded ops (A u).tmps) = true ∧ (execOp (A u).eval o).run P W = .ok (.value (s.val γ)) W) ∨ (Region.wanted o (yielded ops (A u).tmps) = false ∧ s.val γ = undef))
def OpOKL (P : Program) (ops : Array Oper) (Q : Exit → Act → World → Prop) (m : Nat) (M : List Nat) (w0 : World) (A : (Nat → Value) → Act) (X : (Nat → Gh) → List Nat) (p : Parts) (h : List Sp) (i : Nat) (s : Sp) : Prop :=
  OpOKM P ops Q m M w0 A p h i s ∧ (p.late.contains i = true → i ≠ m ∧ s.bl = (fun _ => []) ∧ s.R = (fun _ _ => True) ∧ LateOKL P ops M w0 A X p.D h i s)
def RGL (P : Program) (ops : Array Oper) (Q : Exit → Act → World → Prop) (m : Nat) (M : List Nat) (w0 : World) (A : (Nat → Value) → Act) (X : (Nat → Gh) → List Nat) (p : Parts) : Nat → List Sp → Prop
  | 0, h => FinT P ops Q M w0 A X p h
  | k + 1, h => ∃ s, (p.tail.contains h.length = false → OpOKL P ops Q m M w0 A X p h h.length s) ∧ RGL P ops Q m M w0 A X p k (h ++ [s])
theorem RGL_all {w0 : World} {A : (Nat → Value) → Act} {X : (Nat → Gh) → List Nat} {p : Parts} (F : AnyF ops p) :
    ∀ (k : Nat) (h : List Sp), h.length + k = ops.size → RGL P ops Q m M w0 A X p k h →
      ∃ hs, (∀ j, j < h.length → spAt hs j = spAt h j) ∧ (∀ i, h.length ≤ i → i < ops.size → p.tail.contains i = false → OpOKL P ops Q m M w0 A X p hs i (spAt hs i)) ∧ FinT P ops Q M w0 A X p hs
  | 0, h, hk, H => ⟨h, fun _ _ => rfl, fun i h1 h2 => by omega, H⟩
  | k + 1, h, hk, ⟨s, hop, H⟩ => by
    obtain ⟨hs, e, ok, fin⟩ := RGL_all F k (h ++ [s]) (by simp; omega) H
    have el : spAt hs h.length = s := (e h.length (by simp)).trans (spAt_last h s)
    have ej : ∀ j, j < h.length → spAt hs j = spAt h j := fun j hj => (e j (by simp; omega)).trans (spAt_app h s j hj)
    refine ⟨hs, ej, fun i h1 h2 h3 => ?_, fin⟩
    by_cases hi : i = h.length
    · subst hi
      obtain ⟨⟨c1, c2, c3, c4⟩, c5⟩ := hop h3
      rw [el]
      have tr : ∀ γ u W, Known hs γ u w0 W (p.D.getD h.length []) → Known h γ u w0 W (p.D.getD h.length []) := fun γ u W hkn => Known.of fun j hj => by
        have := hkn.mem j hj
        obtain ⟨_, _, _, _, hD⟩ := F.dst h.length h2 h3
        unfold Known1 at this ⊢
        rw [ej j (hD j hj).2] at this
        exact this
      exact ⟨⟨c1, c2, c3, fun γ u W hb hkn => c4 γ u W hb (tr γ u W hkn)⟩, fun hl => ⟨(c5 hl).1, (c5 hl).2.1, (c5 hl).2.2.1, fun γ u Wm W hb hkn hx => (c5 hl).2.2.2 γ u Wm W hb (tr γ u Wm hkn) hx⟩⟩
    · exact ok i (by simp; omega) h2 h3
section
variable {p : Parts} {hs : List Sp} {w0 : World} {a0 : Act} {A : (Nat → Value) → Act} {X : (Nat → Gh) → List Nat}
theorem invT_known (F : AnyF ops p) {listed : Array Bool} {γ : Nat → Gh} {u : Nat → Value} {a : Act} {W : World} (inv : LInv ops p listed) (I : InvT ops p hs m M w0 a0 listed γ u a W)
    {i : Nat} {o : Oper} (hi : i < ops.size) (hti : p.tail.contains i = false) (ho : ops[i]? = some o) (hall : ∀ e ∈ o.after, Region.binds .any e = true → listed.getD e.on false = true) : Known hs γ u w0 W (p.D.getD i []) := by
  obtain ⟨o', ho', hdst, hbk, hD⟩ := F.dst i hi hti
  have hCi := F.closed_C inv i hi hti fun o' ho' => by
    obtain rfl : o = o' := Option.some.inj (ho.symm.trans ho')
    exact hall
  refine Known.of fun k hk => ?_
  have hl := hCi k (hD k hk).1
  refine I.kn k ?_ (by have := (hD k hk).2; omega) hl
  cases htk : p.tail.contains k with
  | false => rfl
  | true => rw [getD_both (inv.tail k htk)] at hl; cases hl
theorem any_lateL (F : AnyF ops p) (hQ : ∀ c a w (d : Option Tmp) (v : Value), Q (.panic c) (a.put d v) w → Q (.panic c) a w) (hA : ∀ u, putD a0 p.ds 0 u = A u)
    (ok : ∀ i, i < ops.size → p.tail.contains i = false → OpOKL P ops Q m M w0 A X p hs i (spAt hs i)) (fin : FinT P ops Q M w0 A X p hs) (γ : Nat → Gh) (W : World) :
    ∀ (f : Nat) (listed : Array Bool) (u : Nat → Value) (a : Act), LInv ops p listed → cntp ops.size p listed = f →
      (∀ i, i < ops.size → p.tail.contains i = false → p.late.contains i = false → listed.getD i true = true) → InvT ops p hs m M w0 a0 listed γ u a W →
      wpAnyH P .any ops Q (fun W' => BX (X γ) W W') (f + p.tail.length) listed a W
  | 0, listed, u, a, inv, hc, _, I => by
    have e := cntp_zero inv hc
    have hl : ∀ j, j < ops.size → p.tail.contains j = false → listed.getD j false = true := fun j hj ht => by
      rw [e, headA_at _ _ hj, ht]; rfl
    have h1 := fin γ u W I.bx (Known.of fun j hj => by
      unfold heads at hj
      simp only [List.mem_filter, List.mem_range, Bool.not_eq_true'] at hj
      exact I.kn j hj.2 hj.1 (hl j hj.1 hj.2))
    rw [← hA, ← I.put] at h1
    have := planW_any F.sel (fun c a w d v => hQ c a w d v) (p.tail.map fun t => (t, false)) listed a W (by rw [e]; exact F.plan) (bx_refl _ _) h1
    simpa using this
  | f + 1, listed, u, a, inv, hc, hmain, I => by
    obtain ⟨j, hj, htj, hun⟩ := cntp_pos (n := ops.size) (p := p) (listed := listed) (by omega)
    obtain ⟨i, _, hti, hr⟩ := ready_first F inv j hj htj hun
    obtain ⟨huni, o, ho, hall⟩ := mem_ready.1 hr
    have hi : i < ops.size := (Array.getElem?_eq_some_iff.1 ho).1
    have hla : p.late.contains i = true := by
      cases h : p.late.contains i with
      | true => rfl
      | false => rw [hmain i hi hti h] at huni; cases huni
    have hkn := invT_known F inv I hi hti ho hall
    obtain ⟨him, hB, hR, hok⟩ := (ok i hi hti).2 hla
    have hS : YieldsIf P ops (fun W' => BX (X γ) W W') o ((spAt hs i).val γ) a := by
      have h0 := hok γ u W W I.bx hkn (bx_refl _ _)
      obtain ⟨o', ho', h⟩ := h0
      obtain rfl : o = o' := Option.some.inj (ho.symm.trans ho')
      rw [← hA, ← I.put] at h
      rcases h with ⟨hw, _⟩ | ⟨hw, e⟩
      · refine .inl ⟨hw, fun W' hW' => ?_⟩
        obtain ⟨o', ho', h⟩ := hok γ u W W' I.bx hkn hW'
        obtain rfl : o = o' := Option.some.inj (ho.symm.trans ho')
        rw [← hA, ← I.put] at h
        rcases h with ⟨_, h⟩ | ⟨hw', _⟩
        · exact h
        · rw [hw] at hw'; cases hw'
      · exact .inr ⟨hw, e⟩
    obtain ⟨oi, hoi, hap⟩ := F.lt i hla
    obtain rfl : o = oi := Option.some.inj (ho.symm.trans hoi)
    have hself : up γ i (γ i) = γ := by
      funext k
      unfold up
      split
      · rename_i e; rw [e]
      · rfl
    have I' := inv_upT (W' := W) F (fun i h1 h2 => (ok i h1 h2).1) inv I hi hti huni ho (γ i) (by unfold StM; rw [if_neg him]; exact Below.refl _ _) (by rw [hR]; trivial) (by rw [hB]; intro x hx; cases hx)
    rw [hself] at I'
    have hlt : i < listed.size := by rw [inv.size]; exact hi
    rw [show f + 1 + p.tail.length = (f + p.tail.length) + 1 by omega]
    refine wpAnyH_first ho (Region.noSelect_spec F.sel) (fun c a w h => hQ c a w _ _ h) _ listed a W (fun k ok' hk hki hunk hno => ?_) hr hS (bx_refl _ _)
      (any_lateL F hQ hA ok fin γ W f _ _ _ (inv.set hr hti) (by have := cntp_set hi hlt hti huni; omega) (fun k hk h1 h2 => ?_) I')
    · have hkl : p.late.contains k = true ∨ p.tail.contains k = true := by
        cases h1 : p.late.contains k with
        | true => exact .inl rfl
        | false =>
          cases h2 : p.tail.contains k with
          | true => exact .inr rfl
          | false => rw [hmain k (Array.getElem?_eq_some_iff.1 hk).1 h2 h1] at hunk; cases hunk
      rcases hap k hkl hki ok' hk with ⟨e, he, hb, hon⟩ | ⟨e, he, hb, hon⟩ | h
      · exact absurd hon (hno e he hb)
      · have := hall e he hb
        rw [hon, getD_both hunk] at this
        cases this
      · exact h
    · have := hmain k hk h1 h2
      have hne : i ≠ k := fun e => by rw [e, h2] at hla; cases hla
      rw [getD_set_ne true hne]; exact this
theorem any_headL (F : AnyF ops p) (hQ : ∀ c a w (d : Option Tmp) (v : Value), Q (.panic c) (a.put d v) w → Q (.panic c) a w) (hA : ∀ u, putD a0 p.ds 0 u = A u)
    (ok : ∀ i, i < ops.size → p.tail.contains i = false → OpOKL P ops Q m M w0 A X p hs i (spAt hs i)) (fin : FinT P ops Q M w0 A X p hs) :
    ∀ (f : Nat) (listed : Array Bool) (γ : Nat → Gh) (u : Nat → Value) (a : Act) (W : World), LInv ops p listed → cntp ops.size p listed = f → InvT ops p hs m M w0 a0 listed γ u a W →
      wpAny P .any ops Q (f + p.tail.length) listed a W := by
  intro f
  induction f with
  | zero =>
    intro listed γ u a W inv hc I
    refine wpAny_of_held (S := fun W' => BX (X γ) W W') _ _ _ _ (any_lateL F hQ hA ok fin γ W 0 listed u a inv hc (fun i hi h1 h2 => ?_) I)
    have e := cntp_zero inv hc
    rw [e, headA_at _ _ hi, h1]; rfl
  | succ f ih =>
    intro listed γ u a W inv hc I
    by_cases hm : ∀ i, i < ops.size → p.tail.contains i = false → p.late.contains i = false → listed.getD i true = true
    · exact wpAny_of_held (S := fun W' => BX (X γ) W W') _ _ _ _ (any_lateL F hQ hA ok fin γ W (f + 1) listed u a inv hc hm I)
    · have ⟨i0, hm1⟩ := Classical.not_forall.1 hm
      have ⟨hi0, hm2⟩ := Classical.not_imp.1 hm1
      have ⟨ht0, hm3⟩ := Classical.not_imp.1 hm2
      have ⟨hl0, hm4⟩ := Classical.not_imp.1 hm3
      have hu0 : listed.getD i0 true = false := by simpa using hm4
      rw [show f + 1 + p.tail.length = (f + p.tail.length) + 1 by omega]
      refine ⟨fun h => ?_, fun i hr => ?_⟩
      · obtain ⟨i, _, _, hr⟩ := ready_first F inv i0 hi0 ht0 hu0
        rw [h] at hr
        cases hr
      · have hti : p.tail.contains i = false := by
          cases h : p.tail.contains i with
          | false => rfl
          | true => exact absurd hr (F.tail_waits inv hi0 ht0 hl0 hu0 i h)
        obtain ⟨huni, o, ho, hall⟩ := mem_ready.1 hr
        have hi : i < ops.size := (Array.getElem?_eq_some_iff.1 ho).1
        have hlt : i < listed.size := by rw [inv.size]; exact hi
        have hkn := invT_known F inv I hi hti ho hall
        have hpre : PreM m M i w0 W := by
          unfold PreM
          split
          · rename_i e
            subst e
            exact I.bl (getD_both huni)
          · exact I.bx
        obtain ⟨o', ho', hop⟩ := (ok i hi hti).1.2.2.2 γ u W hpre hkn
        obtain rfl : o = o' := Option.some.inj (ho.symm.trans ho')
        rw [← hA, ← I.put] at hop
        unfold OpWM at hop
        refine wpOp_mono (fun a' W' hp => ?_) hop
        obtain ⟨g, e, hb', hR, hbl⟩ := hp
        rw [e]
        exact ih _ _ _ _ W' (inv.set hr hti) (by have := cntp_set hi hlt hti huni; omega) (inv_upT F (fun i h1 h2 => (ok i h1 h2).1) inv I hi hti huni ho g hb' hR hbl)
end
end
theorem wpAny_rgL {P : Program} {Q : Exit → Act → World → Prop} {a0 : Act} {w w0 : World} {l : List Oper} {A : (Nat → Value) → Act} (m : Nat) (M : List Nat) (p : Parts) (X : (Nat → Gh) → List Nat)
    (hB : anyOk l.toArray p = true) (hb : Below w0.heap.size w0 w.drew) (hA : ∀ u, putD a0 p.ds 0 u = A u) (h : RGL P l.toArray (NoPanic Q) m M w0 A X p l.toArray.size []) :
    wpAny P .any l.toArray (NoPanic Q) l.toArray.size (Array.replicate l.toArray.size false) a0 w.drew := by
  have F := anyOk_spec hB
  obtain ⟨hs, _, ok, fin⟩ := RGL_all F _ [] (by simp) h
  have inv0 : LInv l.toArray p (Array.replicate l.toArray.size false) :=
    ⟨by simp, fun j oj _ hl => (by rw [getD_replicate_false] at hl; cases hl), fun t ht => getD_in (by have := F.tin t ht; simpa using this) (getD_replicate_false _ _)⟩
  have hc : cntp l.toArray.size p (Array.replicate l.toArray.size false) = (List.range l.toArray.size).countP (fun j => !p.tail.contains j) := by
    unfold cntp
    refine List.countP_congr fun j hj => ?_
    have : j < l.length := by have := List.mem_range.1 hj; simpa using this
    simp [this]
  have := any_headL (P := P) (Q := NoPanic Q) F (fun _ _ _ _ _ h => h) hA (fun i hi => ok i (Nat.zero_le _) hi) fin _ _ (fun _ => gh0) (fun j => match p.ds.getD j none with | some t => a0.tmps.getD t undef | none => undef) a0 w.drew inv0 hc
    ⟨bx_bl M hb, fun _ => hb, (putD_old p.ds a0 0 _ fun j _ => by rw [Nat.zero_add]; cases p.ds.getD j none <;> rfl).symm, fun j _ _ hl => (by rw [getD_replicate_false] at hl; cases hl)⟩
  rw [F.cnt] at this
  exact this
/-- The walk of such a region in a round. -/
theorem wpIn_anyL {P : Program} {Q : Exit → Act → World → Prop} {n ln id : Nat} {a0 : Act} {w w0 : World} {l : List Oper} {A : (Nat → Value) → Act} (m : Nat) (M : List Nat) (p : Parts) (X : (Nat → Gh) → List Nat) (hm : P.follows .mixedOrders = true)
    (hd : noDefer l.toArray = true) (hB : anyOk l.toArray p = true) (hb : Below w0.heap.size w0 w.drew) (hA : ∀ u, putD a0 p.ds 0 u = A u) (h : RGL P l.toArray (NoPanic (Only Q)) m M w0 A X p l.toArray.size []) :
    (Code.region id l.toArray true).wpIn (Fence.wide.inRound ln) n P Q a0 w :=
  Code.wpIn_mono Only.imp (wpIn_region_any hm (wpAnyIn_of hd only_shut _ _ _ _ (wpAny_rgL m M p X hB hb hA h)))
section
variable {P : Program} {ops : Array Oper} {Q : Exit → Act → World → Prop} {m : Nat} {M : List Nat} {w0 : World} {A : (Nat → Value) → Act} {X : (Nat → Gh) → List Nat} {p : Parts} {k i : Nat} {h : List Sp} {o : Oper} {val : (Nat → Gh) → Value}
theorem RGL.skip (hn : h.length = i) (ht : p.tail.contains i = true) (H : RGL P ops Q m M w0 A X p k (h ++ [sp0])) : RGL P ops Q m M w0 A X p (k + 1) h :=
  ⟨sp0, fun h' => (by rw [hn, ht] at h'; cases h'), H⟩
theorem RGL.on (hn : h.length = i) (hne : i ≠ m) (hi : ops[i]? = some o) (hop : ∀ γ u W, BX M w0 W → KnownL h γ u w0 W (p.D.getD i []) → Region.wanted o (yielded ops (A u).tmps) = true ∧ (execOp (A u).eval o).run P W = .ok (.value (val γ)) W)
    (hc : ∀ γ γ' : Nat → Gh, (∀ j, j = i ∨ j ∈ p.C.getD i [] → γ j = γ' j) → val γ = val γ') (hl : p.late.contains i = false)
    (H : RGL P ops Q m M w0 A X p k (h ++ [⟨val, fun _ _ => True, fun _ => []⟩])) : RGL P ops Q m M w0 A X p (k + 1) h := by
  subst hn
  refine ⟨_, fun _ => ⟨⟨fun γ γ' hg => ⟨hc γ γ' hg, fun _ h => h⟩, fun _ _ _ _ h => h, fun _ _ _ _ _ _ h => h, fun γ u W hb hk => ⟨o, hi, ?_⟩⟩, fun h => by rw [hl] at h; cases h⟩, H⟩
  unfold PreM at hb
  rw [if_neg hne] at hb
  obtain ⟨hw, hv⟩ := hop γ u W hb hk.toL
  unfold OpWM wpOp
  simp only [hi]
  rw [if_pos hw]
  refine .inl ?_
  unfold Oper.wp
  simp only [hv, Oper.upon]
  refine ⟨γ h.length, ?_, ?_, trivial, fun x hx => by cases hx⟩
  · rw [up_self]
  · unfold StM
    rw [if_neg hne]
    exact Below.refl _ _
/-- Any operation that meets a specification with a ghost. -/
theorem RGL.gh (s : Sp) (hn : h.length = i) (hne : i ≠ m) (hi : ops[i]? = some o)
    (hop : ∀ γ u W, BX M w0 W → KnownL h γ u w0 W (p.D.getD i []) → Region.wanted o (yielded ops (A u).tmps) = true ∧
      ∀ K : Act → World → Prop, Shut (∀ g v W', v = s.val (up γ i g) → Below W.heap.size W W' → s.R (up γ i g) W' → (∀ x ∈ s.bl g, W.heap.size ≤ x ∧ x < W'.heap.size) → K ((A u).put o.dst v) W') → Oper.wp P o (A u) W K Q)
    (hc : Cong (p.C.getD i []) i s) (hm : ∀ γ W W', Below W.heap.size W W' → s.R γ W → s.R γ W') (hx : ∀ γ W W', (∀ x ∈ s.bl (γ i), w0.heap.size ≤ x ∧ x < W.heap.size) → BX M W W' → s.R γ W → s.R γ W')
    (hl : p.late.contains i = false) (H : RGL P ops Q m M w0 A X p k (h ++ [s])) : RGL P ops Q m M w0 A X p (k + 1) h := by
  subst hn
  refine ⟨s, fun _ => ⟨⟨hc, hm, fun _ => hx, fun γ u W hb hk => ⟨o, hi, ?_⟩⟩, fun h => by rw [hl] at h; cases h⟩, H⟩
  unfold PreM at hb
  rw [if_neg hne] at hb
  obtain ⟨hw, hx⟩ := hop γ u W hb hk.toL
  unfold OpWM wpOp
  simp only [hi]
  rw [if_pos hw]
  exact .inl (hx _ (shut_in fun g v W' hv hb' hR hbl => ⟨g, by rw [hv], by unfold StM; rw [if_neg hne]; exact hb', hR, hbl⟩))
/-- The operation that turns the blocks M. -/
theorem RGL.mut (s : Sp) (hn : h.length = i) (he : i = m) (hi : ops[i]? = some o)
    (hop : ∀ γ u W, Below w0.heap.size w0 W → KnownL h γ u w0 W (p.D.getD i []) → Region.wanted o (yielded ops (A u).tmps) = true ∧
      ∀ K : Act → World → Prop, Shut (∀ g v W', v = s.val (up γ i g) → BX M W W' → s.R (up γ i g) W' → (∀ x ∈ s.bl g, W.heap.size ≤ x ∧ x < W'.heap.size) → K ((A u).put o.dst v) W') → Oper.wp P o (A u) W K Q)
    (hc : Cong (p.C.getD i []) i s) (hm : ∀ γ W W', Below W.heap.size W W' → s.R γ W → s.R γ W')
    (hl : p.late.contains i = false) (H : RGL P ops Q m M w0 A X p k (h ++ [s])) : RGL P ops Q m M w0 A X p (k + 1) h := by
  subst hn
  refine ⟨s, fun _ => ⟨⟨hc, hm, fun h => absurd he h, fun γ u W hb hk => ⟨o, hi, ?_⟩⟩, fun h => by rw [hl] at h; cases h⟩, H⟩
  unfold PreM at hb
  rw [if_pos he] at hb
  obtain ⟨hw, hx⟩ := hop γ u W hb hk.toL
  unfold OpWM wpOp
  simp only [hi]
  rw [if_pos hw]
  exact .inl (hx _ (shut_in fun g v W' hv hb' hR hbl => ⟨g, by rw [hv], by unfold StM; rw [if_pos he]; exact hb', hR, hbl⟩))
/-- A new block, and a slice of it. -/
theorem RGL.bslice {t : TypeId} {cs : (Nat → Gh) → Array Value} {n c : Nat} (hn : h.length = i) (hne : i ≠ m) (hM : ∀ x ∈ M, x < w0.heap.size) (hi : ops[i]? = some o)
    (hop : ∀ γ u W, BX M w0 W → KnownL h γ u w0 W (p.D.getD i []) → Region.wanted o (yielded ops (A u).tmps) = true ∧
      ∀ K : Act → World → Prop, Shut (∀ v W', v = .slice (some ⟨W.heap.size, 0, none⟩) n c → W' = W.alloc (.cells (cs γ) t) → K ((A u).put o.dst v) W') → Oper.wp P o (A u) W K Q)
    (hc : ∀ γ γ' : Nat → Gh, (∀ j, j ≠ i → j ∈ p.C.getD i [] → γ j = γ' j) → cs γ = cs γ') (hni : (p.C.getD i []).contains i = false) (hl : p.late.contains i = false)
    (H : RGL P ops Q m M w0 A X p k (h ++ [⟨fun γ => .slice (some ⟨(γ i).n, 0, none⟩) n c, fun γ W => Blk W (γ i).n t (cs γ), fun g => [g.n]⟩])) : RGL P ops Q m M w0 A X p (k + 1) h := by
  refine RGL.gh _ hn hne hi (fun γ u W hb hk => ⟨(hop γ u W hb hk).1, fun K hK => (hop γ u W hb hk).2 K (shut_in fun v W' hv hW => ?_)⟩) (fun γ γ' hg => ?_) (fun γ W W' hb hR => Blk.below hR hb) (fun γ W W' hbd hb hR => ?_) hl H
  · subst hW
    refine hK.out ⟨W.heap.size, undef, none, 0⟩ v _ (by simp [up, hv]) (bl_al _ (bl_refl W)) ?_ (fun x hx => ?_)
    · have : cs (up γ i ⟨W.heap.size, undef, none, 0⟩) = cs γ := hc _ _ fun j hj _ => by simp [up, hj]
      dsimp only
      rw [this]
      simpa [up] using Blk.new W t (cs γ)
    · have : x = W.heap.size := by simpa using hx
      subst this
      simp
  · have h1 := hg i (.inl rfl)
    have h2 : cs γ = cs γ' := hc γ γ' fun j _ hj => hg j (.inr hj)
    exact ⟨by dsimp only; rw [h1], fun W hR => by dsimp only at hR ⊢; rw [← h1, ← h2]; exact hR⟩
  · refine Blk.keep hR (fun hx => ?_) hb
    have h1 := hM _ hx
    have h2 := hbd _ (List.mem_singleton.2 rfl)
    omega
theorem RGL.off (hn : h.length = i) (hne : i ≠ m) (hi : ops[i]? = some o) (hop : ∀ γ u W, BX M w0 W → KnownL h γ u w0 W (p.D.getD i []) → Region.wanted o (yielded ops (A u).tmps) = false)
    (hl : p.late.contains i = false) (H : RGL P ops Q m M w0 A X p k (h ++ [⟨fun _ => undef, fun _ _ => True, fun _ => []⟩])) : RGL P ops Q m M w0 A X p (k + 1) h := by
  subst hn
  refine ⟨_, fun _ => ⟨⟨fun γ γ' hg => ⟨rfl, fun _ h => h⟩, fun _ _ _ _ h => h, fun _ _ _ _ _ _ h => h, fun γ u W hb hk => ⟨o, hi, ?_⟩⟩, fun h => by rw [hl] at h; cases h⟩, H⟩
  unfold PreM at hb
  rw [if_neg hne] at hb
  have hw := hop γ u W hb hk.toL
  unfold OpWM wpOp
  simp only [hi]
  rw [if_neg (by rw [hw]; decide)]
  exact ⟨γ h.length, by simp, by unfold StM; rw [if_neg hne]; exact Below.refl _ _, by simp, by simp⟩
theorem RGL.onL (hn : h.length = i) (hne : i ≠ m) (hi : ops[i]? = some o) (hop : ∀ γ u Wm W, BX M w0 Wm → KnownL h γ u w0 Wm (p.D.getD i []) → BX (X γ) Wm W → Region.wanted o (yielded ops (A u).tmps) = true ∧ (execOp (A u).eval o).run P W = .ok (.value (val γ)) W)
    (hc : ∀ γ γ' : Nat → Gh, (∀ j, j = i ∨ j ∈ p.C.getD i [] → γ j = γ' j) → val γ = val γ')
    (H : RGL P ops Q m M w0 A X p k (h ++ [⟨val, fun _ _ => True, fun _ => []⟩])) : RGL P ops Q m M w0 A X p (k + 1) h := by
  subst hn
  refine ⟨_, fun _ => ⟨⟨fun γ γ' hg => ⟨hc γ γ' hg, fun _ h => h⟩, fun _ _ _ _ h => h, fun _ _ _ _ _ _ h => h, fun γ u W hb hk => ⟨o, hi, ?_⟩⟩, fun _ => ⟨hne, rfl, rfl, fun γ u Wm W hb hk hx => ⟨o, hi, .inl (hop γ u Wm W hb hk.toL hx)⟩⟩⟩, H⟩
  unfold PreM at hb
  rw [if_neg hne] at hb
  obtain ⟨hw, hv⟩ := hop γ u W W hb hk.toL (bx_refl _ _)
  unfold OpWM wpOp
  simp only [hi]
  rw [if_pos hw]
  refine .inl ?_
  unfold Oper.wp
  simp only [hv, Oper.upon]
  refine ⟨γ h.length, ?_, ?_, trivial, fun x hx => by cases hx⟩
  · rw [up_self]
  · unfold StM
    rw [if_neg hne]
    exact Below.refl _ _
theorem RGL.offL (hn : h.length = i) (hne : i ≠ m) (hi : ops[i]? = some o) (hop : ∀ γ u Wm W, BX M w0 Wm → KnownL h γ u w0 Wm (p.D.getD i []) → BX (X γ) Wm W → Region.wanted o (yielded ops (A u).tmps) = false)
    (H : RGL P ops Q m M w0 A X p k (h ++ [⟨fun _ => undef, fun _ _ => True, fun _ => []⟩])) : RGL P ops Q m M w0 A X p (k + 1) h := by
  subst hn
  refine ⟨_, fun _ => ⟨⟨fun γ γ' hg => ⟨rfl, fun _ h => h⟩, fun _ _ _ _ h => h, fun _ _ _ _ _ _ h => h, fun γ u W hb hk => ⟨o, hi, ?_⟩⟩, fun _ => ⟨hne, rfl, rfl, fun γ u Wm W hb hk hx => ⟨o, hi, .inr ⟨hop γ u Wm W hb hk.toL hx, rfl⟩⟩⟩⟩, H⟩
  unfold PreM at hb
  rw [if_neg hne] at hb
  have hw := hop γ u W W hb hk.toL (bx_refl _ _)
  unfold OpWM wpOp
  simp only [hi]
  rw [if_neg (by rw [hw]; decide)]
  exact ⟨γ h.length, by simp, by unfold StM; rw [if_neg hne]; exact Below.refl _ _, by simp, by simp⟩
theorem RGL.fin (H : ∀ γ u W, BX M w0 W → KnownL h γ u w0 W (heads ops.size p.tail) → PlanW P ops Q (fun W' => BX (X γ) W W') (p.tail.map fun t => (t, false)) (A u) W) : RGL P ops Q m M w0 A X p 0 h := fun γ u W hb hk => H γ u W hb hk.toL
end
end Go.Proofs.YtbdgblnccjpahaaGreatDoor
