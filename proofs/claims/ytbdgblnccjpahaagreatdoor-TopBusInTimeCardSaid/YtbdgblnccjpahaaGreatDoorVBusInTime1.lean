/-
  Walks: a sender's tick: what is sent, what is carried.
  A sender's queues and worst responses turned: one frame less, one message less, a worst response.
  Walks: the first stream that has frames left. (Printed by gen_prio.py.)
  Walks: a sender's tick: what is carried.
  Walks: a sender is opened.
-/
import Derived.Test.YtbdgblnccjpahaaGreatDoorUT6
import Derived.Shelf.Abstract
set_option linter.unusedSimpArgs false
set_option linter.unusedVariables false
namespace Go.Proofs.YtbdgblnccjpahaaGreatDoor
open Go.RowKit Go.Shelf
attribute [local go_sem] bl_al bl_drew bl_drewN bl_refl bx_al bx_drew bx_drewN bx_refl
set_option maxRecDepth 20000
def sendTo (l : List Sm) (st : List Int) (t : Int) (q : Nat → List (Int × Int)) (k : Nat) : Nat → List (Int × Int) := fun i => if i < k then sendS l st t q i else q i
theorem sendTo_zero (l : List Sm) (st : List Int) (t : Int) (q : Nat → List (Int × Int)) : sendTo l st t q 0 = q := by funext i; simp [sendTo]
theorem sendTo_len (l : List Sm) (st : List Int) (t : Int) (q : Nat → List (Int × Int)) : sendTo l st t q l.length = sendS l st t q := by
  funext i
  unfold sendTo
  split
  · rfl
  · rename_i h
    have : l[i]? = none := List.getElem?_eq_none (by omega)
    simp [sendS, relB, this]
theorem sendTo_at (l : List Sm) (st : List Int) (t : Int) (q : Nat → List (Int × Int)) (k : Nat) : sendTo l st t q k k = q k := by simp [sendTo]
theorem sendTo_off {l : List Sm} {st : List Int} {t : Int} {q : Nat → List (Int × Int)} {k : Nat} (h : relB l st t k = false) : sendTo l st t q (k + 1) = sendTo l st t q k := by
  funext i
  unfold sendTo
  by_cases h1 : i < k
  · rw [if_pos (by omega), if_pos h1]
  · rw [if_neg h1]
    by_cases h2 : i = k
    · subst h2; rw [if_pos (by omega)]; simp [sendS, h]
    · rw [if_neg (by omega)]
theorem sendTo_on {l : List Sm} {st : List Int} {t : Int} {q : Nat → List (Int × Int)} {k : Nat} (h : relB l st t k = true) : sendTo l st t q (k + 1) = upF (sendTo l st t q k) k (q k ++ [(t, lenAt l k)]) := by
  funext i
  unfold sendTo upF
  dsimp only
  by_cases h1 : i < k
  · rw [if_pos (by omega), if_neg (by omega), if_pos h1]
  · by_cases h2 : i = k
    · subst h2; rw [if_pos (by omega), if_pos rfl]; simp [sendS, h]
    · rw [if_neg (by omega), if_neg h2, if_neg h1]
/-- Streams and starts of a sender that was opened. -/
structure Opn (l : List Sm) (st : List Int) : Prop where
  len : l.length ≤ 6
  slen : st.length = l.length
  sm : ∀ x ∈ l, 1 ≤ x.per ∧ x.per ≤ 60 ∧ 1 ≤ x.dl ∧ x.dl ≤ x.per ∧ 1 ≤ x.len ∧ x.len ≤ 20
  st : ∀ a ∈ st, 0 ≤ a ∧ a ≤ 400
/-- What a call leaves of a sender that it turns. -/
def Turn (b S Bw : Nat) (vl vs : Value) (n : Nat) (Q : QS) (s' : Ss) (w w' : World) : Prop :=
  ∃ Q', Snd b S Bw vl vs n Q' s' w' ∧ BX (foot S Bw Q) w w' ∧ ∀ i, i < 6 → blA (Q'.A i) = blA (Q.A i) ∨ ∃ g, blA (Q'.A i) = [g] ∧ w.heap.size ≤ g
set_option maxHeartbeats 8000000 in
theorem c_send (l : List Sm) (st : List Int) (t : Nat) (Al As : Option Addr) (cl cs S Bw : Nat) (Q : QS) (s : Ss) (w0 w : World) (ho : Opn l st) (ht : t ≤ 400) (hw : Below w0.heap.size w0 w) (hl : Sl cSm 4 w0 Al l) (hst : Sl cI 1 w0 As st)
    (h : Snd w0.heap.size S Bw (.slice Al l.length cl) (.slice As st.length cs) l.length Q s w) (hq : ∀ i, (s.q i).length ≤ 900) :
    Calls Tryz.prog 163 #[.pointer (some ⟨S, 0, none⟩), .int .i64 t] w (fun e w' => (∃ v, e = .returned v) ∧ Turn w0.heap.size S Bw (.slice Al l.length cl) (.slice As st.length cs) l.length Q ⟨sendS l st t s.q, s.wo⟩ w w') := by
  obtain ⟨n, Hn⟩ : ∃ n, Hid (l.length = n) := ⟨_, rfl⟩
  have hlen := ho.len
  rw [ho.slen] at h ⊢
  rw [Hn.out] at h hlen ⊢
  have Ho := Lib.hid ho
  have Hl := Lib.hid hl
  have Hst := Lib.hid hst
  have Hq := Lib.hid hq
  have Hw := Lib.hid hw
  clear ho hl hst hq hw
  have hfb : Hid (∀ x ∈ foot S Bw Q, w0.heap.size ≤ x) := fun x hx => by
    simp only [foot, List.mem_cons, List.mem_flatMap, List.mem_range] at hx
    rcases hx with rfl | rfl | ⟨i, hi, hx⟩
    · exact h.bS
    · exact h.bW
    · exact ((h.que i hi).ge x hx).1
  have H := Lib.hid h
  have C0 : w.cell? ⟨S, 0, none⟩ = some (.slice Al n cl) := by rw [h.blk.cell]; rfl
  clear h
  go_enter Tryz.func163, Tryz.ntmps163
  go_wp2
  clear C0
  go_loopw [12] (fun k wr => ∃ j : Nat, j ≤ n ∧ k = .int .i64 j ∧ ∃ Q' : QS, Snd w0.heap.size S Bw (.slice Al n cl) (.slice As n cs) n Q' ⟨sendTo l st t s.q j, s.wo⟩ wr ∧ BX (foot S Bw Q) w wr ∧ (∀ i, j ≤ i → Q'.A i = Q.A i) ∧
    ∀ i, i < 6 → blA (Q'.A i) = blA (Q.A i) ∨ ∃ g, blA (Q'.A i) = [g] ∧ w.heap.size ≤ g) (fun k _ => n - (intOf k).toNat)
  case atStart => exact ⟨0, Nat.zero_le _, rfl, Q, by rw [sendTo_zero]; exact H.out, bx_refl _ _, fun _ _ => rfl, fun _ _ => .inl rfl⟩
  case round =>
    obtain ⟨k, hk, rfl, Q', h1, h2, h3, h4⟩ := hrel
    by_cases hkn : k < n
    rotate_left
    · go_wp2
      have e : k = n := by omega
      subst e
      rw [← Hn.out, sendTo_len, Hn.out] at h1
      go_end0
      exact ⟨⟨_, rfl⟩, Q', h1, h2, h4⟩
    have hbr := bx_below Hw.out h2 hfb.out
    have hx : l[k]? = some (l[k]'(by rw [Hn.out]; exact hkn)) := List.getElem?_eq_getElem _
    generalize l[k]'(by rw [Hn.out]; exact hkn) = x at hx
    have ha : st[k]? = some (st[k]'(by rw [Ho.out.slen, Hn.out]; exact hkn)) := List.getElem?_eq_getElem _
    generalize st[k]'(by rw [Ho.out.slen, Hn.out]; exact hkn) = a at ha
    have hxb := Ho.out.sm x (List.mem_of_getElem? hx)
    have hab := Ho.out.st a (List.mem_of_getElem? ha)
    obtain ⟨bl, ol, rfl, hcl⟩ := Hl.out k x hx
    obtain ⟨bs, os, rfl, hcs⟩ := Hst.out k a ha
    have c0 : wr.cell? ⟨bl, ol + k * 4, none⟩ = some (.string x.name) := kcell hbr (hcl 0 _ rfl)
    have c1 : wr.cell? ⟨bl, ol + k * 4 + 1, none⟩ = some (.int .i64 x.per) := kcell hbr (hcl 1 _ rfl)
    have c2 : wr.cell? ⟨bl, ol + k * 4 + 2, none⟩ = some (.int .i64 x.dl) := kcell hbr (hcl 2 _ rfl)
    have c3 : wr.cell? ⟨bl, ol + k * 4 + 3, none⟩ = some (.int .i64 x.len) := kcell hbr (hcl 3 _ rfl)
    have c4 : wr.cell? ⟨bs, os + k, none⟩ = some (.int .i64 a) := by have := kcell hbr (hcs 0 _ rfl); simpa using this
    have c5 : wr.cell? ⟨S, 1, none⟩ = some (.slice (some ⟨bs, os, none⟩) n cs) := by rw [h1.blk.cell]; rfl
    clear hcl hcs
    go_upto_region 3 with fail
    have kS := h1.blk
    have hS2 : Hid (∀ W : World, Below wr.heap.size wr W → W.cell? ⟨S, 1, none⟩ = some (.slice (some ⟨bs, os, none⟩) n cs) ∧ W.cell? ⟨bs, os + k, none⟩ = some (.int .i64 a)) := fun W hb => ⟨kcell hb c5, kcell hb c4⟩
    have kR : Blk wr S tSnd (cSnd (.slice (some ⟨bl, ol, none⟩) n cl) (.slice (some ⟨bs, os, none⟩) n cs) (vQ Q' (sendTo l st t s.q k)) (.slice (some ⟨Bw, 0, none⟩) n n)) := h1.blk
    clear c0 c1 c2 c3 c4 c5
    first
    | apply absB1 (w0 := wr) (g0 := wr.heap.size)
    | apply absTB1 (w0 := wr) (g0 := wr.heap.size)
    | apply absIB1 (w0 := wr) (g0 := wr.heap.size)
    iterate 2 (focus exact zL)
    try clear hb3
    try clear hb0
    try clear k5
    intro wa hb0 k5
    (try simp only [List.setIfInBounds_toArray, List.set_cons_zero, List.set_cons_succ] at k5)
    have hrel : relB l st t k = (decide (a ≤ (t : Int)) && decide (((t : Int) - a) % x.per = 0)) := by simp [relB, hx, ha]
    have hla : lenAt l k = x.len := by simp [lenAt, hx]
    have C1 := (hS2.out wa hb0).1
    have C2 := (hS2.out wa hb0).2
    have L5 := k5.cell
    have hper : ¬ x.per = 0 := by omega
    by_cases c1 : a ≤ (t : Int)
    · have hmod : ((t : Int) - a).tmod x.per = ((t : Int) - a) % x.per := Int.tmod_eq_emod_of_nonneg (by omega)
      by_cases c2 : ((t : Int) - a) % x.per = 0
      · have e : relB l st t k = true := by rw [hrel]; simp [c1, c2]
        go_upto_region 5 with fail
        have LS : ∀ W, Below wa.heap.size wa W → W.cell? ⟨S, 2 + k, none⟩ = some (.slice (Q.A k) (s.q k).length (Q'.c k)) := fun W hb => by
          rw [((kR.below hb0).below hb).cell, cSnd_at _ _ _ _ _ (by omega)]
          simp only [vQ, sendTo_at, h3 k (Nat.le_refl k)]
        have HQ := Lib.hid fun W (hb : Below wa.heap.size wa W) => (show Qu W w0.heap.size k (Q.A k) (Q'.c k) (s.q k) by have := ((h1.que k (by omega)).below hb0).below hb; simpa only [sendTo_at, h3 k (Nat.le_refl k)] using this)
        have HS := Lib.hid fun W (hb : Below wa.heap.size wa W) => (kR.below hb0).below hb
        have hdk : S ∉ blA (Q.A k) := by have := h1.dS k (by omega); rwa [h3 k (Nat.le_refl k)] at this
        have hwa : w0.heap.size ≤ wa.heap.size := Nat.le_trans hbr.size hb0.size
        have hk6 : k < 6 := by omega
        have hk7 : (k : Int) < 6 := by omega
        clear C1 C2 c1 c2 hrel L5
        have Lk5 := k5.later
        have Fk5 := k5.laterF
        have Qk5 := k5.lt
        refine wp_any (w0 := wa) ⟨[14, 17, 18], [0, 1, 15, 16], [some 35, some 36, some 37, some 38, some 39, some 40, some 41, some 42, some 43, some 44, some 45, some 46, some 47, some 48, none, some 50, some 51, none, none], [[], [], [], [], [2], [2, 4], [2, 3, 4, 5], [2, 3, 4, 5, 6], [], [], [], [10], [8, 9, 10, 11], [8, 9, 10, 11, 12], [2, 3, 4, 5, 6, 7, 8, 9, 10, 11, 12, 13], [0], [0, 15], [0, 1, 2, 3, 4, 5, 6, 7, 8, 9, 10, 11, 12, 13, 14, 15, 16], []], [[], [], [], [], [2], [4], [3, 5], [6], [], [], [], [10], [8, 9, 11], [12], [7, 13], [0], [15], [1, 16], []]⟩ (fun _ => S :: blA (Q.A k)) (by kernel_rfl) (by kernel_rfl) (by (exact zE)) (fun u => by simp only [putD, Act.put, List.setIfInBounds_toArray, List.set_cons_zero, List.set_cons_succ, Nat.zero_add, Nat.reduceAdd]; rfl) ?_
        apply RGW.onL (i := 0) rfl
        · exact zG
        · intro γ u Wm W hcur hd hX
          clear hd
          (try dsimp only)
          exact ⟨rfl, zS⟩
        · exact zC
        dsimp only [nA, cA]
        apply RGW.onL (i := 1) rfl
        · exact zG
        · intro γ u Wm W hcur hd hX
          clear hd
          (try dsimp only)
          exact ⟨rfl, zS⟩
        · exact zC
        dsimp only [nA, cA]
        apply RGW.on (i := 2) rfl
        · exact zG
        · intro γ u W hcur hd
          clear hd
          (try dsimp only)
          exact ⟨rfl, zS⟩
        · exact zC
        · rfl
        dsimp only [nA, cA]
        apply RGW.on (i := 3) rfl
        · exact zG
        · intro γ u W hcur hd
          clear hd
          (try dsimp only)
          exact ⟨rfl, zS⟩
        · exact zC
        · rfl
        dsimp only [nA, cA]
        apply RGW.on (i := 4) rfl
        · exact zG
        · intro γ u W hcur hd
          obtain ⟨⟨h2, -, -⟩, -⟩ := hd
          dsimp only at h2
          (try simp only [h2])
          exact ⟨rfl, zS⟩
        · exact zC
        · rfl
        dsimp only [nA, cA]
        apply RGW.on (i := 5) rfl
        · exact zG
        · intro γ u W hcur hd
          obtain ⟨⟨h4, -, -⟩, -⟩ := hd
          dsimp only at h4
          (try simp only [h4])
          exact ⟨rfl, zS⟩
        · exact zC
        · rfl
        dsimp only [nA, cA]
        apply RGW.on (i := 6) rfl
        · exact zG
        · intro γ u W hcur hd
          obtain ⟨⟨h3, -, -⟩, ⟨h5, -, -⟩, -⟩ := hd
          dsimp only at h3 h5
          (try simp only [h3, h5])
          exact ⟨rfl, zS⟩
        · exact zC
        · rfl
        dsimp only [nA, cA]
        apply RGW.on (i := 7) rfl
        · exact zG
        · intro γ u W hcur hd
          obtain ⟨⟨h6, -, -⟩, -⟩ := hd
          dsimp only at h6
          (try simp only [h6])
          exact ⟨rfl, zS⟩
        · exact zC
        · rfl
        dsimp only [nA, cA]
        apply RGW.on (i := 8) rfl
        · exact zG
        · intro γ u W hcur hd
          clear hd
          (try dsimp only)
          exact ⟨rfl, zS⟩
        · exact zC
        · rfl
        dsimp only [nA, cA]
        apply RGW.on (i := 9) rfl
        · exact zG
        · intro γ u W hcur hd
          clear hd
          (try dsimp only)
          exact ⟨rfl, zS⟩
        · exact zC
        · rfl
        dsimp only [nA, cA]
        apply RGW.on (i := 10) rfl
        · exact zG
        · intro γ u W hcur hd
          clear hd
          (try dsimp only)
          exact ⟨rfl, zS⟩
        · exact zC
        · rfl
        dsimp only [nA, cA]
        apply RGW.on (i := 11) rfl
        · exact zG
        · intro γ u W hcur hd
          obtain ⟨⟨h10, -, -⟩, -⟩ := hd
          dsimp only at h10
          (try simp only [h10])
          exact ⟨rfl, zS⟩
        · exact zC
        · rfl
        dsimp only [nA, cA]
        apply RGW.on (i := 12) rfl
        · exact zG
        · intro γ u W hcur hd
          obtain ⟨⟨h8, -, -⟩, ⟨h9, -, -⟩, ⟨h11, -, -⟩, -⟩ := hd
          dsimp only at h8 h9 h11
          (try simp only [h8, h9, h11])
          exact ⟨rfl, zS⟩
        · exact zC
        · rfl
        dsimp only [nA, cA]
        apply RGW.bslice (i := 13) rfl
        · exact zG
        · intro γ u W hcur hd
          obtain ⟨⟨h12, -, -⟩, -⟩ := hd
          dsimp only at h12
          (try simp only [h12])
          refine ⟨rfl, fun K hK => ?_⟩
          go_simp
          exact hK.out _ _ rfl rfl
        · exact zC
        · rfl
        · rfl
        dsimp only [nA, cA]
        refine RGW.skip (i := 14) rfl rfl ?_
        dsimp only [nA, cA]
        apply RGW.onL (i := 15) rfl
        · exact zG
        · intro γ u Wm W hcur hd hX
          obtain ⟨⟨h0, -, -⟩, -⟩ := hd
          dsimp only at h0
          (try simp only [h0])
          exact ⟨rfl, zS⟩
        · exact zC
        dsimp only [nA, cA]
        apply RGW.onL (i := 16) rfl
        · exact zG
        · intro γ u Wm W hcur hd hX
          obtain ⟨⟨h15, -, -⟩, -⟩ := hd
          dsimp only at h15
          (try simp only [h15])
          exact ⟨rfl, zS⟩
        · exact zC
        dsimp only [nA, cA]
        refine RGW.skip (i := 17) rfl rfl ?_
        dsimp only [nA, cA]
        refine RGW.skip (i := 18) rfl rfl ?_
        dsimp only [nA, cA]
        refine RGW.fin (fun γ u wb hwb hd hdis => ?_)
        obtain ⟨⟨h0, -, -⟩, ⟨h1, -, -⟩, ⟨h2, -, -⟩, ⟨h3, -, -⟩, ⟨h4, -, -⟩, ⟨h5, -, -⟩, ⟨h6, -, -⟩, ⟨h7, -, -⟩, ⟨h8, -, -⟩, ⟨h9, -, -⟩, ⟨h10, -, -⟩, ⟨h11, -, -⟩, ⟨h12, -, -⟩, ⟨h13, r13, b13⟩, ⟨h15, -, -⟩, ⟨h16, -, -⟩, -⟩ := hd
        dsimp only at h0 h1 h2 h3 h4 h5 h6 h7 h8 h9 h10 h11 h12 h13 h15 h16 r13 b13
        clear hdis
        simp only [h0, h1, h2, h3, h4, h5, h6, h7, h8, h9, h10, h11, h12, h13, h15, h16]
        clear h16 h15 h13 h12 h11 h10 h9 h8 h7 h6 h5 h4 h3 h2 h1 h0
        replace b13 := b13 _ (List.mem_singleton.2 rfl)
        generalize hγ13 : (γ 13).n = g13 at *
        clear hγ13
        clear u
        simp only [List.map_cons, List.map_nil]
        apply PlanW.step
        · exact zG
        · rfl
        intro K hK
        (refine wp_qu (i := k) (t := t) (n := x.len) (Operand.tmp 42) (Operand.tmp 48) rfl rfl rfl rfl (HQ.out wb hwb) (Nat.le_trans hwa hwb.size) r13 (Nat.le_trans (Hq.out k) (by decide)) ?_; intro A' c' w' hq' hbx' hA'; refine hK.out _ _ (bx_sub hbx' (fun g hg => List.mem_cons_of_mem _ hg)) (fun hcur => ?_); have u0 : w'.cell? ⟨S, 2 + k, none⟩ = some (vQ Q' (sendTo l st t s.q k) k) := (by rw [((HS.out wb hwb).keep hdk hbx').cell, cSnd_at _ _ _ _ _ hk6]); have z0 : w'.frozen? ⟨S, 2 + k, none⟩ = false := ((HS.out wb hwb).keep hdk hbx').frozen _)
        clear hK K
        try simp only [Act.put, List.setIfInBounds_toArray, List.set_cons_zero, List.set_cons_succ]
        apply PlanW.step
        · exact zG
        · rfl
        intro K hK
        go_simp
        refine hK.out _ _ (by with_reducible first | assumption | exact bx_refl _ _) (fun hcur => ?_)
        clear hK K
        try simp only [Act.put, List.setIfInBounds_toArray, List.set_cons_zero, List.set_cons_succ]
        apply PlanW.step
        · exact zG
        · rfl
        intro K hK
        first
        | refine wp_store_keep (X := S :: blA (Q.A k)) (w0 := wb) rfl rfl rfl (by with_reducible first | exact bx_refl _ _ | assumption) (by with_reducible first | assumption | (apply Blk.below (hb := hwb); assumption)) (by simp) (by kernel_rfl) (by rfl) (by simp [Value.oneCell']) (fun hres1 hcur => ?_)
          refine hK.out _ _ hcur (fun _ => ?_)
        | go_simp
          refine hK.out _ _ (by (exact zX)) (fun hcur => ?_)
        | obtain ⟨u0, v0, z0⟩ := bx_cell0 hcur (Blk.below k5 hwb) (by simp)
          go_simp
          refine hK.out _ _ (by (exact zX)) (fun hcur => ?_)
        | obtain ⟨u0, v0, z0⟩ := bx_cell0 (X := S :: blA (Q.A k)) (w0 := wb) (by with_reducible first | assumption | exact bx_refl _ _) r13 (by simp)
          go_simp
          refine hK.out _ _ (by (exact zX)) (fun hcur => ?_)
        clear hK K
        try simp only [Act.put, List.setIfInBounds_toArray, List.set_cons_zero, List.set_cons_succ]
        refine PlanW.done ?_
        have hb3 := bl_tt hwb
        have hAk := h3 k (Nat.le_refl k)
        have hws : w.heap.size ≤ wb.heap.size := Nat.le_trans h2.size (Nat.le_trans hb0.size hwb.size)
        obtain ⟨hS', hX'⟩ := Snd.put (w := wb) (w1 := w') ((h1.below hb0).below hwb) hk6 hq' (by rw [hAk]; exact hbx') (by rw [hAk]; exact hA') rfl
        have hll : (s.q k ++ [((t : Int), x.len)]).length = (s.q k).length + 1 := by simp
        rw [hll] at hS' hX'
        rw [hAk] at hX'
        have h2' : BX (foot S Bw Q) w (w'.setCell ⟨S, 2 + k, none⟩ (.slice A' ((s.q k).length + 1) c')) := (h2.step (bl_tr hb0 hwb)).trans (bx_sub hX' (fun g hg => by
          rcases List.mem_cons.1 hg with rfl | hg
          · simp [foot]
          · exact foot_q hk6 hg))
        generalize w'.setCell ⟨S, 2 + k, none⟩ (.slice A' ((s.q k).length + 1) c') = w2 at *
        clear hX' hcur hq' hbx' u0 z0 hS2 LS HQ HS
        go_wp2
        go_roundw
        case rel =>
          refine ⟨k + 1, by omega, by go_num, _, by rw [sendTo_on e, hla]; exact hS', h2', fun i hi => ?_, fun i hi => ?_⟩
          · simp only [upF, if_neg (show i ≠ k by omega)]
            exact h3 i (by omega)
          · simp only [upF]
            split
            · rename_i hik
              rw [hik]
              rcases hA' with h | ⟨g, hg, hg2⟩
              · exact .inl h
              · exact .inr ⟨g, hg, by omega⟩
            · exact h4 i hi
        case measure => simp [intOf]; omega
      · have e : relB l st t k = false := by rw [hrel]; simp [c2]
        go_wp2
        go_roundw
        case rel => exact ⟨k + 1, by omega, by go_num, Q', by rw [sendTo_off e]; exact h1.below hb0, h2.step hb0, fun i hi => h3 i (by omega), h4⟩
        case measure => simp [intOf]; omega
    · have e : relB l st t k = false := by rw [hrel]; simp [c1]
      go_wp2
      go_roundw
      case rel => exact ⟨k + 1, by omega, by go_num, Q', by rw [sendTo_off e]; exact h1.below hb0, h2.step hb0, fun i hi => h3 i (by omega), h4⟩
      case measure => simp [intOf]; omega
end Go.Proofs.YtbdgblnccjpahaaGreatDoor
namespace Go.Proofs.YtbdgblnccjpahaaGreatDoor
open Go.RowKit Go.Shelf
set_option maxRecDepth 20000
theorem Qu.cons {w : World} {b i c : Nat} {A : Option Addr} {a k : Int} {r : List (Int × Int)} (h : Qu w b i A c ((a, k) :: r)) :
    ∃ g off cs, A = some ⟨g, off, none⟩ ∧ Blk w g tMg cs ∧ r.length + 1 ≤ c ∧ off + c * 3 ≤ cs.size ∧ cs[off]? = some (.int .i64 i) ∧ cs[off + 1]? = some (.int .i64 a) ∧ cs[off + 2]? = some (.int .i64 k) ∧
      (∀ k', Qu (w.setCell ⟨g, off + 2, none⟩ (.int .i64 k')) b i A c ((a, k') :: r)) ∧ ∀ o, (o = off + 3 ∨ (c = 1 ∧ o = off)) → Qu w b i (some ⟨g, o, none⟩) (c - 1) r := by
  rcases h with ⟨_, _, h⟩ | ⟨g, off, cs, rfl, h1, h2, h3, h4, h5⟩
  · cases h
  · simp only [List.length_cons] at h3
    refine ⟨g, off, cs, rfl, h2, h3, h4, by simpa [cMg] using h5 0 (.int .i64 i) rfl, h5 1 (.int .i64 a) rfl, h5 2 (.int .i64 k) rfl, fun k' => ?_, fun o ho => ?_⟩
    · refine .inr ⟨g, off, cs.setIfInBounds (off + 2) (.int .i64 k'), rfl, h1, h2.set _ _, by simpa using h3, by simpa using h4, fun j u hj => ?_⟩
      match j, hj with
      | 0, hj => simp [cMg] at hj; subst hj; rw [Array.getElem?_setIfInBounds_ne (by omega)]; exact h5 0 _ rfl
      | 1, hj => simp [cMg] at hj; subst hj; rw [Array.getElem?_setIfInBounds_ne (by omega)]; exact h5 1 _ rfl
      | 2, hj => simp [cMg] at hj; subst hj; exact Array.getElem?_setIfInBounds_self_of_lt (by omega)
      | j + 3, hj =>
        rw [Array.getElem?_setIfInBounds_ne (by omega)]
        refine h5 (j + 3) u ?_
        simpa [cMg] using hj
    · rcases ho with rfl | ⟨hc, rfl⟩
      · refine .inr ⟨g, off + 3, cs, rfl, h1, h2, by omega, by omega, fun j u hj => ?_⟩
        have := h5 (j + 3) u (by simpa [cMg] using hj)
        rw [show off + 3 + j = off + (j + 3) by omega]
        exact this
      · have hr : r = [] := List.eq_nil_of_length_eq_zero (by omega)
        subst hr
        exact .inr ⟨g, o, cs, rfl, h1, h2, by simp, by omega, fun j u hj => by simp at hj⟩
section
variable {b S Bw n : Nat} {vl vs : Value} {Q : QS} {s : Ss} {w : World}
theorem Snd.foot_ge (h : Snd b S Bw vl vs n Q s w) : ∀ x ∈ foot S Bw Q, b ≤ x ∧ x < w.heap.size := fun x hx => by
  simp only [foot, List.mem_cons, List.mem_flatMap, List.mem_range] at hx
  rcases hx with rfl | rfl | ⟨i, hi, hx⟩
  · exact ⟨h.bS, h.blk.lt⟩
  · exact ⟨h.bW, h.wor.lt⟩
  · exact (h.que i hi).ge x hx
theorem Snd.dec (h : Snd b S Bw vl vs n Q s w) {i : Nat} (hi : i < 6) {a k : Int} {r : List (Int × Int)} (hq : s.q i = (a, k) :: r) {g off : Nat} (hA : Q.A i = some ⟨g, off, none⟩) (k' : Int) :
    Snd b S Bw vl vs n Q ⟨upF s.q i ((a, k') :: r), s.wo⟩ (w.setCell ⟨g, off + 2, none⟩ (.int .i64 k')) ∧ BX (foot S Bw Q) w (w.setCell ⟨g, off + 2, none⟩ (.int .i64 k')) := by
  have hg : g ∈ blA (Q.A i) := by rw [hA]; simp [blA]
  have hx : BX [g] w (w.setCell ⟨g, off + 2, none⟩ (.int .i64 k')) := bx_set (.inl (by simp)) _ (bx_refl _ _)
  have hSg : S ≠ g := fun e => h.dS i hi (e ▸ hg)
  have hWg : Bw ≠ g := fun e => h.dW i hi (e ▸ hg)
  refine ⟨⟨?_, h.wor.keep (by simpa using hWg) hx, fun j hj => ?_, h.bS, h.bW, h.SW, h.dis, h.dS, h.dW⟩, bx_sub hx (fun x hx => by simp at hx; subst hx; exact foot_q hi hg)⟩
  · have e : vQ Q (upF s.q i ((a, k') :: r)) = vQ Q s.q := by
      funext j
      unfold vQ upF
      split
      · rename_i e; subst e; rw [hq]; rfl
      · rfl
    rw [e]
    exact h.blk.keep (by simpa using hSg) hx
  · by_cases hji : j = i
    · subst hji
      simp only [upF, if_true]
      have := h.que j hj
      rw [hq] at this
      obtain ⟨g', off', cs, e1, -, -, -, -, -, -, e2, -⟩ := this.cons
      rw [hA] at e1
      injection e1 with e1
      injection e1 with e1 e3 _
      subst e1 e3
      exact e2 k'
    · simp only [upF, if_neg hji]
      exact (h.que j hj).keep hx (fun x hx2 => by
        simp only [List.mem_singleton]
        rintro rfl
        exact h.dis j i hj hi hji _ hx2 hg)
theorem Snd.pop (h : Snd b S Bw vl vs n Q s w) {i : Nat} (hi : i < 6) {a k : Int} {r : List (Int × Int)} (hq : s.q i = (a, k) :: r) {g off : Nat} (hA : Q.A i = some ⟨g, off, none⟩) {o : Nat} (ho : o = off + 3 ∨ (Q.c i = 1 ∧ o = off)) :
    Snd b S Bw vl vs n ⟨upF Q.A i (some ⟨g, o, none⟩), upF Q.c i (Q.c i - 1)⟩ ⟨upF s.q i r, s.wo⟩ (w.setCell ⟨S, 2 + i, none⟩ (.slice (some ⟨g, o, none⟩) r.length (Q.c i - 1))) ∧
      BX (foot S Bw Q) w (w.setCell ⟨S, 2 + i, none⟩ (.slice (some ⟨g, o, none⟩) r.length (Q.c i - 1))) ∧ ∀ j, j < 6 → blA ((upF Q.A i (some ⟨g, o, none⟩)) j) = blA (Q.A j) := by
  have := h.que i hi
  rw [hq] at this
  obtain ⟨g', off', cs, e1, -, -, -, -, -, -, -, e2⟩ := this.cons
  rw [hA] at e1
  injection e1 with e1
  injection e1 with e1 e3 _
  subst e1 e3
  obtain ⟨h1, h2⟩ := h.put hi (w1 := w) (e2 o ho) (bx_refl _ _) (.inl (by rw [hA]; rfl)) rfl
  refine ⟨h1, bx_sub h2 (fun x hx => ?_), fun j hj => ?_⟩
  · rcases List.mem_cons.1 hx with rfl | hx
    · simp [foot]
    · exact foot_q hi hx
  · unfold upF
    split
    · rename_i e; rw [e, hA]; rfl
    · rfl
theorem Snd.worst (h : Snd b S Bw vl vs n Q s w) {i : Nat} (hi : i < n) (v : Int) :
    Snd b S Bw vl vs n Q ⟨s.q, upF s.wo i v⟩ (w.setCell ⟨Bw, i, none⟩ (.int .i64 v)) ∧ BX (foot S Bw Q) w (w.setCell ⟨Bw, i, none⟩ (.int .i64 v)) := by
  have hx : BX [Bw] w (w.setCell ⟨Bw, i, none⟩ (.int .i64 v)) := bx_set (.inl (by simp)) _ (bx_refl _ _)
  refine ⟨⟨h.blk.keep (by simpa using h.SW) hx, ?_, fun j hj => (h.que j hj).keep hx (fun x hx2 => ?_), h.bS, h.bW, h.SW, h.dis, h.dS, h.dW⟩, bx_sub hx (by simp [foot])⟩
  · have := h.wor.set i (.int .i64 v)
    have e : (((List.range n).map fun i => Value.int .i64 (s.wo i)).toArray).setIfInBounds i (.int .i64 v) = ((List.range n).map fun j => Value.int .i64 (upF s.wo i v j)).toArray := by
      apply Array.ext
      · simp
      · intro j h1 h2
        simp only [List.setIfInBounds_toArray, List.size_toArray, List.length_set, List.length_map, List.length_range] at h1
        simp [List.getElem_set, upF]
        split
        · rename_i e; subst e; simp
        · rename_i e; simp [Ne.symm e]
    rw [e] at this
    exact this
  · simp only [List.mem_singleton]
    rintro rfl
    exact h.dW j hj hx2
end
end Go.Proofs.YtbdgblnccjpahaaGreatDoor
namespace Go.Proofs.YtbdgblnccjpahaaGreatDoor
open Go.RowKit Go.Shelf
attribute [local go_sem] bl_al bl_drew bl_drewN bl_refl bx_al bx_drew bx_drewN bx_refl
set_option maxRecDepth 20000
/-- A queue's slice. -/
structure Qv where
  A : Option Addr
  n : Nat
  c : Nat
def cQv (x : Qv) : List Value := [.slice x.A x.n x.c]

set_option maxHeartbeats 400000 in
set_option maxRecDepth 20000 in
theorem c_IndexFuncQ (f : FuncId) (lb : Array Value) (p : Qv → Bool) (A : Option Addr) (l : List Qv) (c : Nat) (w : World) (hl : l.length ≤ 1000000)
    (he : Enters Tryz.prog f) (hp : Preds Tryz.prog f lb w (fun x : Qv => .slice x.A x.n x.c) l p) (hr : Sl cQv 1 w A l) :
    Calls Tryz.prog 128 #[.slice A l.length c, .func (.func f) #[] lb] w (Ret (.int .i64 (idxF p l 0)) w) := by
  have he' : ∀ args w, (callFunc f args).run Tryz.prog w = .ok (.enter f args) w := he
  clear he
  have Hp := Lib.hid hp
  have Hr := Lib.hid hr
  clear hp hr
  obtain ⟨n, Hn⟩ : ∃ n, Hid (l.length = n) := ⟨_, rfl⟩
  rw [Hn.out] at hl ⊢
  go_enter Tryz.func128, Tryz.ntmps128
  go_wp2
  go_loopw [8] (fun i wr => ∃ k : Nat, k ≤ n ∧ i = .int .i64 k ∧ Below w.heap.size w wr ∧ idxF p l 0 = idxF p (l.drop k) k) (fun i _ => n - (intOf i).toNat)
  case atStart => exact ⟨0, Nat.zero_le _, rfl, Below.refl _ _, rfl⟩
  case round =>
    obtain ⟨k, hk, rfl, hb, hi⟩ := hrel
    replace hi := Lib.hid hi
    by_cases hlt : k < n
    · have hx : l[k]? = some (l[k]'(by rw [Hn.out]; exact hlt)) := List.getElem?_eq_getElem _
      generalize l[k]'(by rw [Hn.out]; exact hlt) = x at hx
      replace hx := Lib.hid hx
      obtain ⟨b, off, rfl, hc⟩ := (Hr.out.below hb) k x hx.out
      have c0 : wr.cell? ⟨b, off + k, none⟩ = some (.slice x.A x.n x.c) := by simpa using hc 0 _ rfl
      have hm : x ∈ l := List.mem_of_getElem? hx.out
      have hd := Lib.hid (idxF_drop p l k x hx.out)
      clear hc hx
      cases hpx : p x
      all_goals
        have hcall := Hp.out x hm wr hb
        rw [hpx] at hcall
        replace hcall := Lib.hid hcall
        replace hpx := Lib.hid hpx
        clear hm
        go_wp2_with fail
        refine hcall.out.mono ?_
        rintro e w3 ⟨rfl, hb3⟩
        go_wp2
      · go_roundw
        case rel => exact ⟨k + 1, by omega, by go_num, bl_tr hb hb3, by rw [hi.out, hd.out, hpx.out]; simp⟩
        case measure => simp [intOf]; omega
      · go_ret
        exact ⟨by rw [hi.out, hd.out, hpx.out] <;> rfl, bl_tr hb hb3⟩
    · go_wp2
      go_ret
      have : k = l.length := by have := Hn.out; omega
      exact ⟨by rw [hi.out, this]; simp [idxF], hb⟩
theorem c_prio1 (x : Qv) (w : World) : Calls Tryz.prog 129 #[.slice x.A x.n x.c] w (Same (.bool (decide (0 < x.n))) w) := by
  go_enter Tryz.func129, Tryz.ntmps129
  go_wp2
  go_ret
  exact ⟨by simp, rfl⟩
def qvs (Q : QS) (q : Nat → List (Int × Int)) : List Qv := (List.range 6).map fun i => ⟨Q.A i, (q i).length, Q.c i⟩
theorem prio_eq (Q : QS) (q : Nat → List (Int × Int)) : idxF (fun x : Qv => decide (0 < x.n)) (qvs Q q) 0 = prioS q := by
  have e : ∀ i, decide (0 < (q i).length) = !(q i).isEmpty := fun i => by cases q i <;> simp
  simp only [qvs, prioS, prioFrom, List.range, List.range.loop, List.map_cons, List.map_nil, idxF, e]
  cases (q 0).isEmpty <;> cases (q 1).isEmpty <;> cases (q 2).isEmpty <;> cases (q 3).isEmpty <;> cases (q 4).isEmpty <;> cases (q 5).isEmpty <;> rfl
set_option maxHeartbeats 4000000 in
theorem c_byPriority {b S Bw n : Nat} {vl vs : Value} {Q : QS} {s : Ss} {w : World} (h : Snd b S Bw vl vs n Q s w) : Calls Tryz.prog 69 #[.pointer (some ⟨S, 0, none⟩)] w (Ret (.int .i64 (prioS s.q)) w) := by
  have hsl : Sl cQv 1 w (some ⟨S, 2, none⟩) (qvs Q s.q) := fun k x hx => ⟨S, 2, rfl, fun j v hv => by
    have hj : j = 0 := by
      have := (List.getElem?_eq_some_iff.1 hv).1
      simp [cQv] at this; omega
    subst hj
    have hk : k < 6 := by
      have := (List.getElem?_eq_some_iff.1 hx).1
      simpa [qvs] using this
    have hx' : x = ⟨Q.A k, (s.q k).length, Q.c k⟩ := by
      simp [qvs, hk] at hx
      exact hx.symm
    subst hx'
    have hv' : v = .slice (Q.A k) (s.q k).length (Q.c k) := by simpa [cQv] using hv.symm
    subst hv'
    rw [h.blk.cell]
    have := cSnd_at vl vs (.slice (some ⟨Bw, 0, none⟩) n n) (vQ Q s.q) k hk
    simpa [vQ] using this⟩
  have hcall := Lib.hid (c_IndexFuncQ 129 #[] (fun x : Qv => decide (0 < x.n)) (some ⟨S, 2, none⟩) (qvs Q s.q) 6 w (by simp [qvs]) (enters_of Tryz.func129 (by kernel_rfl) rfl)
    (fun x _ W _ => (c_prio1 x W).mono fun _ _ h => h.ret) hsl)
  have e6 : (qvs Q s.q).length = 6 := rfl
  rw [prio_eq, e6] at hcall
  have hS := h.blk.lt
  clear hsl h
  go_enter Tryz.func69, Tryz.ntmps69
  go_wp2_with fail
  refine hcall.out.mono ?_
  rintro e w3 ⟨rfl, hb3⟩
  go_wp2
  go_ret
  exact ⟨rfl, hb3⟩
end Go.Proofs.YtbdgblnccjpahaaGreatDoor
namespace Go.Proofs.YtbdgblnccjpahaaGreatDoor
open Go.RowKit Go.Shelf
attribute [local go_sem] bl_al bl_drew bl_drewN bl_refl bx_al bx_drew bx_drewN bx_refl
set_option maxRecDepth 20000
theorem bx_trX {X Y : List Nat} {w w1 w2 : World} (h1 : BX X w w1) (h2 : BX Y w1 w2) (hY : ∀ y ∈ Y, y ∈ X ∨ w.heap.size ≤ y) : BX X w w2 :=
  ⟨h2.os.trans h1.os, h2.tape.trans h1.tape, h2.output.trans h1.output, Nat.le_trans h1.size h2.size, fun i hi hX =>
    (h2.block i (Nat.lt_of_lt_of_le hi h1.size) (fun hm => by rcases hY i hm with h | h; exact hX h; omega)).trans (h1.block i hi hX), fun g hg t cs hk => by
    obtain ⟨c1, k1, e1⟩ := h1.shape g hg t cs hk
    by_cases hgY : g ∈ Y
    · obtain ⟨c2, k2, e2⟩ := h2.shape g hgY t c1 k1
      exact ⟨c2, k2, e2.trans e1⟩
    · exact ⟨c1, k1.keep hgY h2, e1⟩⟩
theorem foot_new {S Bw : Nat} {Q Q1 : QS} {w : World} (h : ∀ i, i < 6 → blA (Q1.A i) = blA (Q.A i) ∨ ∃ g, blA (Q1.A i) = [g] ∧ w.heap.size ≤ g) : ∀ y ∈ foot S Bw Q1, y ∈ foot S Bw Q ∨ w.heap.size ≤ y := fun y hy => by
  simp only [foot, List.mem_cons, List.mem_flatMap, List.mem_range] at hy ⊢
  rcases hy with rfl | rfl | ⟨i, hi, hy⟩
  · exact .inl (.inl rfl)
  · exact .inl (.inr (.inl rfl))
  · rcases h i hi with e | ⟨g, e, hg⟩
    · rw [e] at hy; exact .inl (.inr (.inr ⟨i, hi, hy⟩))
    · rw [e] at hy; simp at hy; subst hy; exact .inr hg
theorem Turn.trans {b S Bw n : Nat} {vl vs : Value} {Q Q1 Q2 : QS} {s2 : Ss} {w w1 w2 : World} (hx1 : BX (foot S Bw Q) w w1) (hq1 : ∀ i, i < 6 → blA (Q1.A i) = blA (Q.A i) ∨ ∃ g, blA (Q1.A i) = [g] ∧ w.heap.size ≤ g)
    (h2 : Snd b S Bw vl vs n Q2 s2 w2) (hx2 : BX (foot S Bw Q1) w1 w2) (hq2 : ∀ i, i < 6 → blA (Q2.A i) = blA (Q1.A i)) : Turn b S Bw vl vs n Q s2 w w2 :=
  ⟨Q2, h2, bx_trX hx1 hx2 (foot_new hq1), fun i hi => by rw [hq2 i hi]; exact hq1 i hi⟩
/-- What holds of a sender's messages ahead of a tick. -/
structure St (t n : Nat) (s : Ss) : Prop where
  none : ∀ i, n ≤ i → s.q i = []
  len : ∀ i, (s.q i).length ≤ t
  msg : ∀ i, ∀ m ∈ s.q i, 0 ≤ m.1 ∧ m.1 < t ∧ 1 ≤ m.2 ∧ m.2 ≤ 20
  wor : ∀ i, 0 ≤ s.wo i ∧ s.wo i ≤ t
theorem sendS_none {l : List Sm} {st : List Int} {t : Int} {q : Nat → List (Int × Int)} {i : Nat} (hi : l.length ≤ i) : sendS l st t q i = q i := by
  have : l[i]? = Option.none := List.getElem?_eq_none hi
  simp [sendS, relB, this]
theorem sendS_msg {l : List Sm} {st : List Int} {t : Nat} {n : Nat} {s : Ss} (ho : Opn l st) (h : St t n s) (i : Nat) : (sendS l st t s.q i).length ≤ t + 1 ∧ ∀ m ∈ sendS l st t s.q i, 0 ≤ m.1 ∧ m.1 ≤ t ∧ 1 ≤ m.2 ∧ m.2 ≤ 20 := by
  unfold sendS
  split
  · rename_i hr
    have hl : 1 ≤ lenAt l i ∧ lenAt l i ≤ 20 := by
      unfold relB at hr
      split at hr
      · rename_i x a hx ha
        have := ho.sm x (List.mem_of_getElem? hx)
        simp [lenAt, hx]
        omega
      · cases hr
    refine ⟨by have := h.len i; simp; omega, fun m hm => ?_⟩
    rcases List.mem_append.1 hm with hm | hm
    · have := h.msg i m hm; omega
    · simp at hm; subst hm; simp only; omega
  · exact ⟨by have := h.len i; omega, fun m hm => by have := h.msg i m hm; omega⟩
set_option maxHeartbeats 8000000 in
theorem c_carry (fn : FuncId) (ch : (Nat → List (Int × Int)) → Int) (l : List Sm) (st : List Int) (t : Nat) (Al As : Option Addr) (cl cs S Bw : Nat) (Q : QS) (s : Ss) (w0 w : World) (ho : Opn l st) (ht : t ≤ 400)
    (hw : Below w0.heap.size w0 w) (hl : Sl cSm 4 w0 Al l) (hst : Sl cI 1 w0 As st) (h : Snd w0.heap.size S Bw (.slice Al l.length cl) (.slice As st.length cs) l.length Q s w) (hs : St t l.length s)
    (he : Enters Tryz.prog fn) (hch : ∀ Q s w, Snd w0.heap.size S Bw (.slice Al l.length cl) (.slice As st.length cs) l.length Q s w → Calls Tryz.prog fn #[.pointer (some ⟨S, 0, none⟩)] w (Ret (.int .i64 (ch s.q)) w))
    (hcr : ∀ q, ch q = -1 ∨ ∃ i : Nat, i < 6 ∧ ch q = i ∧ q i ≠ []) :
    Calls Tryz.prog 127 #[.pointer (some ⟨S, 0, none⟩), .int .i64 t, .func (.func fn) #[.pointer (some ⟨S, 0, none⟩)] #[]] w
      (fun e w' => e = .returned (.int .i64 (carS ch l st t s).2) ∧ Turn w0.heap.size S Bw (.slice Al l.length cl) (.slice As st.length cs) l.length Q (carS ch l st t s).1 w w') := by
  have hsend := Lib.hid (c_send l st t Al As cl cs S Bw Q s w0 w ho ht hw hl hst h (fun i => by have := hs.len i; omega))
  have hmsg := Lib.hid fun i => sendS_msg ho hs i
  have hnone : Hid (∀ i, l.length ≤ i → sendS l st t s.q i = []) := fun i hi => by rw [sendS_none hi]; exact hs.none i hi
  have hwor := Lib.hid hs.wor
  have he' : ∀ args w, (callFunc fn args).run Tryz.prog w = .ok (.enter fn args) w := he
  have Hch := Lib.hid hch
  have hC1 : Hid (ch (sendS l st t s.q) = -1 → carS ch l st t s = (⟨sendS l st t s.q, s.wo⟩, -1)) := fun h => by rw [carS, if_pos h]
  have hC2 : Hid (∀ (i : Nat) (a k : Int) (r : List (Int × Int)), ch (sendS l st t s.q) = i → sendS l st t s.q i = (a, k) :: r → k - 1 = 0 → carS ch l st t s = (⟨upF (sendS l st t s.q) i r, upF s.wo i (max (s.wo i) (t - a + 1))⟩, (i : Int))) := fun i a k r h1 h2 h3 => by
    rw [carS, if_neg (by rw [h1]; omega), h1, Int.toNat_natCast, h2]
    simp only [h3, if_true]
  have hC3 : Hid (∀ (i : Nat) (a k : Int) (r : List (Int × Int)), ch (sendS l st t s.q) = i → sendS l st t s.q i = (a, k) :: r → ¬ k - 1 = 0 → carS ch l st t s = (⟨upF (sendS l st t s.q) i ((a, k - 1) :: r), s.wo⟩, (i : Int))) := fun i a k r h1 h2 h3 => by
    rw [carS, if_neg (by rw [h1]; omega), h1, Int.toNat_natCast, h2]
    simp only [h3, if_false]
  have hc := hcr (sendS l st t s.q)
  clear hcr hch he hl hst hs ho hw h
  generalize carS ch l st t s = C at *
  obtain ⟨s', v⟩ := C
  dsimp only at *
  generalize sendS l st t s.q = q at *
  generalize l.length = n at *
  generalize st.length = m at *
  go_enter Tryz.func127, Tryz.ntmps127
  go_wp2_with fail
  refine hsend.out.mono ?_
  rintro e w1 ⟨⟨v0, rfl⟩, Q1, h1, hx1, hq1⟩
  go_wp2_with fail
  refine (Hch.out Q1 _ w1 h1).mono ?_
  rintro e w2 ⟨rfl, hb2⟩
  replace hx1 := hx1.step hb2
  replace h1 := h1.below hb2
  clear hb2 hsend Hch
  rcases hc with hc | ⟨i, hi6, hc, hne⟩
  · rw [hc]
    have e := hC1.out hc
    injection e with e1 e2
    subst e1 e2
    go_wp2
    go_ret
    exact ⟨rfl, Q1, h1, hx1, hq1⟩
  · rw [hc]
    obtain ⟨⟨a, k⟩, r, hqi⟩ : ∃ x r, q i = x :: r := List.exists_cons_of_ne_nil hne
    have hin : i < n := by
      rcases Nat.lt_or_ge i n with h | h
      · exact h
      · exact absurd (hnone.out i h) hne
    have hmi := hmsg.out i
    rw [hqi] at hmi
    have hm := hmi.2 (a, k) (by simp)
    have hln := hmi.1
    simp only [List.length_cons] at hln hm
    have hwi := hwor.out i
    have hQ := h1.que i hi6
    dsimp only at hQ
    rw [hqi] at hQ
    obtain ⟨g, off, gs, hA, kg, hrc, hsz, c0, c1, c2, -, -⟩ := hQ.cons
    have hC2' := Lib.hid (hC2.out i a k r hc hqi)
    have hC3' := Lib.hid (hC3.out i a k r hc hqi)
    clear hC1 hC2 hC3 hmi hmsg hnone hwor hQ
    have LS : w2.cell? ⟨S, 2 + i, none⟩ = some (.slice (some ⟨g, off, none⟩) (r.length + 1) (Q1.c i)) := by
      rw [h1.blk.cell, cSnd_at _ _ _ _ _ hi6]
      simp only [vQ, hqi, hA, List.length_cons]
    have L2 : w2.cell? ⟨g, off + 2, none⟩ = some (.int .i64 k) := by rw [kg.cell]; exact c2
    have F2 : w2.frozen? ⟨g, off + 2, none⟩ = false := kg.frozen _
    have hi7 : (i : Int) < 6 := by omega
    go_upto_region 7 with fail
    obtain ⟨h2, hx2⟩ := h1.dec hi6 hqi hA (k - 1)
    have hgl := kg.lt
    have kg2 := kg.set (off + 2) (.int .i64 (k - 1))
    generalize w2.setCell ⟨g, off + 2, none⟩ (.int .i64 (k - 1)) = w3 at *
    clear LS L2 F2 kg
    have c3 : w3.cell? ⟨g, off + 2, none⟩ = some (.int .i64 (k - 1)) := by
      rw [kg2.cell]
      exact Array.getElem?_setIfInBounds_self_of_lt (by omega)
    by_cases hk : k - 1 = 0
    · have e := hC2'.out hk
      go_upto_region 8 with fail
      have H2 := Lib.hid fun W (hb : Below w3.heap.size w3 W) => h2.below hb
      have LW : ∀ W, Below w3.heap.size w3 W → W.cell? ⟨S, 8, none⟩ = some (.slice (some ⟨Bw, 0, none⟩) n n) := fun W hb => by rw [(H2.out W hb).blk.cell]; rfl
      have LC : ∀ W, Below w3.heap.size w3 W → W.cell? ⟨Bw, i, none⟩ = some (.int .i64 (s.wo i)) := fun W hb => by rw [(H2.out W hb).wor.cell]; simp [hin]
      have FC : ∀ W, Below w3.heap.size w3 W → W.frozen? ⟨Bw, i, none⟩ = false := fun W hb => (H2.out W hb).wor.frozen _
      have LA : ∀ W, Below w3.heap.size w3 W → W.cell? ⟨g, off + 1, none⟩ = some (.int .i64 a) := fun W hb => by
        rw [(kg2.below hb).cell, Array.getElem?_setIfInBounds_ne (by omega)]
        exact c1
      have hi8 : (i : Int) < n := by omega
      clear c3
      refine wp_any (w0 := w3) ⟨[21], [], [some 36, some 37, some 38, some 39, some 40, some 41, some 42, some 43, some 44, some 45, some 46, some 47, some 48, some 49, some 50, some 51, some 52, some 53, some 54, some 55, some 56, none], [[], [0], [0, 1], [0, 1, 2], [], [], [5], [5, 6], [5, 6, 7], [], [5, 6, 7, 8, 9], [5, 6, 7, 8, 9, 10], [], [], [13], [13, 14], [13, 14, 15], [12, 13, 14, 15, 16], [12, 13, 14, 15, 16, 17], [5, 6, 7, 8, 9, 10, 11, 12, 13, 14, 15, 16, 17, 18], [0, 1, 2, 3, 4, 5, 6, 7, 8, 9, 10, 11, 12, 13, 14, 15, 16, 17, 18, 19], [0, 1, 2, 3, 4, 5, 6, 7, 8, 9, 10, 11, 12, 13, 14, 15, 16, 17, 18, 19, 20]], [[], [0], [1], [2], [], [], [5], [6], [7], [], [8, 9], [10], [], [], [13], [14], [15], [12, 16], [17], [11, 18], [3, 4], []]⟩ (fun _ => [Bw]) (by kernel_rfl) (by kernel_rfl) (by (exact zE)) (fun u => by simp only [putD, Act.put, List.setIfInBounds_toArray, List.set_cons_zero, List.set_cons_succ, Nat.zero_add, Nat.reduceAdd]; rfl) ?_
      apply RGW.on (i := 0) rfl
      · exact zG
      · intro γ u W hcur hd
        clear hd
        (try dsimp only)
        exact ⟨rfl, zS⟩
      · exact zC
      · rfl
      dsimp only [nA, cA]
      apply RGW.on (i := 1) rfl
      · exact zG
      · intro γ u W hcur hd
        obtain ⟨⟨h0, -, -⟩, -⟩ := hd
        dsimp only at h0
        (try simp only [h0])
        exact ⟨rfl, zS⟩
      · exact zC
      · rfl
      dsimp only [nA, cA]
      apply RGW.on (i := 2) rfl
      · exact zG
      · intro γ u W hcur hd
        obtain ⟨⟨h1, -, -⟩, -⟩ := hd
        dsimp only at h1
        (try simp only [h1])
        exact ⟨rfl, zS⟩
      · exact zC
      · rfl
      dsimp only [nA, cA]
      apply RGW.on (i := 3) rfl
      · exact zG
      · intro γ u W hcur hd
        obtain ⟨⟨h2, -, -⟩, -⟩ := hd
        dsimp only at h2
        (try simp only [h2])
        exact ⟨rfl, zS⟩
      · exact zC
      · rfl
      dsimp only [nA, cA]
      apply RGW.on (i := 4) rfl
      · exact zG
      · intro γ u W hcur hd
        clear hd
        (try dsimp only)
        exact ⟨rfl, zS⟩
      · exact zC
      · rfl
      dsimp only [nA, cA]
      apply RGW.on (i := 5) rfl
      · exact zG
      · intro γ u W hcur hd
        clear hd
        (try dsimp only)
        exact ⟨rfl, zS⟩
      · exact zC
      · rfl
      dsimp only [nA, cA]
      apply RGW.on (i := 6) rfl
      · exact zG
      · intro γ u W hcur hd
        obtain ⟨⟨h5, -, -⟩, -⟩ := hd
        dsimp only at h5
        (try simp only [h5])
        exact ⟨rfl, zS⟩
      · exact zC
      · rfl
      dsimp only [nA, cA]
      apply RGW.on (i := 7) rfl
      · exact zG
      · intro γ u W hcur hd
        obtain ⟨⟨h6, -, -⟩, -⟩ := hd
        dsimp only at h6
        (try simp only [h6])
        exact ⟨rfl, zS⟩
      · exact zC
      · rfl
      dsimp only [nA, cA]
      apply RGW.on (i := 8) rfl
      · exact zG
      · intro γ u W hcur hd
        obtain ⟨⟨h7, -, -⟩, -⟩ := hd
        dsimp only at h7
        (try simp only [h7])
        exact ⟨rfl, zS⟩
      · exact zC
      · rfl
      dsimp only [nA, cA]
      apply RGW.on (i := 9) rfl
      · exact zG
      · intro γ u W hcur hd
        clear hd
        (try dsimp only)
        exact ⟨rfl, zS⟩
      · exact zC
      · rfl
      dsimp only [nA, cA]
      apply RGW.on (i := 10) rfl
      · exact zG
      · intro γ u W hcur hd
        obtain ⟨⟨h8, -, -⟩, ⟨h9, -, -⟩, -⟩ := hd
        dsimp only at h8 h9
        (try simp only [h8, h9])
        exact ⟨rfl, zS⟩
      · exact zC
      · rfl
      dsimp only [nA, cA]
      apply RGW.on (i := 11) rfl
      · exact zG
      · intro γ u W hcur hd
        obtain ⟨⟨h10, -, -⟩, -⟩ := hd
        dsimp only at h10
        (try simp only [h10])
        exact ⟨rfl, zS⟩
      · exact zC
      · rfl
      dsimp only [nA, cA]
      apply RGW.on (i := 12) rfl
      · exact zG
      · intro γ u W hcur hd
        clear hd
        (try dsimp only)
        exact ⟨rfl, zS⟩
      · exact zC
      · rfl
      dsimp only [nA, cA]
      apply RGW.on (i := 13) rfl
      · exact zG
      · intro γ u W hcur hd
        clear hd
        (try dsimp only)
        exact ⟨rfl, zS⟩
      · exact zC
      · rfl
      dsimp only [nA, cA]
      apply RGW.on (i := 14) rfl
      · exact zG
      · intro γ u W hcur hd
        obtain ⟨⟨h13, -, -⟩, -⟩ := hd
        dsimp only at h13
        (try simp only [h13])
        exact ⟨rfl, zS⟩
      · exact zC
      · rfl
      dsimp only [nA, cA]
      apply RGW.on (i := 15) rfl
      · exact zG
      · intro γ u W hcur hd
        obtain ⟨⟨h14, -, -⟩, -⟩ := hd
        dsimp only at h14
        (try simp only [h14])
        exact ⟨rfl, zS⟩
      · exact zC
      · rfl
      dsimp only [nA, cA]
      apply RGW.on (i := 16) rfl
      · exact zG
      · intro γ u W hcur hd
        obtain ⟨⟨h15, -, -⟩, -⟩ := hd
        dsimp only at h15
        (try simp only [h15])
        exact ⟨rfl, zS⟩
      · exact zC
      · rfl
      dsimp only [nA, cA]
      apply RGW.on (i := 17) rfl
      · exact zG
      · intro γ u W hcur hd
        obtain ⟨⟨h12, -, -⟩, ⟨h16, -, -⟩, -⟩ := hd
        dsimp only at h12 h16
        (try simp only [h12, h16])
        exact ⟨rfl, zS⟩
      · exact zC
      · rfl
      dsimp only [nA, cA]
      apply RGW.on (i := 18) rfl
      · exact zG
      · intro γ u W hcur hd
        obtain ⟨⟨h17, -, -⟩, -⟩ := hd
        dsimp only at h17
        (try simp only [h17])
        exact ⟨rfl, zS⟩
      · exact zC
      · rfl
      dsimp only [nA, cA]
      apply RGW.on (i := 19) rfl
      · exact zG
      · intro γ u W hcur hd
        obtain ⟨⟨h11, -, -⟩, ⟨h18, -, -⟩, -⟩ := hd
        dsimp only at h11 h18
        (try simp only [h11, h18])
        exact ⟨rfl, zS⟩
      · exact zC
      · rfl
      dsimp only [nA, cA]
      apply RGW.on (i := 20) rfl
      · exact zG
      · intro γ u W hcur hd
        obtain ⟨⟨h3, -, -⟩, ⟨h4, -, -⟩, -⟩ := hd
        dsimp only at h3 h4
        (try simp only [h3, h4])
        exact ⟨rfl, zS⟩
      · exact zC
      · rfl
      dsimp only [nA, cA]
      refine RGW.skip (i := 21) rfl rfl ?_
      dsimp only [nA, cA]
      refine RGW.fin (fun γ u w4 hw4 hd hdis => ?_)
      obtain ⟨⟨h0, -, -⟩, ⟨h1, -, -⟩, ⟨h2, -, -⟩, ⟨h3, -, -⟩, ⟨h4, -, -⟩, ⟨h5, -, -⟩, ⟨h6, -, -⟩, ⟨h7, -, -⟩, ⟨h8, -, -⟩, ⟨h9, -, -⟩, ⟨h10, -, -⟩, ⟨h11, -, -⟩, ⟨h12, -, -⟩, ⟨h13, -, -⟩, ⟨h14, -, -⟩, ⟨h15, -, -⟩, ⟨h16, -, -⟩, ⟨h17, -, -⟩, ⟨h18, -, -⟩, ⟨h19, -, -⟩, ⟨h20, -, -⟩, -⟩ := hd
      dsimp only at h0 h1 h2 h3 h4 h5 h6 h7 h8 h9 h10 h11 h12 h13 h14 h15 h16 h17 h18 h19 h20
      clear hdis
      simp only [h0, h1, h2, h3, h4, h5, h6, h7, h8, h9, h10, h11, h12, h13, h14, h15, h16, h17, h18, h19, h20]
      clear h20 h19 h18 h17 h16 h15 h14 h13 h12 h11 h10 h9 h8 h7 h6 h5 h4 h3 h2 h1 h0
      clear u
      simp only [List.map_cons, List.map_nil]
      apply PlanW.step
      · exact zG
      · rfl
      intro K hK
      first
      | refine wp_store_keep (X := [Bw]) (w0 := w4) rfl rfl rfl (by with_reducible first | exact bx_refl _ _ | assumption) (by with_reducible first | assumption | (apply Blk.below (hb := hw4); assumption)) (by simp) (by kernel_rfl) (by rfl) (by simp [Value.oneCell']) (fun hres1 hcur => ?_)
        refine hK.out _ _ hcur (fun _ => ?_)
      | go_simp
        refine hK.out _ _ (by (exact zX)) (fun hcur => ?_)
      clear hK K
      try simp only [Act.put, List.setIfInBounds_toArray, List.set_cons_zero, List.set_cons_succ]
      refine PlanW.done ?_
      have hb3 := bl_tt hw4
      obtain ⟨h3, hx3⟩ := (h2.below hw4).worst hin (max (s.wo i) ((t : Int) - a + 1))
      replace hx3 := (hx2.step hw4).trans hx3
      generalize w4.setCell ⟨Bw, i, none⟩ (.int .i64 (max (s.wo i) ((t : Int) - a + 1))) = w5 at *
      clear hb3 hcur LW LC FC LA H2 hx2 h2 hw4 kg2
      have H3 := Lib.hid fun W (hb : Below w5.heap.size w5 W) => h3.below hb
      have hup : upF q i ((a, k - 1) :: r) i = (a, k - 1) :: r := by simp [upF]
      have LS : ∀ W, Below w5.heap.size w5 W → W.cell? ⟨S, 2 + i, none⟩ = some (.slice (some ⟨g, off, none⟩) (r.length + 1) (Q1.c i)) := fun W hb => by
        rw [(H3.out W hb).blk.cell, cSnd_at _ _ _ _ _ hi6]
        simp only [vQ, hup, hA, List.length_cons]
      have FS : ∀ W, Below w5.heap.size w5 W → W.frozen? ⟨S, 2 + i, none⟩ = false := fun W hb => (H3.out W hb).blk.frozen _
      clear hi8
      have hb1 : (1 : Int) ≤ (r.length : Int) + 1 := by omega
      go_upto_region 9 with fail
      refine wp_any (w0 := w5) ⟨[12], [], [some 57, some 58, some 59, some 60, some 61, some 62, some 63, some 64, some 65, some 66, some 67, some 68, none], [[], [], [], [], [2], [2, 4], [2, 3, 4, 5], [2, 3, 4, 5, 6], [2, 3, 4, 5, 6, 7], [0], [0, 9], [0, 1, 2, 3, 4, 5, 6, 7, 8, 9, 10], [0, 1, 2, 3, 4, 5, 6, 7, 8, 9, 10, 11]], [[], [], [], [], [2], [4], [3, 5], [6], [7], [0], [9], [1, 10], []]⟩ (fun _ => [S]) (by kernel_rfl) (by kernel_rfl) (by (exact zE)) (fun u => by simp only [putD, Act.put, List.setIfInBounds_toArray, List.set_cons_zero, List.set_cons_succ, Nat.zero_add, Nat.reduceAdd]; rfl) ?_
      apply RGW.on (i := 0) rfl
      · exact zG
      · intro γ u W hcur hd
        clear hd
        (try dsimp only)
        exact ⟨rfl, zS⟩
      · exact zC
      · rfl
      dsimp only [nA, cA]
      apply RGW.on (i := 1) rfl
      · exact zG
      · intro γ u W hcur hd
        clear hd
        (try dsimp only)
        exact ⟨rfl, zS⟩
      · exact zC
      · rfl
      dsimp only [nA, cA]
      apply RGW.on (i := 2) rfl
      · exact zG
      · intro γ u W hcur hd
        clear hd
        (try dsimp only)
        exact ⟨rfl, zS⟩
      · exact zC
      · rfl
      dsimp only [nA, cA]
      apply RGW.on (i := 3) rfl
      · exact zG
      · intro γ u W hcur hd
        clear hd
        (try dsimp only)
        exact ⟨rfl, zS⟩
      · exact zC
      · rfl
      dsimp only [nA, cA]
      apply RGW.on (i := 4) rfl
      · exact zG
      · intro γ u W hcur hd
        obtain ⟨⟨h2, -, -⟩, -⟩ := hd
        dsimp only at h2
        (try simp only [h2])
        exact ⟨rfl, zS⟩
      · exact zC
      · rfl
      dsimp only [nA, cA]
      apply RGW.on (i := 5) rfl
      · exact zG
      · intro γ u W hcur hd
        obtain ⟨⟨h4, -, -⟩, -⟩ := hd
        dsimp only at h4
        (try simp only [h4])
        exact ⟨rfl, zS⟩
      · exact zC
      · rfl
      dsimp only [nA, cA]
      apply RGW.on (i := 6) rfl
      · exact zG
      · intro γ u W hcur hd
        obtain ⟨⟨h3, -, -⟩, ⟨h5, -, -⟩, -⟩ := hd
        dsimp only at h3 h5
        (try simp only [h3, h5])
        exact ⟨rfl, zS⟩
      · exact zC
      · rfl
      dsimp only [nA, cA]
      apply RGW.on (i := 7) rfl
      · exact zG
      · intro γ u W hcur hd
        obtain ⟨⟨h6, -, -⟩, -⟩ := hd
        dsimp only at h6
        (try simp only [h6])
        exact ⟨rfl, zS⟩
      · exact zC
      · rfl
      dsimp only [nA, cA]
      apply RGW.on (i := 8) rfl
      · exact zG
      · intro γ u W hcur hd
        obtain ⟨⟨h7, -, -⟩, -⟩ := hd
        dsimp only at h7
        (try simp only [h7])
        exact ⟨rfl, zS⟩
      · exact zC
      · rfl
      dsimp only [nA, cA]
      apply RGW.on (i := 9) rfl
      · exact zG
      · intro γ u W hcur hd
        obtain ⟨⟨h0, -, -⟩, -⟩ := hd
        dsimp only at h0
        (try simp only [h0])
        exact ⟨rfl, zS⟩
      · exact zC
      · rfl
      dsimp only [nA, cA]
      apply RGW.on (i := 10) rfl
      · exact zG
      · intro γ u W hcur hd
        obtain ⟨⟨h9, -, -⟩, -⟩ := hd
        dsimp only at h9
        (try simp only [h9])
        exact ⟨rfl, zS⟩
      · exact zC
      · rfl
      dsimp only [nA, cA]
      apply RGW.on (i := 11) rfl
      · exact zG
      · intro γ u W hcur hd
        obtain ⟨⟨h1, -, -⟩, ⟨h10, -, -⟩, -⟩ := hd
        dsimp only at h1 h10
        (try simp only [h1, h10])
        exact ⟨rfl, zS⟩
      · exact zC
      · rfl
      dsimp only [nA, cA]
      refine RGW.skip (i := 12) rfl rfl ?_
      dsimp only [nA, cA]
      refine RGW.fin (fun γ u w6 hw6 hd hdis => ?_)
      obtain ⟨⟨h0, -, -⟩, ⟨h1, -, -⟩, ⟨h2, -, -⟩, ⟨h3, -, -⟩, ⟨h4, -, -⟩, ⟨h5, -, -⟩, ⟨h6, -, -⟩, ⟨h7, -, -⟩, ⟨h8, -, -⟩, ⟨h9, -, -⟩, ⟨h10, -, -⟩, ⟨h11, -, -⟩, -⟩ := hd
      dsimp only at h0 h1 h2 h3 h4 h5 h6 h7 h8 h9 h10 h11
      clear hdis
      simp only [h0, h1, h2, h3, h4, h5, h6, h7, h8, h9, h10, h11]
      clear h11 h10 h9 h8 h7 h6 h5 h4 h3 h2 h1 h0
      clear u
      simp only [List.map_cons, List.map_nil]
      apply PlanW.step
      · exact zG
      · rfl
      intro K hK
      first
      | refine wp_store_keep (X := [S]) (w0 := w6) rfl rfl rfl (by with_reducible first | exact bx_refl _ _ | assumption) (by with_reducible first | assumption | (apply Blk.below (hb := hw6); assumption)) (by simp) (by kernel_rfl) (by rfl) (by simp [Value.oneCell']) (fun hres1 hcur => ?_)
        refine hK.out _ _ hcur (fun _ => ?_)
      | go_simp
        refine hK.out _ _ (by (exact zX)) (fun hcur => ?_)
      clear hK K
      try simp only [Act.put, List.setIfInBounds_toArray, List.set_cons_zero, List.set_cons_succ]
      refine PlanW.done ?_
      have hb3 := bl_tt hw6
      obtain ⟨o, ho, hoo⟩ : ∃ o, (o = off + 3 ∨ (Q1.c i = 1 ∧ o = off)) ∧ (if Q1.c i = 1 then some (⟨g, off, none⟩ : Addr) else some ⟨g, off + 3, none⟩) = some ⟨g, o, none⟩ := by
        by_cases h1c : Q1.c i = 1
        · exact ⟨off, .inr ⟨h1c, rfl⟩, by rw [if_pos h1c]⟩
        · exact ⟨off + 3, .inl rfl, by rw [if_neg h1c]⟩
      obtain ⟨h4, hx4, hq4⟩ := (h3.below hw6).pop hi6 hup hA ho
      replace hx4 := (hx3.step hw6).trans hx4
      injection e with e1 e2
      subst e1 e2
      simp only [hoo]
      generalize w6.setCell ⟨S, 2 + i, none⟩ (.slice (some ⟨g, o, none⟩) r.length (Q1.c i - 1)) = w7 at *
      clear hb3 hcur LS FS H3
      go_wp2
      go_ret
      have huu : upF (upF q i ((a, k - 1) :: r)) i r = upF q i r := by funext j; unfold upF; split <;> rfl
      (try dsimp only at h4)
      rw [huu] at h4
      exact ⟨rfl, Turn.trans hx1 hq1 h4 hx4 hq4⟩
    · have e := hC3'.out hk
      injection e with e1 e2
      subst e1 e2
      go_wp2
      go_ret
      exact ⟨rfl, Turn.trans hx1 hq1 h2 hx2 (fun _ _ => rfl)⟩
end Go.Proofs.YtbdgblnccjpahaaGreatDoor
namespace Go.Proofs.YtbdgblnccjpahaaGreatDoor
open Go.RowKit Go.Shelf
attribute [local go_sem] bl_al bl_drew bl_drewN bl_refl bx_al bx_drew bx_drewN bx_refl
set_option maxRecDepth 20000
theorem c_open1 (x : Int) (w : World) : Calls Tryz.prog 125 #[.int .i64 x] w (Same (.bool (inR x 0 400)) w) := by
  go_enter Tryz.func125, Tryz.ntmps125
  go_wp2_with (go_at_call 71; (with_reducible refine (c_within _ _ _ _).mono ?_); rintro e w3 ⟨rfl, rfl⟩)
  go_ret
  exact ⟨rfl, rfl⟩
theorem c_open2 (k x : Int) (B : Nat) (w : World) (kb : Blk w B 126 #[.func (.func 125) #[] #[]]) :
    Calls Tryz.prog 126 #[.int .i64 k, .int .i64 x, .pointer (some ⟨B, 0, none⟩)] w (Ret (.int .i64 (unl (inR x 0 400) 2)) w) := by
  have L0 := kb.cell
  go_enter Tryz.func126, Tryz.ntmps126
  go_wp2_with (first | (go_at_call 125; (with_reducible refine (c_open1 _ _).mono ?_); rintro e w3 ⟨rfl, rfl⟩) | (go_at_call 58; (with_reducible refine (c_unless _ _ _).mono ?_); rintro e w3 ⟨rfl, rfl⟩))
  go_ret
  exact ⟨rfl, by (exact zE)⟩
theorem mk_ints (n : Nat) (hn : n ≤ 6) (W : World) : (Instr.makeSlice 23 (.int .i64 n) (.int .i64 n)).run Tryz.prog W = .ok (.slice (some ⟨W.heap.size, 0, none⟩) n n) (W.alloc (.cells ((List.range n).map fun i => Value.int .i64 (ss0.wo i)).toArray 3)) := by
  obtain ⟨i0, hi, hz0, hz1, hz2⟩ := info_parts infoI
  have := run_make (P := Tryz.prog) W 23 3 i0 (.int .i64 0) Tryz.underlying23 hi hz0 .i64 .i64 (n : Int) (n : Int) (by omega) (Int.le_refl _) (by rw [hz2]; simp; omega) (by omega)
  rw [hz1, Int.toNat_natCast, Nat.mul_one] at this
  have e : madeCells (Value.int .i64 0).cells n = ((List.range n).map fun i => Value.int .i64 (ss0.wo i)).toArray := by
    apply Array.ext
    · simp [madeCells]
    · intro i h1 h2
      simp [madeCells, ss0, Value.cells, Nat.mod_one]
  rw [e] at this
  exact this
/-- The error of streams and as many starts. -/
def stE1 (l : List Sm) (st : List Int) : Int := fstE [smsErr l, unl (decide ((st.length : Int) = l.length)) 10]
def stE2 (l : List Sm) (st : List Int) : Int := if stE1 l st = 0 then (eachS (fun _ n => unl (inR n 0 400) 2) st 0).2 else stE1 l st
set_option maxHeartbeats 8000000 in
theorem c_openSender (l : List Sm) (st : List Int) (t : Int) (Al As : Option Addr) (cl cs : Nat) (w : World) (hl : SmIn l Al cl w) (hs : Sl cI 1 w As st) (hsl : st.length ≤ 100000) :
    Calls Tryz.prog 67 #[.slice Al l.length cl, .slice As st.length cs, .int .i64 t] w (fun e w' => Below w.heap.size w w' ∧
      ((stE l st t ≠ 0 ∧ e = .returned (.tuple #[.pointer none, .int .i64 (stE l st t)])) ∨
        (stE l st t = 0 ∧ ∃ S Bw, e = .returned (.tuple #[.pointer (some ⟨S, 0, none⟩), .int .i64 0]) ∧ Snd w.heap.size S Bw (.slice Al l.length cl) (.slice As st.length cs) l.length ⟨fun _ => none, fun _ => 0⟩ ss0 w'))) := by
  have hc1 := Lib.hid fun W (hb : Below w.heap.size w W) => c_streamsErr l Al cl W (hl.below hb)
  have hc2 := Lib.hid fun (B : Nat) W (hb : Below w.heap.size w W) (kb : Blk W B 126 #[.func (.func 125) #[] #[]]) =>
    c_eachI 126 #[.pointer (some ⟨B, 0, none⟩)] (fun _ n => unl (inR n 0 400) 2) As st cs W (by omega) (enters_of Tryz.func126 (by kernel_rfl) rfl)
      (fun k x _ W' hb' => c_open2 k x B W' (kb.below hb')) (hs.below hb)
  have hlen := hl.len
  have hE1 : Hid (stE1 l st = fstE [smsErr l, unl ((st.length : Int) == l.length) 10]) := rfl
  have hE2 : Hid ((stE1 l st = 0 → stE2 l st = (eachS (fun _ n => unl (inR n 0 400) 2) st 0).2) ∧ (stE1 l st ≠ 0 → stE2 l st = stE1 l st)) := ⟨fun h => by rw [stE2, if_pos h], fun h => by rw [stE2, if_neg h]⟩
  have hE3 : Hid (stE l st t = fstE [stE2 l st, unl (inR t 0 400) 2]) := rfl
  have hn6 : Hid (stE l st t = 0 → l.length ≤ 6) := fun h => by
    obtain ⟨a1, -⟩ := (fst_cons _ _).1 h
    change stE2 l st = 0 at a1
    have a2 : stE1 l st = 0 := by
      by_cases h0 : stE1 l st = 0
      · exact h0
      · rw [stE2, if_neg h0] at a1; exact absurd a1 h0
    obtain ⟨a3, -⟩ := (fst_cons _ _).1 a2
    by_cases h6 : lenE l.length 6 = 0
    · obtain ⟨-, a4⟩ := (fst_cons _ _).1 h6
      obtain ⟨a5, -⟩ := (fst_cons _ _).1 a4
      have := (unl_zero (by decide)).1 a5
      simp at this
      omega
    · rw [smsErr, smsChk, if_neg h6] at a3; exact absurd a3 h6
  clear hl hs
  generalize smsErr l = se at *
  generalize eachS (fun _ n => unl (inR n 0 400) 2) st 0 = P at *
  obtain ⟨p1, p2⟩ := P
  dsimp only at *
  generalize stE1 l st = e1 at *
  generalize stE2 l st = e2 at *
  generalize stE l st t = e3 at *
  generalize l.length = n at *
  generalize st.length = m at *
  go_enter Tryz.func67, Tryz.ntmps67
  go_upto_region 2 with fail
  first
  | apply absB1 (w0 := w) (g0 := w.heap.size)
  | apply absTB1 (w0 := w) (g0 := w.heap.size)
  | apply absIB1 (w0 := w) (g0 := w.heap.size)
  iterate 2 (focus exact zL)
  try clear hb3
  try clear hb0
  try clear k0
  intro wa hb0 k0
  (try simp only [List.setIfInBounds_toArray, List.set_cons_zero, List.set_cons_succ] at k0)
  go_wp2_with fail
  refine (hc1.out wa hb0).mono ?_
  rintro e w3 ⟨rfl, hb3⟩
  replace hb0 := bl_tr hb0 hb3
  replace k0 := k0.below hb3
  clear hb3
  go_upto_region 3 with (first | (go_at_call 58; (with_reducible refine (c_unless _ _ _).mono ?_); rintro e w3 ⟨rfl, rfl⟩) | (go_at_call 74; (with_reducible refine (c_first2 (by (exact zK))).mono ?_); rintro e w3 ⟨rfl, rfl⟩))
  rw [← hE1.out]
  first
  | apply absB1 (w0 := w) (g0 := w.heap.size)
  | apply absTB1 (w0 := w) (g0 := w.heap.size)
  | apply absIB1 (w0 := w) (g0 := w.heap.size)
  iterate 2 (focus exact zL)
  try clear hb3
  try clear hb0
  try clear k0
  intro wb hb0 k0
  (try simp only [List.setIfInBounds_toArray, List.set_cons_zero, List.set_cons_succ] at k0)
  by_cases he1 : e1 = 0
  · have hE4 : Hid (fstE [p2, unl (inR t 0 400) 2] = e3) := Lib.hid (by rw [hE3.out, hE2.out.1 he1])
    have L0 := k0.cell
    go_wp2_with fail
    clear L0
    refine (hc2.out w.heap.size wb hb0 k0).mono ?_
    rintro e w3 ⟨rfl, hb3⟩
    replace hb0 := bl_tr hb0 hb3
    replace k0 := k0.below hb3
    clear hb3
    have L0 := k0.cell
    go_upto_region 6 with (first | (go_at_call 125; (with_reducible refine (c_open1 _ _).mono ?_); rintro e w3 ⟨rfl, rfl⟩) | (go_at_call 58; (with_reducible refine (c_unless _ _ _).mono ?_); rintro e w3 ⟨rfl, rfl⟩) | (go_at_call 74; (with_reducible refine (c_first2 (by (exact zK))).mono ?_); rintro e w3 ⟨rfl, rfl⟩))
    rw [hE4.out]
    clear L0
    by_cases he3 : e3 = 0
    rotate_left
    · go_wp2
      go_ret2
      exact ⟨by (exact zE), .inl ⟨he3, rfl⟩⟩
    have hn := hn6.out he3
    clear hc1 hc2 hE1 hE2 hE3 hE4 hn6
    subst he3
    have hmk : ∀ W : World, (Instr.makeSlice 23 (.int .i64 n) (.int .i64 n)).run Tryz.prog W = .ok (.slice (some ⟨W.heap.size, 0, none⟩) n n) (W.alloc (.cells ((List.range n).map fun i => Value.int .i64 (ss0.wo i)).toArray 3)) := fun W => mk_ints n hn W
    clear hlen
    go_wp2
    go_ret2
    have hsz := hb0.size
    refine ⟨by (exact zE), _, rfl, w3.heap.size + 1, ?_⟩
    refine ⟨Blk.newAt (by simp), Blk.alloc (Blk.newAt (by simp)) _, fun i hi => Qu.nil _ _ _, by omega, by omega, by omega, fun i j _ _ _ g hg => by simp [blA] at hg, fun i _ => by simp [blA], fun i _ => by simp [blA]⟩
  · have hE4 : Hid (fstE [e1, unl (inR t 0 400) 2] = e3) := Lib.hid (by rw [hE3.out, hE2.out.2 he1])
    have he0 : ¬ e3 = 0 := fun h => by rw [← hE4.out] at h; exact he1 ((fst_cons _ _).1 h).1
    have L0 := k0.cell
    go_upto_region 6 with (first | (go_at_call 125; (with_reducible refine (c_open1 _ _).mono ?_); rintro e w3 ⟨rfl, rfl⟩) | (go_at_call 58; (with_reducible refine (c_unless _ _ _).mono ?_); rintro e w3 ⟨rfl, rfl⟩) | (go_at_call 74; (with_reducible refine (c_first2 (by (exact zK))).mono ?_); rintro e w3 ⟨rfl, rfl⟩))
    rw [hE4.out]
    clear L0
    go_wp2
    go_ret2
    exact ⟨by (exact zE), .inl ⟨he0, rfl⟩⟩
end Go.Proofs.YtbdgblnccjpahaaGreatDoor
