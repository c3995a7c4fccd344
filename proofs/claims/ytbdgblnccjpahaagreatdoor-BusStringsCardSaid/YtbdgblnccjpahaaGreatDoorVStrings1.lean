/-
  A sender's queues and worst responses turned: one frame less, one message less, a worst response.
  Walks: the first stream that has frames left. (Printed by gen_prio.py.)
  Walks: a sender's tick: what is carried.
  Walks: a sender's run; what is carried at each tick.
  Walks: what is carried by priority.
  Walks: the error of a message, its frame.
  Walk: the frame of a message.
-/
import Derived.Test.YtbdgblnccjpahaaGreatDoorU11
import Derived.Shelf.Abstract
import Derived.Test.YtbdgblnccjpahaaGreatDoorU6
import Derived.Maps.AppendAt
import Derived.Laws.EntriesVeiled
import Derived.Test.YtbdgblnccjpahaaGreatDoorU7
import Derived.Laws.CopyOwn
set_option linter.unusedSimpArgs false
set_option linter.unusedVariables false
namespace Go.Proofs.YtbdgblnccjpahaaGreatDoor
open Go.RowKit Go.Shelf
set_option maxRecDepth 20000
theorem Qu.cons {w : World} {b i c : Nat} {A : Option Addr} {a k : Int} {r : List (Int × Int)} (h : Qu w b i A c ((a, k) :: r)) :
    ∃ g off cs, A = some ⟨g, off, none⟩ ∧ Blk w g tMg cs ∧ r.length + 1 ≤ c ∧ off + c * 3 ≤ cs.size ∧ cs[off]? = some (.int .i64 i) ∧ cs[off + 1]? = some (.int .i64 a) ∧ cs[off + 2]? = some (.int .i64 k) ∧
      (∀ k', Qu (w.setCell ⟨g, off + 2, none⟩ (.int .i64 k')) b i A c ((a, k') :: r)) ∧ ∀ o, (o = off + 3 ∨ (c = 1 ∧ o = off)) → Qu w b i (some ⟨g, o, none⟩) (c - 1) r := by
  rcases h with ⟨_, _, h⟩ | ⟨g, off, cs, rfl, h1, h2, h3, h4, h5⟩
  · cases h
  · simp only [List.length_cons] at h3
    refine ⟨g, off, cs, rfl, h2, h3, h4, by simpa [cMg] using h5 0 (.int .i64 i) rfl, h5 1 (.int .i64 a) rfl, h5 2 (.int .i64 k) rfl, fun k' => ?_, fun o ho => ?_⟩
    · refine .inr ⟨g, off, cs.setIfInBounds (off + 2) (.int .i64 k'), rfl, h1, h2.set _ _, by simpa using h3, by simpa using h4, fun j u hj => ?_⟩
      match j, hj with
      | 0, hj => simp [cMg] at hj; subst hj; rw [Array.getElem?_setIfInBounds_ne (by omega)]; exact h5 0 _ rfl
      | 1, hj => simp [cMg] at hj; subst hj; rw [Array.getElem?_setIfInBounds_ne (by omega)]; exact h5 1 _ rfl
      | 2, hj => simp [cMg] at hj; subst hj; exact Array.getElem?_setIfInBounds_self_of_lt (by omega)
      | j + 3, hj =>
        rw [Array.getElem?_setIfInBounds_ne (by omega)]
        refine h5 (j + 3) u ?_
        simpa [cMg] using hj
    · rcases ho with rfl | ⟨hc, rfl⟩
      · refine .inr ⟨g, off + 3, cs, rfl, h1, h2, by omega, by omega, fun j u hj => ?_⟩
        have := h5 (j + 3) u (by simpa [cMg] using hj)
        rw [show off + 3 + j = off + (j + 3) by omega]
        exact this
      · have hr : r = [] := List.eq_nil_of_length_eq_zero (by omega)
        subst hr
        exact .inr ⟨g, o, cs, rfl, h1, h2, by simp, by omega, fun j u hj => by simp at hj⟩
section
variable {b S Bw n : Nat} {vl vs : Value} {Q : QS} {s : Ss} {w : World}
theorem Snd.foot_ge (h : Snd b S Bw vl vs n Q s w) : ∀ x ∈ foot S Bw Q, b ≤ x ∧ x < w.heap.size := fun x hx => by
  simp only [foot, List.mem_cons, List.mem_flatMap, List.mem_range] at hx
  rcases hx with rfl | rfl | ⟨i, hi, hx⟩
  · exact ⟨h.bS, h.blk.lt⟩
  · exact ⟨h.bW, h.wor.lt⟩
  · exact (h.que i hi).ge x hx
theorem Snd.dec (h : Snd b S Bw vl vs n Q s w) {i : Nat} (hi : i < 6) {a k : Int} {r : List (Int × Int)} (hq : s.q i = (a, k) :: r) {g off : Nat} (hA : Q.A i = some ⟨g, off, none⟩) (k' : Int) :
    Snd b S Bw vl vs n Q ⟨upF s.q i ((a, k') :: r), s.wo⟩ (w.setCell ⟨g, off + 2, none⟩ (.int .i64 k')) ∧ BX (foot S Bw Q) w (w.setCell ⟨g, off + 2, none⟩ (.int .i64 k')) := by
  have hg : g ∈ blA (Q.A i) := by rw [hA]; simp [blA]
  have hx : BX [g] w (w.setCell ⟨g, off + 2, none⟩ (.int .i64 k')) := bx_set (.inl (by simp)) _ (bx_refl _ _)
  have hSg : S ≠ g := fun e => h.dS i hi (e ▸ hg)
  have hWg : Bw ≠ g := fun e => h.dW i hi (e ▸ hg)
  refine ⟨⟨?_, h.wor.keep (by simpa using hWg) hx, fun j hj => ?_, h.bS, h.bW, h.SW, h.dis, h.dS, h.dW⟩, bx_sub hx (fun x hx => by simp at hx; subst hx; exact foot_q hi hg)⟩
  · have e : vQ Q (upF s.q i ((a, k') :: r)) = vQ Q s.q := by
      funext j
      unfold vQ upF
      split
      · rename_i e; subst e; rw [hq]; rfl
      · rfl
    rw [e]
    exact h.blk.keep (by simpa using hSg) hx
  · by_cases hji : j = i
    · subst hji
      simp only [upF, if_true]
      have := h.que j hj
      rw [hq] at this
      obtain ⟨g', off', cs, e1, -, -, -, -, -, -, e2, -⟩ := this.cons
      rw [hA] at e1
      injection e1 with e1
      injection e1 with e1 e3 _
      subst e1 e3
      exact e2 k'
    · simp only [upF, if_neg hji]
      exact (h.que j hj).keep hx (fun x hx2 => by
        simp only [List.mem_singleton]
        rintro rfl
        exact h.dis j i hj hi hji _ hx2 hg)
theorem Snd.pop (h : Snd b S Bw vl vs n Q s w) {i : Nat} (hi : i < 6) {a k : Int} {r : List (Int × Int)} (hq : s.q i = (a, k) :: r) {g off : Nat} (hA : Q.A i = some ⟨g, off, none⟩) {o : Nat} (ho : o = off + 3 ∨ (Q.c i = 1 ∧ o = off)) :
    Snd b S Bw vl vs n ⟨upF Q.A i (some ⟨g, o, none⟩), upF Q.c i (Q.c i - 1)⟩ ⟨upF s.q i r, s.wo⟩ (w.setCell ⟨S, 2 + i, none⟩ (.slice (some ⟨g, o, none⟩) r.length (Q.c i - 1))) ∧
      BX (foot S Bw Q) w (w.setCell ⟨S, 2 + i, none⟩ (.slice (some ⟨g, o, none⟩) r.length (Q.c i - 1))) ∧ ∀ j, j < 6 → blA ((upF Q.A i (some ⟨g, o, none⟩)) j) = blA (Q.A j) := by
  have := h.que i hi
  rw [hq] at this
  obtain ⟨g', off', cs, e1, -, -, -, -, -, -, -, e2⟩ := this.cons
  rw [hA] at e1
  injection e1 with e1
  injection e1 with e1 e3 _
  subst e1 e3
  obtain ⟨h1, h2⟩ := h.put hi (w1 := w) (e2 o ho) (bx_refl _ _) (.inl (by rw [hA]; rfl)) rfl
  refine ⟨h1, bx_sub h2 (fun x hx => ?_), fun j hj => ?_⟩
  · rcases List.mem_cons.1 hx with rfl | hx
    · simp [foot]
    · exact foot_q hi hx
  · unfold upF
    split
    · rename_i e; rw [e, hA]; rfl
    · rfl
theorem Snd.worst (h : Snd b S Bw vl vs n Q s w) {i : Nat} (hi : i < n) (v : Int) :
    Snd b S Bw vl vs n Q ⟨s.q, upF s.wo i v⟩ (w.setCell ⟨Bw, i, none⟩ (.int .i64 v)) ∧ BX (foot S Bw Q) w (w.setCell ⟨Bw, i, none⟩ (.int .i64 v)) := by
  have hx : BX [Bw] w (w.setCell ⟨Bw, i, none⟩ (.int .i64 v)) := bx_set (.inl (by simp)) _ (bx_refl _ _)
  refine ⟨⟨h.blk.keep (by simpa using h.SW) hx, ?_, fun j hj => (h.que j hj).keep hx (fun x hx2 => ?_), h.bS, h.bW, h.SW, h.dis, h.dS, h.dW⟩, bx_sub hx (by simp [foot])⟩
  · have := h.wor.set i (.int .i64 v)
    have e : (((List.range n).map fun i => Value.int .i64 (s.wo i)).toArray).setIfInBounds i (.int .i64 v) = ((List.range n).map fun j => Value.int .i64 (upF s.wo i v j)).toArray := by
      apply Array.ext
      · simp
      · intro j h1 h2
        simp only [List.setIfInBounds_toArray, List.size_toArray, List.length_set, List.length_map, List.length_range] at h1
        simp [List.getElem_set, upF]
        split
        · rename_i e; subst e; simp
        · rename_i e; simp [Ne.symm e]
    rw [e] at this
    exact this
  · simp only [List.mem_singleton]
    rintro rfl
    exact h.dW j hj hx2
end
end Go.Proofs.YtbdgblnccjpahaaGreatDoor
namespace Go.Proofs.YtbdgblnccjpahaaGreatDoor
open Go.RowKit Go.Shelf
attribute [local go_sem] bl_al bl_drew bl_drewN bl_refl bx_al bx_drew bx_drewN bx_refl
set_option maxRecDepth 20000
/-- A queue's slice. -/
structure Qv where
  A : Option Addr
  n : Nat
  c : Nat
def cQv (x : Qv) : List Value := [.slice x.A x.n x.c]

set_option maxHeartbeats 400000 in
set_option maxRecDepth 20000 in
theorem c_IndexFuncQ (f : FuncId) (lb : Array Value) (p : Qv → Bool) (A : Option Addr) (l : List Qv) (c : Nat) (w : World) (hl : l.length ≤ 1000000)
    (he : Enters Tryz.prog f) (hp : Preds Tryz.prog f lb w (fun x : Qv => .slice x.A x.n x.c) l p) (hr : Sl cQv 1 w A l) :
    Calls Tryz.prog 128 #[.slice A l.length c, .func (.func f) #[] lb] w (Ret (.int .i64 (idxF p l 0)) w) := by
  have he' : ∀ args w, (callFunc f args).run Tryz.prog w = .ok (.enter f args) w := he
  clear he
  have Hp := Lib.hid hp
  have Hr := Lib.hid hr
  clear hp hr
  obtain ⟨n, Hn⟩ : ∃ n, Hid (l.length = n) := ⟨_, rfl⟩
  rw [Hn.out] at hl ⊢
  go_enter Tryz.func128, Tryz.ntmps128
  go_wp2
  go_loopw [8] (fun i wr => ∃ k : Nat, k ≤ n ∧ i = .int .i64 k ∧ Below w.heap.size w wr ∧ idxF p l 0 = idxF p (l.drop k) k) (fun i _ => n - (intOf i).toNat)
  case atStart => exact ⟨0, Nat.zero_le _, rfl, Below.refl _ _, rfl⟩
  case round =>
    obtain ⟨k, hk, rfl, hb, hi⟩ := hrel
    replace hi := Lib.hid hi
    by_cases hlt : k < n
    · have hx : l[k]? = some (l[k]'(by rw [Hn.out]; exact hlt)) := List.getElem?_eq_getElem _
      generalize l[k]'(by rw [Hn.out]; exact hlt) = x at hx
      replace hx := Lib.hid hx
      obtain ⟨b, off, rfl, hc⟩ := (Hr.out.below hb) k x hx.out
      have c0 : wr.cell? ⟨b, off + k, none⟩ = some (.slice x.A x.n x.c) := by simpa using hc 0 _ rfl
      have hm : x ∈ l := List.mem_of_getElem? hx.out
      have hd := Lib.hid (idxF_drop p l k x hx.out)
      clear hc hx
      cases hpx : p x
      all_goals
        have hcall := Hp.out x hm wr hb
        rw [hpx] at hcall
        replace hcall := Lib.hid hcall
        replace hpx := Lib.hid hpx
        clear hm
        go_wp2_with fail
        refine hcall.out.mono ?_
        rintro e w3 ⟨rfl, hb3⟩
        go_wp2
      · go_roundw
        case rel => exact ⟨k + 1, by omega, by go_num, bl_tr hb hb3, by rw [hi.out, hd.out, hpx.out]; simp⟩
        case measure => simp [intOf]; omega
      · go_ret
        exact ⟨by rw [hi.out, hd.out, hpx.out] <;> rfl, bl_tr hb hb3⟩
    · go_wp2
      go_ret
      have : k = l.length := by have := Hn.out; omega
      exact ⟨by rw [hi.out, this]; simp [idxF], hb⟩
theorem c_prio1 (x : Qv) (w : World) : Calls Tryz.prog 129 #[.slice x.A x.n x.c] w (Same (.bool (decide (0 < x.n))) w) := by
  go_enter Tryz.func129, Tryz.ntmps129
  go_wp2
  go_ret
  exact ⟨by simp, rfl⟩
def qvs (Q : QS) (q : Nat → List (Int × Int)) : List Qv := (List.range 6).map fun i => ⟨Q.A i, (q i).length, Q.c i⟩
theorem prio_eq (Q : QS) (q : Nat → List (Int × Int)) : idxF (fun x : Qv => decide (0 < x.n)) (qvs Q q) 0 = prioS q := by
  have e : ∀ i, decide (0 < (q i).length) = !(q i).isEmpty := fun i => by cases q i <;> simp
  simp only [qvs, prioS, prioFrom, List.range, List.range.loop, List.map_cons, List.map_nil, idxF, e]
  cases (q 0).isEmpty <;> cases (q 1).isEmpty <;> cases (q 2).isEmpty <;> cases (q 3).isEmpty <;> cases (q 4).isEmpty <;> cases (q 5).isEmpty <;> rfl
set_option maxHeartbeats 4000000 in
theorem c_byPriority {b S Bw n : Nat} {vl vs : Value} {Q : QS} {s : Ss} {w : World} (h : Snd b S Bw vl vs n Q s w) : Calls Tryz.prog 69 #[.pointer (some ⟨S, 0, none⟩)] w (Ret (.int .i64 (prioS s.q)) w) := by
  have hsl : Sl cQv 1 w (some ⟨S, 2, none⟩) (qvs Q s.q) := fun k x hx => ⟨S, 2, rfl, fun j v hv => by
    have hj : j = 0 := by
      have := (List.getElem?_eq_some_iff.1 hv).1
      simp [cQv] at this; omega
    subst hj
    have hk : k < 6 := by
      have := (List.getElem?_eq_some_iff.1 hx).1
      simpa [qvs] using this
    have hx' : x = ⟨Q.A k, (s.q k).length, Q.c k⟩ := by
      simp [qvs, hk] at hx
      exact hx.symm
    subst hx'
    have hv' : v = .slice (Q.A k) (s.q k).length (Q.c k) := by simpa [cQv] using hv.symm
    subst hv'
    rw [h.blk.cell]
    have := cSnd_at vl vs (.slice (some ⟨Bw, 0, none⟩) n n) (vQ Q s.q) k hk
    simpa [vQ] using this⟩
  have hcall := Lib.hid (c_IndexFuncQ 129 #[] (fun x : Qv => decide (0 < x.n)) (some ⟨S, 2, none⟩) (qvs Q s.q) 6 w (by simp [qvs]) (enters_of Tryz.func129 (by kernel_rfl) rfl)
    (fun x _ W _ => (c_prio1 x W).mono fun _ _ h => h.ret) hsl)
  have e6 : (qvs Q s.q).length = 6 := rfl
  rw [prio_eq, e6] at hcall
  have hS := h.blk.lt
  clear hsl h
  go_enter Tryz.func69, Tryz.ntmps69
  go_wp2_with fail
  refine hcall.out.mono ?_
  rintro e w3 ⟨rfl, hb3⟩
  go_wp2
  go_ret
  exact ⟨rfl, hb3⟩
end Go.Proofs.YtbdgblnccjpahaaGreatDoor
namespace Go.Proofs.YtbdgblnccjpahaaGreatDoor
open Go.RowKit Go.Shelf
attribute [local go_sem] bl_al bl_drew bl_drewN bl_refl bx_al bx_drew bx_drewN bx_refl
set_option maxRecDepth 20000
theorem bx_trX {X Y : List Nat} {w w1 w2 : World} (h1 : BX X w w1) (h2 : BX Y w1 w2) (hY : ∀ y ∈ Y, y ∈ X ∨ w.heap.size ≤ y) : BX X w w2 :=
  ⟨h2.os.trans h1.os, h2.tape.trans h1.tape, h2.output.trans h1.output, Nat.le_trans h1.size h2.size, fun i hi hX =>
    (h2.block i (Nat.lt_of_lt_of_le hi h1.size) (fun hm => by rcases hY i hm with h | h; exact hX h; omega)).trans (h1.block i hi hX), fun g hg t cs hk => by
    obtain ⟨c1, k1, e1⟩ := h1.shape g hg t cs hk
    by_cases hgY : g ∈ Y
    · obtain ⟨c2, k2, e2⟩ := h2.shape g hgY t c1 k1
      exact ⟨c2, k2, e2.trans e1⟩
    · exact ⟨c1, k1.keep hgY h2, e1⟩⟩
theorem foot_new {S Bw : Nat} {Q Q1 : QS} {w : World} (h : ∀ i, i < 6 → blA (Q1.A i) = blA (Q.A i) ∨ ∃ g, blA (Q1.A i) = [g] ∧ w.heap.size ≤ g) : ∀ y ∈ foot S Bw Q1, y ∈ foot S Bw Q ∨ w.heap.size ≤ y := fun y hy => by
  simp only [foot, List.mem_cons, List.mem_flatMap, List.mem_range] at hy ⊢
  rcases hy with rfl | rfl | ⟨i, hi, hy⟩
  · exact .inl (.inl rfl)
  · exact .inl (.inr (.inl rfl))
  · rcases h i hi with e | ⟨g, e, hg⟩
    · rw [e] at hy; exact .inl (.inr (.inr ⟨i, hi, hy⟩))
    · rw [e] at hy; simp at hy; subst hy; exact .inr hg
theorem Turn.trans {b S Bw n : Nat} {vl vs : Value} {Q Q1 Q2 : QS} {s2 : Ss} {w w1 w2 : World} (hx1 : BX (foot S Bw Q) w w1) (hq1 : ∀ i, i < 6 → blA (Q1.A i) = blA (Q.A i) ∨ ∃ g, blA (Q1.A i) = [g] ∧ w.heap.size ≤ g)
    (h2 : Snd b S Bw vl vs n Q2 s2 w2) (hx2 : BX (foot S Bw Q1) w1 w2) (hq2 : ∀ i, i < 6 → blA (Q2.A i) = blA (Q1.A i)) : Turn b S Bw vl vs n Q s2 w w2 :=
  ⟨Q2, h2, bx_trX hx1 hx2 (foot_new hq1), fun i hi => by rw [hq2 i hi]; exact hq1 i hi⟩
/-- What holds of a sender's messages ahead of a tick. -/
structure St (t n : Nat) (s : Ss) : Prop where
  none : ∀ i, n ≤ i → s.q i = []
  len : ∀ i, (s.q i).length ≤ t
  msg : ∀ i, ∀ m ∈ s.q i, 0 ≤ m.1 ∧ m.1 < t ∧ 1 ≤ m.2 ∧ m.2 ≤ 20
  wor : ∀ i, 0 ≤ s.wo i ∧ s.wo i ≤ t
theorem sendS_none {l : List Sm} {st : List Int} {t : Int} {q : Nat → List (Int × Int)} {i : Nat} (hi : l.length ≤ i) : sendS l st t q i = q i := by
  have : l[i]? = Option.none := List.getElem?_eq_none hi
  simp [sendS, relB, this]
theorem sendS_msg {l : List Sm} {st : List Int} {t : Nat} {n : Nat} {s : Ss} (ho : Opn l st) (h : St t n s) (i : Nat) : (sendS l st t s.q i).length ≤ t + 1 ∧ ∀ m ∈ sendS l st t s.q i, 0 ≤ m.1 ∧ m.1 ≤ t ∧ 1 ≤ m.2 ∧ m.2 ≤ 20 := by
  unfold sendS
  split
  · rename_i hr
    have hl : 1 ≤ lenAt l i ∧ lenAt l i ≤ 20 := by
      unfold relB at hr
      split at hr
      · rename_i x a hx ha
        have := ho.sm x (List.mem_of_getElem? hx)
        simp [lenAt, hx]
        omega
      · cases hr
    refine ⟨by have := h.len i; simp; omega, fun m hm => ?_⟩
    rcases List.mem_append.1 hm with hm | hm
    · have := h.msg i m hm; omega
    · simp at hm; subst hm; simp only; omega
  · exact ⟨by have := h.len i; omega, fun m hm => by have := h.msg i m hm; omega⟩
set_option maxHeartbeats 8000000 in
theorem c_carry (fn : FuncId) (ch : (Nat → List (Int × Int)) → Int) (l : List Sm) (st : List Int) (t : Nat) (Al As : Option Addr) (cl cs S Bw : Nat) (Q : QS) (s : Ss) (w0 w : World) (ho : Opn l st) (ht : t ≤ 400)
    (hw : Below w0.heap.size w0 w) (hl : Sl cSm 4 w0 Al l) (hst : Sl cI 1 w0 As st) (h : Snd w0.heap.size S Bw (.slice Al l.length cl) (.slice As st.length cs) l.length Q s w) (hs : St t l.length s)
    (he : Enters Tryz.prog fn) (hch : ∀ Q s w, Snd w0.heap.size S Bw (.slice Al l.length cl) (.slice As st.length cs) l.length Q s w → Calls Tryz.prog fn #[.pointer (some ⟨S, 0, none⟩)] w (Ret (.int .i64 (ch s.q)) w))
    (hcr : ∀ q, ch q = -1 ∨ ∃ i : Nat, i < 6 ∧ ch q = i ∧ q i ≠ []) :
    Calls Tryz.prog 127 #[.pointer (some ⟨S, 0, none⟩), .int .i64 t, .func (.func fn) #[.pointer (some ⟨S, 0, none⟩)] #[]] w
      (fun e w' => e = .returned (.int .i64 (carS ch l st t s).2) ∧ Turn w0.heap.size S Bw (.slice Al l.length cl) (.slice As st.length cs) l.length Q (carS ch l st t s).1 w w') := by
  have hsend := Lib.hid (c_send l st t Al As cl cs S Bw Q s w0 w ho ht hw hl hst h (fun i => by have := hs.len i; omega))
  have hmsg := Lib.hid fun i => sendS_msg ho hs i
  have hnone : Hid (∀ i, l.length ≤ i → sendS l st t s.q i = []) := fun i hi => by rw [sendS_none hi]; exact hs.none i hi
  have hwor := Lib.hid hs.wor
  have he' : ∀ args w, (callFunc fn args).run Tryz.prog w = .ok (.enter fn args) w := he
  have Hch := Lib.hid hch
  have hC1 : Hid (ch (sendS l st t s.q) = -1 → carS ch l st t s = (⟨sendS l st t s.q, s.wo⟩, -1)) := fun h => by rw [carS, if_pos h]
  have hC2 : Hid (∀ (i : Nat) (a k : Int) (r : List (Int × Int)), ch (sendS l st t s.q) = i → sendS l st t s.q i = (a, k) :: r → k - 1 = 0 → carS ch l st t s = (⟨upF (sendS l st t s.q) i r, upF s.wo i (max (s.wo i) (t - a + 1))⟩, (i : Int))) := fun i a k r h1 h2 h3 => by
    rw [carS, if_neg (by rw [h1]; omega), h1, Int.toNat_natCast, h2]
    simp only [h3, if_true]
  have hC3 : Hid (∀ (i : Nat) (a k : Int) (r : List (Int × Int)), ch (sendS l st t s.q) = i → sendS l st t s.q i = (a, k) :: r → ¬ k - 1 = 0 → carS ch l st t s = (⟨upF (sendS l st t s.q) i ((a, k - 1) :: r), s.wo⟩, (i : Int))) := fun i a k r h1 h2 h3 => by
    rw [carS, if_neg (by rw [h1]; omega), h1, Int.toNat_natCast, h2]
    simp only [h3, if_false]
  have hc := hcr (sendS l st t s.q)
  clear hcr hch he hl hst hs ho hw h
  generalize carS ch l st t s = C at *
  obtain ⟨s', v⟩ := C
  dsimp only at *
  generalize sendS l st t s.q = q at *
  generalize l.length = n at *
  generalize st.length = m at *
  go_enter Tryz.func127, Tryz.ntmps127
  go_wp2_with fail
  refine hsend.out.mono ?_
  rintro e w1 ⟨⟨v0, rfl⟩, Q1, h1, hx1, hq1⟩
  go_wp2_with fail
  refine (Hch.out Q1 _ w1 h1).mono ?_
  rintro e w2 ⟨rfl, hb2⟩
  replace hx1 := hx1.step hb2
  replace h1 := h1.below hb2
  clear hb2 hsend Hch
  rcases hc with hc | ⟨i, hi6, hc, hne⟩
  · rw [hc]
    have e := hC1.out hc
    injection e with e1 e2
    subst e1 e2
    go_wp2
    go_ret
    exact ⟨rfl, Q1, h1, hx1, hq1⟩
  · rw [hc]
    obtain ⟨⟨a, k⟩, r, hqi⟩ : ∃ x r, q i = x :: r := List.exists_cons_of_ne_nil hne
    have hin : i < n := by
      rcases Nat.lt_or_ge i n with h | h
      · exact h
      · exact absurd (hnone.out i h) hne
    have hmi := hmsg.out i
    rw [hqi] at hmi
    have hm := hmi.2 (a, k) (by simp)
    have hln := hmi.1
    simp only [List.length_cons] at hln hm
    have hwi := hwor.out i
    have hQ := h1.que i hi6
    dsimp only at hQ
    rw [hqi] at hQ
    obtain ⟨g, off, gs, hA, kg, hrc, hsz, c0, c1, c2, -, -⟩ := hQ.cons
    have hC2' := Lib.hid (hC2.out i a k r hc hqi)
    have hC3' := Lib.hid (hC3.out i a k r hc hqi)
    clear hC1 hC2 hC3 hmi hmsg hnone hwor hQ
    have LS : w2.cell? ⟨S, 2 + i, none⟩ = some (.slice (some ⟨g, off, none⟩) (r.length + 1) (Q1.c i)) := by
      rw [h1.blk.cell, cSnd_at _ _ _ _ _ hi6]
      simp only [vQ, hqi, hA, List.length_cons]
    have L2 : w2.cell? ⟨g, off + 2, none⟩ = some (.int .i64 k) := by rw [kg.cell]; exact c2
    have F2 : w2.frozen? ⟨g, off + 2, none⟩ = false := kg.frozen _
    have hi7 : (i : Int) < 6 := by omega
    go_upto_region 7 with fail
    obtain ⟨h2, hx2⟩ := h1.dec hi6 hqi hA (k - 1)
    have hgl := kg.lt
    have kg2 := kg.set (off + 2) (.int .i64 (k - 1))
    generalize w2.setCell ⟨g, off + 2, none⟩ (.int .i64 (k - 1)) = w3 at *
    clear LS L2 F2 kg
    have c3 : w3.cell? ⟨g, off + 2, none⟩ = some (.int .i64 (k - 1)) := by
      rw [kg2.cell]
      exact Array.getElem?_setIfInBounds_self_of_lt (by omega)
    by_cases hk : k - 1 = 0
    · have e := hC2'.out hk
      go_upto_region 8 with fail
      have H2 := Lib.hid fun W (hb : Below w3.heap.size w3 W) => h2.below hb
      have LW : ∀ W, Below w3.heap.size w3 W → W.cell? ⟨S, 8, none⟩ = some (.slice (some ⟨Bw, 0, none⟩) n n) := fun W hb => by rw [(H2.out W hb).blk.cell]; rfl
      have LC : ∀ W, Below w3.heap.size w3 W → W.cell? ⟨Bw, i, none⟩ = some (.int .i64 (s.wo i)) := fun W hb => by rw [(H2.out W hb).wor.cell]; simp [hin]
      have FC : ∀ W, Below w3.heap.size w3 W → W.frozen? ⟨Bw, i, none⟩ = false := fun W hb => (H2.out W hb).wor.frozen _
      have LA : ∀ W, Below w3.heap.size w3 W → W.cell? ⟨g, off + 1, none⟩ = some (.int .i64 a) := fun W hb => by
        rw [(kg2.below hb).cell, Array.getElem?_setIfInBounds_ne (by omega)]
        exact c1
      have hi8 : (i : Int) < n := by omega
      clear c3
      refine wp_any (w0 := w3) ⟨[21], [], [some 36, some 37, some 38, some 39, some 40, some 41, some 42, some 43, some 44, some 45, some 46, some 47, some 48, some 49, some 50, some 51, some 52, some 53, some 54, some 55, some 56, none], [[], [0], [0, 1], [0, 1, 2], [], [], [5], [5, 6], [5, 6, 7], [], [5, 6, 7, 8, 9], [5, 6, 7, 8, 9, 10], [], [], [13], [13, 14], [13, 14, 15], [12, 13, 14, 15, 16], [12, 13, 14, 15, 16, 17], [5, 6, 7, 8, 9, 10, 11, 12, 13, 14, 15, 16, 17, 18], [0, 1, 2, 3, 4, 5, 6, 7, 8, 9, 10, 11, 12, 13, 14, 15, 16, 17, 18, 19], [0, 1, 2, 3, 4, 5, 6, 7, 8, 9, 10, 11, 12, 13, 14, 15, 16, 17, 18, 19, 20]], [[], [0], [1], [2], [], [], [5], [6], [7], [], [8, 9], [10], [], [], [13], [14], [15], [12, 16], [17], [11, 18], [3, 4], []]⟩ (fun _ => [Bw]) (by kernel_rfl) (by kernel_rfl) (by (exact zE)) (fun u => by simp only [putD, Act.put, List.setIfInBounds_toArray, List.set_cons_zero, List.set_cons_succ, Nat.zero_add, Nat.reduceAdd]; rfl) ?_
      apply RGW.on (i := 0) rfl
      · exact zG
      · intro γ u W hcur hd
        clear hd
        (try dsimp only)
        exact ⟨rfl, zS⟩
      · exact zC
      · rfl
      dsimp only [nA, cA]
      apply RGW.on (i := 1) rfl
      · exact zG
      · intro γ u W hcur hd
        obtain ⟨⟨h0, -, -⟩, -⟩ := hd
        dsimp only at h0
        (try simp only [h0])
        exact ⟨rfl, zS⟩
      · exact zC
      · rfl
      dsimp only [nA, cA]
      apply RGW.on (i := 2) rfl
      · exact zG
      · intro γ u W hcur hd
        obtain ⟨⟨h1, -, -⟩, -⟩ := hd
        dsimp only at h1
        (try simp only [h1])
        exact ⟨rfl, zS⟩
      · exact zC
      · rfl
      dsimp only [nA, cA]
      apply RGW.on (i := 3) rfl
      · exact zG
      · intro γ u W hcur hd
        obtain ⟨⟨h2, -, -⟩, -⟩ := hd
        dsimp only at h2
        (try simp only [h2])
        exact ⟨rfl, zS⟩
      · exact zC
      · rfl
      dsimp only [nA, cA]
      apply RGW.on (i := 4) rfl
      · exact zG
      · intro γ u W hcur hd
        clear hd
        (try dsimp only)
        exact ⟨rfl, zS⟩
      · exact zC
      · rfl
      dsimp only [nA, cA]
      apply RGW.on (i := 5) rfl
      · exact zG
      · intro γ u W hcur hd
        clear hd
        (try dsimp only)
        exact ⟨rfl, zS⟩
      · exact zC
      · rfl
      dsimp only [nA, cA]
      apply RGW.on (i := 6) rfl
      · exact zG
      · intro γ u W hcur hd
        obtain ⟨⟨h5, -, -⟩, -⟩ := hd
        dsimp only at h5
        (try simp only [h5])
        exact ⟨rfl, zS⟩
      · exact zC
      · rfl
      dsimp only [nA, cA]
      apply RGW.on (i := 7) rfl
      · exact zG
      · intro γ u W hcur hd
        obtain ⟨⟨h6, -, -⟩, -⟩ := hd
        dsimp only at h6
        (try simp only [h6])
        exact ⟨rfl, zS⟩
      · exact zC
      · rfl
      dsimp only [nA, cA]
      apply RGW.on (i := 8) rfl
      · exact zG
      · intro γ u W hcur hd
        obtain ⟨⟨h7, -, -⟩, -⟩ := hd
        dsimp only at h7
        (try simp only [h7])
        exact ⟨rfl, zS⟩
      · exact zC
      · rfl
      dsimp only [nA, cA]
      apply RGW.on (i := 9) rfl
      · exact zG
      · intro γ u W hcur hd
        clear hd
        (try dsimp only)
        exact ⟨rfl, zS⟩
      · exact zC
      · rfl
      dsimp only [nA, cA]
      apply RGW.on (i := 10) rfl
      · exact zG
      · intro γ u W hcur hd
        obtain ⟨⟨h8, -, -⟩, ⟨h9, -, -⟩, -⟩ := hd
        dsimp only at h8 h9
        (try simp only [h8, h9])
        exact ⟨rfl, zS⟩
      · exact zC
      · rfl
      dsimp only [nA, cA]
      apply RGW.on (i := 11) rfl
      · exact zG
      · intro γ u W hcur hd
        obtain ⟨⟨h10, -, -⟩, -⟩ := hd
        dsimp only at h10
        (try simp only [h10])
        exact ⟨rfl, zS⟩
      · exact zC
      · rfl
      dsimp only [nA, cA]
      apply RGW.on (i := 12) rfl
      · exact zG
      · intro γ u W hcur hd
        clear hd
        (try dsimp only)
        exact ⟨rfl, zS⟩
      · exact zC
      · rfl
      dsimp only [nA, cA]
      apply RGW.on (i := 13) rfl
      · exact zG
      · intro γ u W hcur hd
        clear hd
        (try dsimp only)
        exact ⟨rfl, zS⟩
      · exact zC
      · rfl
      dsimp only [nA, cA]
      apply RGW.on (i := 14) rfl
      · exact zG
      · intro γ u W hcur hd
        obtain ⟨⟨h13, -, -⟩, -⟩ := hd
        dsimp only at h13
        (try simp only [h13])
        exact ⟨rfl, zS⟩
      · exact zC
      · rfl
      dsimp only [nA, cA]
      apply RGW.on (i := 15) rfl
      · exact zG
      · intro γ u W hcur hd
        obtain ⟨⟨h14, -, -⟩, -⟩ := hd
        dsimp only at h14
        (try simp only [h14])
        exact ⟨rfl, zS⟩
      · exact zC
      · rfl
      dsimp only [nA, cA]
      apply RGW.on (i := 16) rfl
      · exact zG
      · intro γ u W hcur hd
        obtain ⟨⟨h15, -, -⟩, -⟩ := hd
        dsimp only at h15
        (try simp only [h15])
        exact ⟨rfl, zS⟩
      · exact zC
      · rfl
      dsimp only [nA, cA]
      apply RGW.on (i := 17) rfl
      · exact zG
      · intro γ u W hcur hd
        obtain ⟨⟨h12, -, -⟩, ⟨h16, -, -⟩, -⟩ := hd
        dsimp only at h12 h16
        (try simp only [h12, h16])
        exact ⟨rfl, zS⟩
      · exact zC
      · rfl
      dsimp only [nA, cA]
      apply RGW.on (i := 18) rfl
      · exact zG
      · intro γ u W hcur hd
        obtain ⟨⟨h17, -, -⟩, -⟩ := hd
        dsimp only at h17
        (try simp only [h17])
        exact ⟨rfl, zS⟩
      · exact zC
      · rfl
      dsimp only [nA, cA]
      apply RGW.on (i := 19) rfl
      · exact zG
      · intro γ u W hcur hd
        obtain ⟨⟨h11, -, -⟩, ⟨h18, -, -⟩, -⟩ := hd
        dsimp only at h11 h18
        (try simp only [h11, h18])
        exact ⟨rfl, zS⟩
      · exact zC
      · rfl
      dsimp only [nA, cA]
      apply RGW.on (i := 20) rfl
      · exact zG
      · intro γ u W hcur hd
        obtain ⟨⟨h3, -, -⟩, ⟨h4, -, -⟩, -⟩ := hd
        dsimp only at h3 h4
        (try simp only [h3, h4])
        exact ⟨rfl, zS⟩
      · exact zC
      · rfl
      dsimp only [nA, cA]
      refine RGW.skip (i := 21) rfl rfl ?_
      dsimp only [nA, cA]
      refine RGW.fin (fun γ u w4 hw4 hd hdis => ?_)
      obtain ⟨⟨h0, -, -⟩, ⟨h1, -, -⟩, ⟨h2, -, -⟩, ⟨h3, -, -⟩, ⟨h4, -, -⟩, ⟨h5, -, -⟩, ⟨h6, -, -⟩, ⟨h7, -, -⟩, ⟨h8, -, -⟩, ⟨h9, -, -⟩, ⟨h10, -, -⟩, ⟨h11, -, -⟩, ⟨h12, -, -⟩, ⟨h13, -, -⟩, ⟨h14, -, -⟩, ⟨h15, -, -⟩, ⟨h16, -, -⟩, ⟨h17, -, -⟩, ⟨h18, -, -⟩, ⟨h19, -, -⟩, ⟨h20, -, -⟩, -⟩ := hd
      dsimp only at h0 h1 h2 h3 h4 h5 h6 h7 h8 h9 h10 h11 h12 h13 h14 h15 h16 h17 h18 h19 h20
      clear hdis
      simp only [h0, h1, h2, h3, h4, h5, h6, h7, h8, h9, h10, h11, h12, h13, h14, h15, h16, h17, h18, h19, h20]
      clear h20 h19 h18 h17 h16 h15 h14 h13 h12 h11 h10 h9 h8 h7 h6 h5 h4 h3 h2 h1 h0
      clear u
      simp only [List.map_cons, List.map_nil]
      apply PlanW.step
      · exact zG
      · rfl
      intro K hK
      first
      | refine wp_store_keep (X := [Bw]) (w0 := w4) rfl rfl rfl (by with_reducible first | exact bx_refl _ _ | assumption) (by with_reducible first | assumption | (apply Blk.below (hb := hw4); assumption)) (by simp) (by kernel_rfl) (by rfl) (by simp [Value.oneCell']) (fun hres1 hcur => ?_)
        refine hK.out _ _ hcur (fun _ => ?_)
      | go_simp
        refine hK.out _ _ (by (exact zX)) (fun hcur => ?_)
      clear hK K
      try simp only [Act.put, List.setIfInBounds_toArray, List.set_cons_zero, List.set_cons_succ]
      refine PlanW.done ?_
      have hb3 := bl_tt hw4
      obtain ⟨h3, hx3⟩ := (h2.below hw4).worst hin (max (s.wo i) ((t : Int) - a + 1))
      replace hx3 := (hx2.step hw4).trans hx3
      generalize w4.setCell ⟨Bw, i, none⟩ (.int .i64 (max (s.wo i) ((t : Int) - a + 1))) = w5 at *
      clear hb3 hcur LW LC FC LA H2 hx2 h2 hw4 kg2
      have H3 := Lib.hid fun W (hb : Below w5.heap.size w5 W) => h3.below hb
      have hup : upF q i ((a, k - 1) :: r) i = (a, k - 1) :: r := by simp [upF]
      have LS : ∀ W, Below w5.heap.size w5 W → W.cell? ⟨S, 2 + i, none⟩ = some (.slice (some ⟨g, off, none⟩) (r.length + 1) (Q1.c i)) := fun W hb => by
        rw [(H3.out W hb).blk.cell, cSnd_at _ _ _ _ _ hi6]
        simp only [vQ, hup, hA, List.length_cons]
      have FS : ∀ W, Below w5.heap.size w5 W → W.frozen? ⟨S, 2 + i, none⟩ = false := fun W hb => (H3.out W hb).blk.frozen _
      clear hi8
      have hb1 : (1 : Int) ≤ (r.length : Int) + 1 := by omega
      go_upto_region 9 with fail
      refine wp_any (w0 := w5) ⟨[12], [], [some 57, some 58, some 59, some 60, some 61, some 62, some 63, some 64, some 65, some 66, some 67, some 68, none], [[], [], [], [], [2], [2, 4], [2, 3, 4, 5], [2, 3, 4, 5, 6], [2, 3, 4, 5, 6, 7], [0], [0, 9], [0, 1, 2, 3, 4, 5, 6, 7, 8, 9, 10], [0, 1, 2, 3, 4, 5, 6, 7, 8, 9, 10, 11]], [[], [], [], [], [2], [4], [3, 5], [6], [7], [0], [9], [1, 10], []]⟩ (fun _ => [S]) (by kernel_rfl) (by kernel_rfl) (by (exact zE)) (fun u => by simp only [putD, Act.put, List.setIfInBounds_toArray, List.set_cons_zero, List.set_cons_succ, Nat.zero_add, Nat.reduceAdd]; rfl) ?_
      apply RGW.on (i := 0) rfl
      · exact zG
      · intro γ u W hcur hd
        clear hd
        (try dsimp only)
        exact ⟨rfl, zS⟩
      · exact zC
      · rfl
      dsimp only [nA, cA]
      apply RGW.on (i := 1) rfl
      · exact zG
      · intro γ u W hcur hd
        clear hd
        (try dsimp only)
        exact ⟨rfl, zS⟩
      · exact zC
      · rfl
      dsimp only [nA, cA]
      apply RGW.on (i := 2) rfl
      · exact zG
      · intro γ u W hcur hd
        clear hd
        (try dsimp only)
        exact ⟨rfl, zS⟩
      · exact zC
      · rfl
      dsimp only [nA, cA]
      apply RGW.on (i := 3) rfl
      · exact zG
      · intro γ u W hcur hd
        clear hd
        (try dsimp only)
        exact ⟨rfl, zS⟩
      · exact zC
      · rfl
      dsimp only [nA, cA]
      apply RGW.on (i := 4) rfl
      · exact zG
      · intro γ u W hcur hd
        obtain ⟨⟨h2, -, -⟩, -⟩ := hd
        dsimp only at h2
        (try simp only [h2])
        exact ⟨rfl, zS⟩
      · exact zC
      · rfl
      dsimp only [nA, cA]
      apply RGW.on (i := 5) rfl
      · exact zG
      · intro γ u W hcur hd
        obtain ⟨⟨h4, -, -⟩, -⟩ := hd
        dsimp only at h4
        (try simp only [h4])
        exact ⟨rfl, zS⟩
      · exact zC
      · rfl
      dsimp only [nA, cA]
      apply RGW.on (i := 6) rfl
      · exact zG
      · intro γ u W hcur hd
        obtain ⟨⟨h3, -, -⟩, ⟨h5, -, -⟩, -⟩ := hd
        dsimp only at h3 h5
        (try simp only [h3, h5])
        exact ⟨rfl, zS⟩
      · exact zC
      · rfl
      dsimp only [nA, cA]
      apply RGW.on (i := 7) rfl
      · exact zG
      · intro γ u W hcur hd
        obtain ⟨⟨h6, -, -⟩, -⟩ := hd
        dsimp only at h6
        (try simp only [h6])
        exact ⟨rfl, zS⟩
      · exact zC
      · rfl
      dsimp only [nA, cA]
      apply RGW.on (i := 8) rfl
      · exact zG
      · intro γ u W hcur hd
        obtain ⟨⟨h7, -, -⟩, -⟩ := hd
        dsimp only at h7
        (try simp only [h7])
        exact ⟨rfl, zS⟩
      · exact zC
      · rfl
      dsimp only [nA, cA]
      apply RGW.on (i := 9) rfl
      · exact zG
      · intro γ u W hcur hd
        obtain ⟨⟨h0, -, -⟩, -⟩ := hd
        dsimp only at h0
        (try simp only [h0])
        exact ⟨rfl, zS⟩
      · exact zC
      · rfl
      dsimp only [nA, cA]
      apply RGW.on (i := 10) rfl
      · exact zG
      · intro γ u W hcur hd
        obtain ⟨⟨h9, -, -⟩, -⟩ := hd
        dsimp only at h9
        (try simp only [h9])
        exact ⟨rfl, zS⟩
      · exact zC
      · rfl
      dsimp only [nA, cA]
      apply RGW.on (i := 11) rfl
      · exact zG
      · intro γ u W hcur hd
        obtain ⟨⟨h1, -, -⟩, ⟨h10, -, -⟩, -⟩ := hd
        dsimp only at h1 h10
        (try simp only [h1, h10])
        exact ⟨rfl, zS⟩
      · exact zC
      · rfl
      dsimp only [nA, cA]
      refine RGW.skip (i := 12) rfl rfl ?_
      dsimp only [nA, cA]
      refine RGW.fin (fun γ u w6 hw6 hd hdis => ?_)
      obtain ⟨⟨h0, -, -⟩, ⟨h1, -, -⟩, ⟨h2, -, -⟩, ⟨h3, -, -⟩, ⟨h4, -, -⟩, ⟨h5, -, -⟩, ⟨h6, -, -⟩, ⟨h7, -, -⟩, ⟨h8, -, -⟩, ⟨h9, -, -⟩, ⟨h10, -, -⟩, ⟨h11, -, -⟩, -⟩ := hd
      dsimp only at h0 h1 h2 h3 h4 h5 h6 h7 h8 h9 h10 h11
      clear hdis
      simp only [h0, h1, h2, h3, h4, h5, h6, h7, h8, h9, h10, h11]
      clear h11 h10 h9 h8 h7 h6 h5 h4 h3 h2 h1 h0
      clear u
      simp only [List.map_cons, List.map_nil]
      apply PlanW.step
      · exact zG
      · rfl
      intro K hK
      first
      | refine wp_store_keep (X := [S]) (w0 := w6) rfl rfl rfl (by with_reducible first | exact bx_refl _ _ | assumption) (by with_reducible first | assumption | (apply Blk.below (hb := hw6); assumption)) (by simp) (by kernel_rfl) (by rfl) (by simp [Value.oneCell']) (fun hres1 hcur => ?_)
        refine hK.out _ _ hcur (fun _ => ?_)
      | go_simp
        refine hK.out _ _ (by (exact zX)) (fun hcur => ?_)
      clear hK K
      try simp only [Act.put, List.setIfInBounds_toArray, List.set_cons_zero, List.set_cons_succ]
      refine PlanW.done ?_
      have hb3 := bl_tt hw6
      obtain ⟨o, ho, hoo⟩ : ∃ o, (o = off + 3 ∨ (Q1.c i = 1 ∧ o = off)) ∧ (if Q1.c i = 1 then some (⟨g, off, none⟩ : Addr) else some ⟨g, off + 3, none⟩) = some ⟨g, o, none⟩ := by
        by_cases h1c : Q1.c i = 1
        · exact ⟨off, .inr ⟨h1c, rfl⟩, by rw [if_pos h1c]⟩
        · exact ⟨off + 3, .inl rfl, by rw [if_neg h1c]⟩
      obtain ⟨h4, hx4, hq4⟩ := (h3.below hw6).pop hi6 hup hA ho
      replace hx4 := (hx3.step hw6).trans hx4
      injection e with e1 e2
      subst e1 e2
      simp only [hoo]
      generalize w6.setCell ⟨S, 2 + i, none⟩ (.slice (some ⟨g, o, none⟩) r.length (Q1.c i - 1)) = w7 at *
      clear hb3 hcur LS FS H3
      go_wp2
      go_ret
      have huu : upF (upF q i ((a, k - 1) :: r)) i r = upF q i r := by funext j; unfold upF; split <;> rfl
      (try dsimp only at h4)
      rw [huu] at h4
      exact ⟨rfl, Turn.trans hx1 hq1 h4 hx4 hq4⟩
    · have e := hC3'.out hk
      injection e with e1 e2
      subst e1 e2
      go_wp2
      go_ret
      exact ⟨rfl, Turn.trans hx1 hq1 h2 hx2 (fun _ _ => rfl)⟩
end Go.Proofs.YtbdgblnccjpahaaGreatDoor
namespace Go.Proofs.YtbdgblnccjpahaaGreatDoor
open Go.RowKit Go.Shelf
attribute [local go_sem] bl_al bl_drew bl_drewN bl_refl bx_al bx_drew bx_drewN bx_refl
set_option maxRecDepth 20000
theorem St.zero (n : Nat) : St 0 n ss0 := ⟨fun _ _ => rfl, fun _ => Nat.le_refl _, fun _ m hm => by simp [ss0] at hm, fun _ => by simp [ss0]⟩
theorem St.step {ch : (Nat → List (Int × Int)) → Int} {l : List Sm} {st : List Int} {t : Nat} {s : Ss} (ho : Opn l st) (h : St t l.length s) : St (t + 1) l.length (carS ch l st t s).1 := by
  have hm := fun i => sendS_msg ho h i
  have hn : ∀ i, l.length ≤ i → sendS l st t s.q i = [] := fun i hi => by rw [sendS_none hi]; exact h.none i hi
  have hw := h.wor
  have hbase : St (t + 1) l.length ⟨sendS l st t s.q, s.wo⟩ := ⟨hn, fun i => (hm i).1, fun i m hmm => by have := (hm i).2 m hmm; omega, fun i => by have := hw i; dsimp only; omega⟩
  unfold carS
  generalize sendS l st t s.q = q at *
  split
  · exact hbase
  · generalize (ch q).toNat = i at *
    split
    · exact hbase
    · rename_i a k r hq
      have hin : ¬ l.length ≤ i := fun hi => by rw [hn i hi] at hq; cases hq
      have hmi := hm i
      rw [hq] at hmi
      have hak := hmi.2 (a, k) (by simp)
      have hr := fun m (hmr : m ∈ r) => hmi.2 m (by simp [hmr])
      have hlr := hmi.1
      simp only [List.length_cons] at hlr hak
      split
      · rename_i hk
        refine ⟨fun j hj => ?_, fun j => ?_, fun j m hj => ?_, fun j => ?_⟩
        · have : j ≠ i := fun e => hin (e ▸ hj)
          simp only [upF, if_neg this]
          exact hn j hj
        · simp only [upF]
          split
          · omega
          · exact (hm j).1
        · simp only [upF] at hj
          split at hj
          · have := hr m hj; omega
          · have := (hm j).2 m hj; omega
        · simp only [upF]
          have h1 := hw i
          have h2 := hw j
          split <;> omega
      · rename_i hk
        refine ⟨fun j hj => ?_, fun j => ?_, fun j m hj => ?_, fun j => by have := hw j; dsimp only; omega⟩
        · have : j ≠ i := fun e => hin (e ▸ hj)
          simp only [upF, if_neg this]
          exact hn j hj
        · simp only [upF]
          split
          · simp only [List.length_cons]; omega
          · exact (hm j).1
        · simp only [upF] at hj
          split at hj
          · rcases List.mem_cons.1 hj with rfl | hj
            · simp only; omega
            · have := hr m hj; omega
          · have := (hm j).2 m hj; omega
theorem St.run {ch : (Nat → List (Int × Int)) → Int} {l : List Sm} {st : List Int} (ho : Opn l st) : ∀ t : Nat, St t l.length (runS ch l st t).1
  | 0 => St.zero _
  | t + 1 => St.step ho (St.run ho t)
theorem own_keep {b n : Nat} {X : List Nat} {A B : World} {e : TypeId} {size : Nat} {v : Value} {xs : List Value} (h : A.ownsRow b e size v n xs) (hk : BX X A B) (hX : ∀ g, v.ownBlock = some g → g ∉ X) : B.ownsRow b e size v n xs := by
  refine ⟨h.1, ?_⟩
  rcases h.2 with h2 | ⟨g, cap, cur, e1, e2, e3, e4⟩
  · exact .inl h2
  · refine .inr ⟨g, cap, cur, e1, e2, (hk.block g (Array.getElem?_eq_some_iff.1 e3).1 (hX g (by rw [e1]; rfl))).trans e3, e4⟩
theorem own_ltR {b n : Nat} {A : World} {e : TypeId} {size : Nat} {v : Value} {xs : List Value} (h : A.ownsRow b e size v n xs) : ∀ g, v.ownBlock = some g → g < A.heap.size := fun k hk => by
  rcases h.2 with ⟨e0, _⟩ | ⟨g, cap, cur, e1, e2, e3, e4⟩
  · rw [e0] at hk; simp [Value.ownBlock] at hk
  · rw [e1] at hk; simp [Value.ownBlock] at hk; subst hk; exact (Array.getElem?_eq_some_iff.1 e3).1
theorem bx_grown {X : List Nat} {w A B : World} {row : Option Nat} (h : BX X w A) (hg : A.grownBy B row) (hr : ∀ g, row = some g → w.heap.size ≤ g) (hX : ∀ g ∈ X, g < w.heap.size) : BX X w B :=
  ⟨hg.os.trans h.os, hg.tape.trans h.tape, hg.output.trans h.output, Nat.le_trans h.size hg.size, fun i hi hiX => (hg.block i (Nat.lt_of_lt_of_le hi h.size) (fun e => by have := hr i e.symm; omega)).trans (h.block i hi hiX), fun g hgX t cs hk => by
    obtain ⟨c1, k1, e1⟩ := h.shape g hgX t cs hk
    exact ⟨c1, (hg.block g k1.lt (fun e => by have := hr g e.symm; have := hX g hgX; omega)).trans k1, e1⟩⟩
theorem Snd.grown {b S Bw n : Nat} {vl vs : Value} {Q : QS} {s : Ss} {w w' : World} {row : Option Nat} (h : Snd b S Bw vl vs n Q s w) (hg : w.grownBy w' row) (hr : ∀ g ∈ foot S Bw Q, some g ≠ row) : Snd b S Bw vl vs n Q s w' := by
  have key : ∀ {g t cs}, Blk w g t cs → g ∈ foot S Bw Q → Blk w' g t cs := fun hk hm => (hg.block _ hk.lt (hr _ hm)).trans hk
  refine ⟨key h.blk (by simp [foot]), key h.wor (by simp [foot]), fun i hi => ?_, h.bS, h.bW, h.SW, h.dis, h.dS, h.dW⟩
  rcases h.que i hi with h1 | ⟨g, off, cs, e, h1, h2, h3⟩
  · exact .inl h1
  · exact .inr ⟨g, off, cs, e, h1, key h2 (foot_q hi (by rw [e]; simp [blA])), h3⟩
set_option maxHeartbeats 8000000 in
theorem c_run (fn : FuncId) (ch : (Nat → List (Int × Int)) → Int) (l : List Sm) (st : List Int) (T : Nat) (Al As : Option Addr) (cl cs S Bw : Nat) (Q : QS) (w0 w : World) (ho : Opn l st) (hT : T ≤ 400)
    (hw : Below w0.heap.size w0 w) (hl : Sl cSm 4 w0 Al l) (hst : Sl cI 1 w0 As st) (h : Snd w0.heap.size S Bw (.slice Al l.length cl) (.slice As st.length cs) l.length Q ss0 w)
    (he : Enters Tryz.prog fn) (hch : ∀ Q s w, Snd w0.heap.size S Bw (.slice Al l.length cl) (.slice As st.length cs) l.length Q s w → Calls Tryz.prog fn #[.pointer (some ⟨S, 0, none⟩)] w (Ret (.int .i64 (ch s.q)) w))
    (hcr : ∀ q, ch q = -1 ∨ ∃ i : Nat, i < 6 ∧ ch q = i ∧ q i ≠ []) :
    Calls Tryz.prog 68 #[.pointer (some ⟨S, 0, none⟩), .int .i64 T, .func (.func fn) #[.pointer (some ⟨S, 0, none⟩)] #[]] w
      (fun e w' => ∃ A c, e = .returned (.slice A T c) ∧ w'.ownsRow w.heap.size 3 1 (.slice A T c) T ((runS ch l st T).2.map (.int .i64)) ∧
        ∃ Q', Snd w0.heap.size S Bw (.slice Al l.length cl) (.slice As st.length cs) l.length Q' (runS ch l st T).1 w' ∧ BX (foot S Bw Q) w w') := by
  obtain ⟨i0, hi, hz0, hz1, hz2⟩ := info_parts infoI
  have hcar := Lib.hid fun (t : Nat) (ht : t < T) (Q' : QS) (W : World) (hb : Below w0.heap.size w0 W) (h' : Snd w0.heap.size S Bw (.slice Al l.length cl) (.slice As st.length cs) l.length Q' (runS ch l st t).1 W) =>
    c_carry fn ch l st t Al As cl cs S Bw Q' (runS ch l st t).1 w0 W ho (by omega) hb hl hst h' (St.run ho t) he hch hcr
  have hft := Lib.hid h.foot_ge
  have Hw := Lib.hid hw
  have H := Lib.hid h
  have hst1 := Lib.hid fun t => (show (runS ch l st (t + 1)).2 = (runS ch l st t).2 ++ [(carS ch l st t (runS ch l st t).1).2] from rfl)
  have hst2 := Lib.hid fun t : Nat => (show (runS ch l st (t + 1)).1 = (carS ch l st t (runS ch l st t).1).1 from rfl)
  clear hch hcr he hl hst ho hw h
  generalize l.length = n at *
  generalize st.length = m at *
  go_enter Tryz.func68, Tryz.ntmps68
  go_wp2
  go_loopw [7, 10] (fun o i wr => ∃ t : Nat, t ≤ T ∧ i = .int .i64 t ∧ ∃ Q', Snd w0.heap.size S Bw (.slice Al n cl) (.slice As m cs) n Q' (runS ch l st t).1 wr ∧ BX (foot S Bw Q) w wr ∧ (∀ g ∈ foot S Bw Q', g ∈ foot S Bw Q ∨ w.heap.size ≤ g) ∧
    wr.ownsRow w.heap.size 3 1 o t ((runS ch l st t).2.map (.int .i64)) ∧ ∀ g, o.ownBlock = some g → g ∉ foot S Bw Q') (fun _ i _ => T - (intOf i).toNat)
  case atStart => exact ⟨0, Nat.zero_le _, rfl, Q, H.out, bx_refl _ _, fun g hg => .inl hg, World.ownsRow_nil _ _ _ _, fun g hg => by simp [Value.ownBlock] at hg⟩
  case round =>
    obtain ⟨t, ht, rfl, Q', h1, h2, h3, h4, h5⟩ := hrel
    by_cases htT : t < T
    rotate_left
    · go_wp2
      go_ret
      have e : t = T := by omega
      subst e
      obtain ⟨A, c, rfl⟩ := own_slice h4
      exact ⟨A, c, rfl, h4, Q', h1, h2⟩
    have hbr := bx_below Hw.out h2 (fun x hx => (hft.out x hx).1)
    go_wp2_with fail
    refine (hcar.out t htT Q' wr hbr h1).mono ?_
    rintro e w3 ⟨rfl, Q3, k1, k2, k3⟩
    rw [← hst2.out t] at k1
    have hs1 := hst1.out t
    generalize (carS ch l st t (runS ch l st t).1).2 = v at *
    have hown3 := own_keep h4 k2 h5
    have hlt4 := own_ltR h4
    have hge4 := own_ge h4
    have h7 : ∀ g ∈ foot S Bw Q3, g ∈ foot S Bw Q' ∨ wr.heap.size ≤ g := foot_new k3
    have hsz := h2.size
    have hsz2 := k2.size
    have hf3 := Lib.hid k1.foot_ge
    go_wp2_with (at_builtin; refine wpList_append_own_at _ rfl _ _ 23 rfl w.heap.size 3 i0 (.int .i64 0) 1 8 Tryz.underlying23 hi hz0 hz1 hz2 rfl (by decide) _ _ _ rfl (hown3.alloc _) ⟨w3.heap.size, 0, none⟩ 1 1 [.int .i64 v] rfl rfl ?c1 ?c2 ?c3 ?c4 ?c5 ?_)
    case c1 =>
      intro j u hj
      match j, hj with
      | 0, hj => simp at hj; subst hj; simp [Addr.add]
    case c2 => intro u hu; simp at hu; subst hu; rfl
    case c3 => unfold maxLen; omega
    case c4 => omega
    case c5 => simp; omega
    intro v' w4 hown' hgrow hnil hat
    have hout : ∀ g, u7.ownBlock = some g → g ∉ foot S Bw Q3 := fun g hg hm => by
      rcases h7 g hm with h | h
      · exact h5 g hg h
      · have := hlt4 g hg; omega
    have hsnd := (k1.below (bl_al (.cells #[.int .i64 v] 3) (bl_refl w3))).grown hgrow (fun g hg e => hout g e.symm hg)
    have hbx := bx_grown ((bx_trX h2 k2 h3).step (bl_al (.cells #[.int .i64 v] 3) (bl_refl w3))) hgrow hge4 (fun g hg => (hft.out g hg).2)
    have hnew : ∀ g ∈ foot S Bw Q3, g ∈ foot S Bw Q ∨ w.heap.size ≤ g := fun g hg => by
      rcases h7 g hg with h | h
      · exact h3 g h
      · exact .inr (by omega)
    have hdis : ∀ g, v'.ownBlock = some g → g ∉ foot S Bw Q3 := fun g hg hm => by
      rcases hat with e | e
      · exact hout g (e ▸ hg) hm
      · rw [e] at hg
        simp at hg
        have := (hf3.out g hm).2
        omega
    clear hat hnil hgrow hout hown3 hlt4 hge4 k2 k3 hf3
    go_wp2
    go_roundw
    case rel => exact ⟨t + 1, by omega, by go_num, Q3, hsnd, hbx, hnew, by rw [hs1]; simpa using hown', hdis⟩
    case measure => simp [intOf]; omega
end Go.Proofs.YtbdgblnccjpahaaGreatDoor
namespace Go.Proofs.YtbdgblnccjpahaaGreatDoor
open Go.RowKit Go.Shelf
attribute [local go_sem] bl_al bl_drew bl_drewN bl_refl bx_al bx_drew bx_drewN bx_refl
set_option maxRecDepth 20000
theorem prioFrom_cr (q : Nat → List (Int × Int)) : ∀ n i, i + n ≤ 6 → prioFrom q n i = -1 ∨ ∃ j : Nat, j < 6 ∧ prioFrom q n i = j ∧ q j ≠ []
  | 0, _, _ => .inl rfl
  | n + 1, i, h => by
    unfold prioFrom
    split
    · exact prioFrom_cr q n (i + 1) (by omega)
    · rename_i h2
      exact .inr ⟨i, by omega, rfl, fun e => h2 (by rw [e]; rfl)⟩
theorem prioS_cr (q : Nat → List (Int × Int)) : prioS q = -1 ∨ ∃ i : Nat, i < 6 ∧ prioS q = i ∧ q i ≠ [] := prioFrom_cr q 6 0 (by decide)
theorem smsErr_ok {l : List Sm} (h : smsErr l = 0) : 0 < l.length ∧ l.length ≤ 6 ∧ ∀ x ∈ l, 1 ≤ x.per ∧ x.per ≤ 60 ∧ 1 ≤ x.dl ∧ x.dl ≤ x.per ∧ 1 ≤ x.len ∧ x.len ≤ 20 := by
  by_cases h6 : lenE l.length 6 = 0
  · rw [smsErr, smsChk, if_pos h6] at h
    obtain ⟨b1, b2⟩ := (fst_cons _ _).1 h6
    obtain ⟨b3, -⟩ := (fst_cons _ _).1 b2
    have c1 := (unl_zero (by decide)).1 b1
    have c2 := (unl_zero (by decide)).1 b3
    simp at c1 c2
    refine ⟨c1, by omega, fun x hx => ?_⟩
    obtain ⟨k, hk⟩ := List.mem_iff_getElem?.1 hx
    have := eachS_ok _ l 0 h k x hk
    obtain ⟨-, d2⟩ := (fst_cons _ _).1 this
    obtain ⟨-, d3⟩ := (fst_cons _ _).1 d2
    obtain ⟨d4, -⟩ := (fst_cons _ _).1 d3
    have := (unl_zero (by decide)).1 d4
    simp [inR] at this
    omega
  · rw [smsErr, smsChk, if_neg h6] at h
    exact absurd h h6
theorem stE_ok {l : List Sm} {st : List Int} {t : Int} (h : stE l st t = 0) : Opn l st ∧ 0 ≤ t ∧ t ≤ 400 := by
  obtain ⟨a1, a2⟩ := (fst_cons _ _).1 h
  obtain ⟨a3, -⟩ := (fst_cons _ _).1 a2
  have ht := (unl_zero (by decide)).1 a3
  simp [inR] at ht
  change stE2 l st = 0 at a1
  have e1 : stE1 l st = 0 := by
    by_cases h0 : stE1 l st = 0
    · exact h0
    · rw [stE2, if_neg h0] at a1; exact absurd a1 h0
  rw [stE2, if_pos e1] at a1
  obtain ⟨b1, b2⟩ := (fst_cons _ _).1 e1
  obtain ⟨b3, -⟩ := (fst_cons _ _).1 b2
  have b4 := (unl_zero (by decide)).1 b3
  simp at b4
  obtain ⟨c1, c2, c3⟩ := smsErr_ok b1
  refine ⟨⟨c2, by omega, c3, fun a ha => ?_⟩, ht⟩
  obtain ⟨k, hk⟩ := List.mem_iff_getElem?.1 ha
  have := eachS_ok _ st 0 a1 k a hk
  have := (unl_zero (by decide)).1 this
  simp [inR] at this
  omega
set_option maxHeartbeats 8000000 in
theorem c_CarriedBy (l : List Sm) (st : List Int) (t : Int) (Al As : Option Addr) (cl cs : Nat) (w : World) (hl : SmIn l Al cl w) (hs : Sl cI 1 w As st) (hsl : st.length ≤ 100000) :
    Calls Tryz.prog 22 #[.slice Al l.length cl, .slice As st.length cs, .int .i64 t] w (fun e w' => Below w.heap.size w w' ∧
      ((stE l st t ≠ 0 ∧ e = .returned (.tuple #[.slice none 0 0, .int .i64 (stE l st t)])) ∨
        (stE l st t = 0 ∧ ∃ A c, e = .returned (.tuple #[.slice A t.toNat c, .int .i64 0]) ∧ w'.ownsRow w.heap.size 3 1 (.slice A t.toNat c) t.toNat ((runS prioS l st t.toNat).2.map (.int .i64))))) := by
  have hop := Lib.hid (c_openSender l st t Al As cl cs w hl hs hsl)
  have hrun := Lib.hid fun (S Bw T : Nat) (W : World) (h0 : stE l st t = 0) (hT : t = T) (hb : Below w.heap.size w W) (h : Snd w.heap.size S Bw (.slice Al l.length cl) (.slice As st.length cs) l.length ⟨fun _ => none, fun _ => 0⟩ ss0 W) =>
    (c_run 69 prioS l st T Al As cl cs S Bw ⟨fun _ => none, fun _ => 0⟩ w W (stE_ok h0).1 (by have := (stE_ok h0).2; omega) hb hl.sl hs h (enters_of Tryz.func69 (by kernel_rfl) rfl)
      (fun Q s W' h' => c_byPriority h') prioS_cr)
  have hok := Lib.hid fun h0 => (stE_ok (l := l) (st := st) (t := t) h0).2
  clear hl hs
  generalize stE l st t = e3 at *
  generalize l.length = n at *
  generalize st.length = m at *
  go_enter Tryz.func22, Tryz.ntmps22
  go_wp2_with fail
  refine hop.out.mono ?_
  rintro e w1 ⟨hb1, ⟨h0, rfl⟩ | ⟨h0, S, Bw, rfl, hS⟩⟩
  · clear hrun hok hop
    go_wp2
    go_ret2
    exact ⟨hb1, .inl ⟨h0, rfl⟩⟩
  · subst h0
    obtain ⟨ht0, -⟩ := hok.out rfl
    obtain ⟨T, rfl⟩ : ∃ T : Nat, t = T := ⟨t.toNat, by omega⟩
    have hr := Lib.hid (hrun.out S Bw T w1 rfl rfl hb1 hS)
    have hft := Lib.hid hS.foot_ge
    clear hop hrun hok hS
    go_wp2_with fail
    refine hr.out.mono ?_
    rintro e w2 ⟨A, c, rfl, hown, Q', -, hx⟩
    have hb2 := bx_below hb1 hx (fun x hx => (hft.out x hx).1)
    replace hown := own_mono hb1.size hown
    clear hr hft hx
    go_wp2
    go_ret2
    exact ⟨hb2, A, c, rfl, hown⟩
end Go.Proofs.YtbdgblnccjpahaaGreatDoor
namespace Go.Proofs.YtbdgblnccjpahaaGreatDoor
open Go.RowKit Go.Shelf
attribute [local go_sem] bl_al bl_drew bl_drewN bl_refl bx_al bx_drew bx_drewN bx_refl
set_option maxRecDepth 20000
/-- Numbers in the middle of a block. -/
theorem Blk.sub {w : World} {g off : Nat} {t : TypeId} {cs : Array Value} {l : List Int} (h : Blk w g t cs) (hl : ∀ k x, l[k]? = some x → cs[off + k]? = some (.int .i64 x)) : Sl cI 1 w (some ⟨g, off, none⟩) l := fun k x hx =>
  ⟨g, off, rfl, fun j v hv => by
    have hj : j = 0 := by
      have := (List.getElem?_eq_some_iff.1 hv).1
      simp [cI] at this; omega
    subst hj
    have hv' : v = .int .i64 x := by simpa [cI] using hv.symm
    subst hv'
    rw [h.cell]
    simpa using hl k x hx⟩
set_option maxHeartbeats 4000000 in
theorem c_CheckMessage (m : Ms) (w : World) : Calls Tryz.prog 77 #[vMs m] w (Ret (.int .i64 (msE m)) w) := by
  have hr : Hid (msE m = fstE [unl ((inR m.src 0 15 && inR m.kind 0 3) && byteB m.num) 2, bytesE [m.d0, m.d1, m.d2, m.d3]]) := rfl
  obtain ⟨m0, m1, m2, m3, m4, m5, m6⟩ := m
  dsimp only at hr
  cases hA : inR m0 0 15
  all_goals cases hB : inR m2 0 3
  all_goals
    rw [hA, hB] at hr
    simp only [Bool.false_and, Bool.true_and] at hr
    go_enter Tryz.func77, Tryz.ntmps77
    go_upto_region 2 with (first | (go_at_call 71; (with_reducible refine (c_within _ _ _ _).mono ?_); rintro e w3 ⟨rfl, rfl⟩) | (go_at_call 130; (with_reducible refine (c_isByte _ _).mono ?_); rintro e w3 ⟨rfl, rfl⟩))
    first
    | apply absB1 (w0 := w) (g0 := w.heap.size)
    | apply absTB1 (w0 := w) (g0 := w.heap.size)
    | apply absIB1 (w0 := w) (g0 := w.heap.size)
    iterate 2 (focus exact zL)
    try clear hb3
    try clear hb0
    try clear k0
    intro wa hb0 k0
    (try simp only [List.setIfInBounds_toArray, List.set_cons_zero, List.set_cons_succ] at k0)
    have Lk0 := k0.later
    have Fk0 := k0.laterF
    have Qk0 := k0.lt
    have hcb : Hid (∀ W : World, Below wa.heap.size wa W → Calls Tryz.prog 80 #[.slice (some ⟨w.heap.size, 3, none⟩) 4 4] W (Ret (.int .i64 (bytesE [m3, m4, m5, m6])) W)) := fun (W : World) (hb : Below wa.heap.size wa W) => c_bytesErr [m3, m4, m5, m6] (some ⟨w.heap.size, 3, none⟩) 4 W (by simp) ((k0.sub (l := [m3, m4, m5, m6]) (fun k x hx => by match k, hx with | 0, hx | 1, hx | 2, hx | 3, hx => simpa using hx)).below hb)
    refine wp_any (w0 := wa) ⟨[], [], [some 17, some 18, some 19, some 20, some 21, some 22, some 23, some 2], [[], [0], [], [2], [0, 1, 2, 3], [0, 1, 2, 3, 4], [0, 1, 2, 3, 4, 5], [0, 1, 2, 3, 4, 5, 6]], [[], [0], [], [2], [3], [1, 4], [5], [5, 6]]⟩ (fun _ => []) (by kernel_rfl) (by kernel_rfl) (by (exact zE)) (fun u => by simp only [putD, Act.put, List.setIfInBounds_toArray, List.set_cons_zero, List.set_cons_succ, Nat.zero_add, Nat.reduceAdd]; rfl) ?_
    apply RGW.on (i := 0) rfl
    · exact zG
    · intro γ u W hcur hd
      clear hd
      (try dsimp only)
      exact ⟨rfl, zS⟩
    · exact zC
    · rfl
    dsimp only [nA, cA]
    apply RGW.call (i := 1) rfl
    · exact zG
    · intro γ u W hcur hd
      obtain ⟨⟨h0, -, -⟩, -⟩ := hd
      dsimp only at h0
      (try simp only [h0])
      refine ⟨rfl, fun K hK => ?_⟩
      go_simp
      first
      | (go_at_call 58; (with_reducible refine (c_unless _ _ _).mono ?_); rintro e w3 ⟨rfl, rfl⟩)
      | (go_at_call 80; (with_reducible refine (hcb.out _ (by (exact zE))).mono ?_); rintro e w3 ⟨rfl, hb3⟩; replace hb3 := bl_tt hb3)
      | (go_at_call 74; (with_reducible refine (c_first2 (by (exact zK))).mono ?_); rintro e w3 ⟨rfl, rfl⟩)
      (try dsimp only)
      exact hK.out _ _ rfl (by (exact zE))
    · exact zC
    · rfl
    dsimp only [nA, cA]
    apply RGW.on (i := 2) rfl
    · exact zG
    · intro γ u W hcur hd
      clear hd
      (try dsimp only)
      exact ⟨rfl, zS⟩
    · exact zC
    · rfl
    dsimp only [nA, cA]
    apply RGW.on (i := 3) rfl
    · exact zG
    · intro γ u W hcur hd
      obtain ⟨⟨h2, -, -⟩, -⟩ := hd
      dsimp only at h2
      (try simp only [h2])
      exact ⟨rfl, zS⟩
    · exact zC
    · rfl
    dsimp only [nA, cA]
    apply RGW.call (i := 4) rfl
    · exact zG
    · intro γ u W hcur hd
      obtain ⟨⟨h3, -, -⟩, -⟩ := hd
      dsimp only at h3
      (try simp only [h3])
      refine ⟨rfl, fun K hK => ?_⟩
      go_simp
      first
      | (go_at_call 58; (with_reducible refine (c_unless _ _ _).mono ?_); rintro e w3 ⟨rfl, rfl⟩)
      | (go_at_call 80; (with_reducible refine (hcb.out _ (by (exact zE))).mono ?_); rintro e w3 ⟨rfl, hb3⟩; replace hb3 := bl_tt hb3)
      | (go_at_call 74; (with_reducible refine (c_first2 (by (exact zK))).mono ?_); rintro e w3 ⟨rfl, rfl⟩)
      (try dsimp only)
      exact hK.out _ _ rfl (by (exact zE))
    · exact zC
    · rfl
    dsimp only [nA, cA]
    apply RGW.bslice (i := 5) rfl
    · exact zG
    · intro γ u W hcur hd
      obtain ⟨⟨h1, -, -⟩, ⟨h4, -, -⟩, -⟩ := hd
      dsimp only at h1 h4
      (try simp only [h1, h4])
      refine ⟨rfl, fun K hK => ?_⟩
      go_simp
      exact hK.out _ _ rfl rfl
    · exact zC
    · rfl
    · rfl
    dsimp only [nA, cA]
    apply RGW.call (i := 6) rfl
    · exact zG
    · intro γ u W hcur hd
      obtain ⟨⟨h5, r5, -⟩, -⟩ := hd
      dsimp only at h5 r5
      have L5 := r5.cell
      (try simp only [h5])
      refine ⟨rfl, fun K hK => ?_⟩
      go_simp
      first
      | (go_at_call 58; (with_reducible refine (c_unless _ _ _).mono ?_); rintro e w3 ⟨rfl, rfl⟩)
      | (go_at_call 80; (with_reducible refine (hcb.out _ (by (exact zE))).mono ?_); rintro e w3 ⟨rfl, hb3⟩; replace hb3 := bl_tt hb3)
      | (go_at_call 74; (with_reducible refine (c_first2 (by (exact zK))).mono ?_); rintro e w3 ⟨rfl, rfl⟩)
      (try dsimp only)
      exact hK.out _ _ rfl (by (exact zE))
    · first
      | exact zC
      | intro γ γ' hg
        try dsimp only
        have e5 := hg 5 (by decide)
        simp only [e5]
    · rfl
    dsimp only [nA, cA]
    apply RGW.on (i := 7) rfl
    · exact zG
    · intro γ u W hcur hd
      obtain ⟨⟨h5, r5, -⟩, ⟨h6, -, -⟩, -⟩ := hd
      dsimp only at h5 h6 r5
      have L5 := r5.cell
      (try simp only [h5, h6])
      exact ⟨rfl, zS⟩
    · first
      | exact zC
      | intro γ γ' hg
        try dsimp only
        have e5 := hg 5 (by decide)
        simp only [e5]
    · rfl
    dsimp only [nA, cA]
    refine RGW.fin (fun γ u wb hwb hd hdis => ?_)
    obtain ⟨⟨h0, -, -⟩, ⟨h1, -, -⟩, ⟨h2, -, -⟩, ⟨h3, -, -⟩, ⟨h4, -, -⟩, ⟨h5, r5, b5⟩, ⟨h6, -, -⟩, ⟨h7, -, -⟩, -⟩ := hd
    dsimp only at h0 h1 h2 h3 h4 h5 h6 h7 r5 b5
    clear hdis
    simp only [h0, h1, h2, h3, h4, h5, h6, h7]
    clear h7 h6 h5 h4 h3 h2 h1 h0
    replace b5 := b5 _ (List.mem_singleton.2 rfl)
    generalize hγ5 : (γ 5).n = g5 at *
    clear hγ5
    clear u
    simp only [List.map_nil]
    refine PlanW.done ?_
    have hb3 := bl_tt hwb
    go_wp2
    go_ret
    exact ⟨by rw [hr.out] <;> rfl, by (exact zE)⟩
end Go.Proofs.YtbdgblnccjpahaaGreatDoor
namespace Go.Proofs.YtbdgblnccjpahaaGreatDoor
open Go.RowKit Go.Shelf
attribute [local go_sem] bl_al bl_drew bl_drewN bl_refl bx_al bx_drew bx_drewN bx_refl
set_option maxRecDepth 20000
theorem ms_ok {m : Ms} (h : msE m = 0) : ∀ n ∈ [m.src, m.num, m.kind, m.d0, m.d1, m.d2, m.d3], 0 ≤ n ∧ n ≤ 255 := by
  unfold msE at h
  simp only [fst_cons] at h
  obtain ⟨h1, h2, -⟩ := h
  rw [unl_zero (by decide)] at h1
  simp only [Bool.and_eq_true, byteB, inR_iff] at h1
  have hd := bytes_ok h2
  simp only [List.mem_cons, List.not_mem_nil, or_false, forall_eq_or_imp, forall_eq] at hd ⊢
  omega
set_option maxHeartbeats 4000000 in
theorem c_Encoded (m : Ms) (w : World) : Calls Tryz.prog 25 #[vMs m] w (Ret (.tuple #[vFr (encS m).1, .int .i64 (encS m).2]) w) := by
  have hcm := Lib.hid fun (W : World) => c_CheckMessage m W
  have h1 : Hid (msE m ≠ 0 → encS m = (fr0, msE m)) := fun h => by rw [encS, if_neg h]
  have h2 : Hid (msE m = 0 → encS m = (frameOf m, 0)) := fun h => by rw [encS, if_pos h]
  have hb := Lib.hid fun h : msE m = 0 => ms_ok h
  have hfr : Hid (frameOf m = ⟨m.src, m.num, m.kind, m.d0, m.d1, m.d2, m.d3, remI [m.src, m.num, m.kind, m.d0, m.d1, m.d2, m.d3]⟩) := rfl
  go_enter Tryz.func25, Tryz.ntmps25
  go_wp2_with fail
  refine (hcm.out _).mono ?_
  rintro e w3 ⟨rfl, hb3⟩
  replace hb3 := bl_tt hb3
  apply absX2 (w0 := w) (w := w3) (g0 := w.heap.size) (g1 := w.heap.size + 1)
  iterate 3 (focus exact zL)
  try clear hb3
  try clear hb0
  try clear k0
  try clear k1
  intro wa hb0 k0 k1
  (try simp only [List.setIfInBounds_toArray, List.set_cons_zero, List.set_cons_succ] at k0 k1)
  have Lk0 := k0.later
  have Fk0 := k0.laterF
  have Qk0 := k0.lt
  have Lk1 := k1.later
  have Fk1 := k1.laterF
  have Qk1 := k1.lt
  have hq1 := k1.lt
  clear hcm
  by_cases h0 : msE m = 0
  · have h0' : (msE m != 0) = false := by simp [h0]
    have hs := Lib.hid (h2.out h0)
    have hbd := Lib.hid (hb.out h0)
    replace h0 := Lib.hid h0
    clear h1 h2 hb
    go_upto_region 5 with fail
    first
    | apply absB3 (w0 := w) (g0 := w.heap.size) (g1 := w.heap.size + 1) (g2 := wa.heap.size)
    | apply absTB3 (w0 := w) (g0 := w.heap.size) (g1 := w.heap.size + 1) (g2 := wa.heap.size)
    | apply absIB3 (w0 := w) (g0 := w.heap.size) (g1 := w.heap.size + 1) (g2 := wa.heap.size)
    iterate 4 (focus exact zL)
    try clear hb3
    try clear Lk0
    try clear Fk0
    try clear Qk0
    try clear Lk1
    try clear Fk1
    try clear Qk1
    try clear hb0
    try clear k0
    try clear k1
    try clear k2
    intro wb hb0 k0 k1 k2
    (try simp only [List.setIfInBounds_toArray, List.set_cons_zero, List.set_cons_succ] at k0 k1 k2)
    have Lk0 := k0.later
    have Fk0 := k0.laterF
    have Qk0 := k0.lt
    have Lk1 := k1.later
    have Fk1 := k1.laterF
    have Qk1 := k1.lt
    have Lk2 := k2.later
    have Fk2 := k2.laterF
    have Qk2 := k2.lt
    have hcp := run_copy_row (P := Tryz.prog) wb.drew 23 23 3 3 wa.heap.size 3 4 5 ⟨w.heap.size, 3, none⟩ 4 4 _ _ [.int .i64 m.d0, .int .i64 m.d1, .int .i64 m.d2, .int .i64 m.d3] Tryz.underlying23 (by kernel_rfl) (Blk.drew k2) rfl
      (fun j v hj => by
        have hc := (Blk.drew k0).cell
        match j, hj with
        | 0, hj | 1, hj | 2, hj | 3, hj =>
          simp only [List.getElem?_cons_zero, List.getElem?_cons_succ] at hj
          rw [← hj, Go.WideShapes.add_plain, hc]
          rfl) (by simp) (by simp [Value.oneCell'])
    simp only [List.take, List.drop, List.length_cons, List.length_nil, List.cons_append, List.nil_append, Nat.reduceAdd] at hcp
    go_region
    clear hcp
    have k2' := Blk.row (Blk.drew k2) #[.int .i64 m.src, .int .i64 m.num, .int .i64 m.kind, .int .i64 m.d0, .int .i64 m.d1, .int .i64 m.d2, .int .i64 m.d3, .int .i64 0]
    have hbr : Below w.heap.size w (wb.drew.setRow wa.heap.size #[.int .i64 m.src, .int .i64 m.num, .int .i64 m.kind, .int .i64 m.d0, .int .i64 m.d1, .int .i64 m.d2, .int .i64 m.d3, .int .i64 0]) := below_setRow (bl_drew hb0) (by omega) _
    have k1' := Blk.rowOther (Blk.drew k1) (show w.heap.size + 1 ≠ wa.heap.size by omega) #[.int .i64 m.src, .int .i64 m.num, .int .i64 m.kind, .int .i64 m.d0, .int .i64 m.d1, .int .i64 m.d2, .int .i64 m.d3, .int .i64 0]
    generalize wb.drew.setRow wa.heap.size _ = wc at *
    clear Lk0 Lk1 Lk2 Fk0 Fk1 Fk2 hb0 k0 k1 k2
    apply absX2 (w0 := w) (w := wc) (g0 := w.heap.size + 1) (g1 := wa.heap.size)
    iterate 3 (focus exact zL)
    try clear hb3
    try clear hb0
    try clear k1'
    try clear k2'
    intro wd hb0 k1' k2'
    (try simp only [List.setIfInBounds_toArray, List.set_cons_zero, List.set_cons_succ] at k1' k2')
    have Lk1' := k1'.later
    have Fk1' := k1'.laterF
    have Qk1' := k1'.lt
    have Lk2' := k2'.later
    have Fk2' := k2'.laterF
    have Qk2' := k2'.lt
    have hrm : Hid (Calls Tryz.prog 78 #[.slice (some ⟨wa.heap.size, 0, none⟩) 7 8] wd (Same (.int .i64 (remI [m.src, m.num, m.kind, m.d0, m.d1, m.d2, m.d3] : Nat)) wd)) :=
      c_remainder [m.src, m.num, m.kind, m.d0, m.d1, m.d2, m.d3] (some ⟨wa.heap.size, 0, none⟩) 8 wd (by simp) hbd.out (k2'.sub (l := [m.src, m.num, m.kind, m.d0, m.d1, m.d2, m.d3]) (fun k x hx => by match k, hx with | 0, hx | 1, hx | 2, hx | 3, hx | 4, hx | 5, hx | 6, hx => simpa using hx))
    go_wp2_with (go_at_call 78; (with_reducible refine hrm.out.mono ?_); rintro e w4 ⟨rfl, rfl⟩)
    first
    | apply absPB2 (w0 := w) (g0 := w.heap.size + 1) (g1 := wa.heap.size)
    | apply absPMB2 (w0 := w) (g0 := w.heap.size + 1) (g1 := wa.heap.size)
    iterate 3 (focus exact zL)
    try clear hb3
    try clear Lk1'
    try clear Fk1'
    try clear Qk1'
    try clear Lk2'
    try clear Fk2'
    try clear Qk2'
    try clear hb0
    try clear k1'
    try clear k2'
    intro wz hb0 k1' k2'
    (try simp only [List.setIfInBounds_toArray, List.set_cons_zero, List.set_cons_succ] at k1' k2')
    have hr := k1'.cell
    exact bodyPost_ret (v := .tuple #[vFr (frameOf m), .int .i64 0]) (by simp [results, Tryz.results25, go_sem, hr, hfr.out]) rfl ⟨by rw [hs.out] <;> rfl, hb0⟩
  · have h0' : (msE m != 0) = true := by simp [h0]
    have hs := Lib.hid (h1.out h0)
    replace h0 := Lib.hid h0
    clear h1 h2 hb
    go_wp2
    first
    | apply absPB1 (w0 := w) (g0 := w.heap.size + 1)
    | apply absPMB1 (w0 := w) (g0 := w.heap.size + 1)
    iterate 2 (focus exact zL)
    try clear hb3
    try clear hb0
    try clear k1
    intro wz hb0 k1
    (try simp only [List.setIfInBounds_toArray, List.set_cons_zero, List.set_cons_succ] at k1)
    have hr := k1.cell
    exact bodyPost_ret (v := .tuple #[vFr fr0, .int .i64 (msE m)]) (by simp [results, Tryz.results25, go_sem, hr, fr0]) rfl ⟨by rw [hs.out] <;> rfl, hb0⟩
end Go.Proofs.YtbdgblnccjpahaaGreatDoor
