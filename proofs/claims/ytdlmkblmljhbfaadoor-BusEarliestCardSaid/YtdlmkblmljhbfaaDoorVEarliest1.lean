/-
  Walks: which streams are late; the worst responses.
  Plain laws: what the law on streams that are never late asks of responses and of what is carried.
  Walk: the reference's names.
  Walks: streams by the reference: few, copied, valid.
  Walks: the reference's remainder of a division, and whether a list has a number.
  Walks: the error of starts by the reference; a copy of streams of which one is made longer.
  Plain: starts that are all zero; the limits of a law on starts.
  Walk: a sender's tick, by a chooser that knows the streams. (Printed by gen_earl.py.)
  Walk: a sender's run, by a chooser that knows the streams. (Printed by gen_earl.py.)
  Walks: the stream with the earliest deadline; what is carried by it.
  Plain law: the reference's messages, one list, and the sender's queues carry alike.
-/
import Derived.Test.YtdlmkblmljhbfaaDoorU5
import Derived.Test.YtdlmkblmljhbfaaDoorU2
import Derived.Test.YtdlmkblmljhbfaaDoorU1
import Derived.Test.YtdlmkblmljhbfaaDoorU6
import Derived.Test.YtdlmkblmljhbfaaDoorU4
namespace Go.Proofs.YtdlmkblmljhbfaaDoor
set_option linter.unusedSimpArgs false
set_option linter.unusedVariables false
open Go.RowKit Go.Shelf
attribute [local go_sem] bl_al bl_drew bl_drewN bl_refl bx_al bx_drew bx_drewN bx_refl
set_option maxRecDepth 20000
/-- Whether a stream is late behind others. -/
def lateB (b : List Sm) (s : Sm) : Bool := !(respV (respS b s)).2 || decide (s.dl < (respV (respS b s)).1)
def lateAt (l : List Sm) (i : Nat) : Bool := match l[i]? with
  | some s => lateB (l.take i) s
  | none => false
def lateK (l : List Sm) : Nat → List Int
  | 0 => []
  | k + 1 => lateK l k ++ if lateAt l k then [(k : Int)] else []
theorem lateK_len (l : List Sm) : ∀ k, (lateK l k).length ≤ k
  | 0 => Nat.le_refl 0
  | k + 1 => by
    have := lateK_len l k
    rw [lateK, List.length_append]
    split <;> simp <;> omega
theorem c_isLate (l : List Sm) (s : Sm) (A : Option Addr) (c : Nat) (w : World) (hs : Sl cSm 4 w A l) (hl : l.length ≤ 1000) (hok : ∀ o ∈ l, OkSm o) (h1 : OkSm s) :
    Calls Tryd.prog 99 #[.slice A l.length c, vSm s] w (Ret (.bool (lateB l s)) w) := by
  have hr := Lib.hid fun W (hb : Below w.heap.size w W) => c_response l s A c W (hs.below hb) hl hok h1
  have hL : Hid (lateB l s = (!(respV (respS l s)).2 || decide (s.dl < (respV (respS l s)).1))) := rfl
  clear hs hok h1
  generalize respV (respS l s) = R at *
  obtain ⟨r, ok⟩ := R
  obtain ⟨nm, per, dl, ln⟩ := s
  dsimp only at *
  generalize l.length = n at *
  go_enter Tryd.func99, Tryd.ntmps99
  go_upto_region 1 with fail
  first
  | apply absB1 (w0 := w) (g0 := w.heap.size)
  | apply absTB1 (w0 := w) (g0 := w.heap.size)
  | apply absIB1 (w0 := w) (g0 := w.heap.size)
  iterate 2 (focus ((with_reducible (repeat' (first | assumption | apply jA | apply jB | apply jC | apply jD | apply jE | apply jF | apply hb3 | apply jG | apply jH | apply jI | apply jJ | apply jK | apply hb3x | (apply jL; first | (simp; done) | rfl) | apply jM | apply jN | apply jO | apply jP | apply jQ | apply jR | apply jS | apply jT (hb := hb3 _ (jA _)) | omega | (simp; done) | (simp; omega) | (dsimp only; omega)))); done))
  intro wa hb0' k0'
  (try simp only [List.setIfInBounds_toArray, List.set_cons_zero, List.set_cons_succ] at k0')
  try clear hb3
  try clear hb0
  try clear k0
  have hb0 := hb0'; clear hb0'
  have k0 := k0'; clear k0'
  have L0 := k0.cell
  go_wp2_with fail
  refine (hr.out wa hb0).mono ?_
  rintro e wb ⟨rfl, hb1⟩
  replace hb0 := bl_tr hb0 hb1
  replace k0 := k0.below hb1
  clear L0 hb1 hr
  have L0 := k0.cell
  cases ok
  · go_wp2
    go_ret
    exact ⟨by rw [hL.out] <;> rfl, hb0⟩
  · go_wp2
    go_ret
    exact ⟨by rw [hL.out] <;> rfl, hb0⟩
set_option maxHeartbeats 4000000 in
theorem c_LateIn (l : List Sm) (A : Option Addr) (c : Nat) (w : World) (hn : SmIn l A c w) :
    Calls Tryd.prog 45 #[.slice A l.length c] w (fun e w' => Below w.heap.size w w' ∧ ((smsErr l ≠ 0 ∧ e = .returned (.tuple #[.slice none 0 0, .int .i64 (smsErr l)])) ∨
      (smsErr l = 0 ∧ ∃ A2 c2, e = .returned (.tuple #[.slice A2 (lateK l l.length).length c2, .int .i64 0]) ∧ Sl cI 1 w' A2 (lateK l l.length)))) := by
  obtain ⟨i0, hi, hz0, hz1, hz2⟩ := info_parts infoI
  have hse := Lib.hid (c_streamsErr l A c w hn)
  have hok := Lib.hid fun h : smsErr l = 0 => sms_ok h
  have Hs := Lib.hid hn.sl
  have hcap := hn.cap
  have hil := Lib.hid fun (h : smsErr l = 0) (k : Nat) (x : Sm) (hx : l[k]? = some x) W (hb : Below w.heap.size w W) => (show Calls Tryd.prog 99 #[.slice A k c, vSm x] W (Ret (.bool (lateAt l k)) W) by
    have hk := (List.getElem?_eq_some_iff.1 hx).1
    have hm := List.mem_of_getElem? hx
    have := c_isLate (l.take k) x A c W ((hn.sl.below hb).take k) (by have := hn.len; rw [List.length_take]; omega) (fun o ho => ((sms_ok h).2.2 o (List.mem_of_mem_take ho)).1) ((sms_ok h).2.2 x hm).1
    rw [List.length_take, Nat.min_eq_left (by omega)] at this
    have e : lateAt l k = lateB (l.take k) x := by simp [lateAt, hx]
    rw [e]
    exact this)
  have hst : Hid (∀ k, lateK l (k + 1) = lateK l k ++ if lateAt l k then [(k : Int)] else []) := fun _ => rfl
  have hlen := Lib.hid (lateK_len l)
  have hz : Hid (lateK l 0 = []) := rfl
  clear hn
  obtain ⟨g, hg⟩ : ∃ g : Nat → List Int, ∀ k, lateK l k = g k := ⟨_, fun _ => rfl⟩
  obtain ⟨la, hla⟩ : ∃ la : Nat → Bool, ∀ k, lateAt l k = la k := ⟨_, fun _ => rfl⟩
  simp only [hg, hla] at hst hlen hz hil ⊢
  clear hg hla
  generalize smsErr l = E at *
  obtain ⟨n, Hn⟩ : ∃ n, Hid (l.length = n) := ⟨_, rfl⟩
  rw [Hn.out] at hse hok hcap ⊢
  go_enter Tryd.func45, Tryd.ntmps45
  go_wp2_with fail
  refine hse.out.mono ?_
  rintro e wa ⟨rfl, hb0⟩
  by_cases h0 : E = 0
  rotate_left
  · have h0' : (E != 0) = true := by simp [h0]
    replace h0 := Lib.hid h0
    go_wp2
    go_ret2
    exact ⟨hb0, .inl ⟨h0.out, rfl⟩⟩
  obtain ⟨hn1, hn6, -⟩ := hok.out h0
  have hil' := Lib.hid (hil.out h0)
  have h0' : (E != 0) = false := by simp [h0]
  replace h0 := Lib.hid h0
  clear hse hok hil
  go_wp2
  go_loopw [5, 15] (fun o i wr => ∃ k : Nat, k ≤ n ∧ i = .int .i64 k ∧ Below w.heap.size w wr ∧ wr.ownsRow w.heap.size 3 1 o (g k).length ((g k).map (.int .i64))) (fun _ i _ => n - (intOf i).toNat)
  case atStart => exact ⟨0, Nat.zero_le _, rfl, hb0, by rw [hz.out]; exact World.ownsRow_nil _ _ _ _⟩
  case round =>
    clear hb0
    obtain ⟨k, hk, rfl, hb0, ho⟩ := hrel
    replace ho := Lib.hid ho
    by_cases hkn : k < n
    · have hx : l[k]? = some (l[k]'(by rw [Hn.out]; exact hkn)) := List.getElem?_eq_getElem _
      generalize l[k]'(by rw [Hn.out]; exact hkn) = x at hx
      have hcall := Lib.hid (hil'.out k x hx)
      have hs := Lib.hid (hst.out k)
      obtain ⟨b, off, rfl, hc⟩ := (Hs.out.below hb0) k x hx
      have c0 := hc 0 _ rfl
      have c1 := hc 1 _ rfl
      have c2 := hc 2 _ rfl
      have c3 := hc 3 _ rfl
      simp only [Nat.add_zero] at c0
      clear hc hx
      obtain ⟨xn, xp, xd, xl⟩ := x
      dsimp only at *
      generalize la k = lk at *
      have hqw := hb0.size
      have hgl := hlen.out k
      have hkc : k ≤ c := by omega
      go_upto_region 8 with fail
      have hbm : Below wr.heap.size wr (wr.alloc (.cells #[.string xn, .int .i64 xp, .int .i64 xd, .int .i64 xl] 82)) := bl_al _ (bl_refl wr)
      replace ho := Lib.hid (own_below ho.out hbm)
      have k1 := Blk.new wr 82 #[.string xn, .int .i64 xp, .int .i64 xd, .int .i64 xl]
      replace hb0 := bl_tr hb0 hbm
      clear hbm c0 c1 c2 c3
      generalize wr.alloc (.cells #[.string xn, .int .i64 xp, .int .i64 xd, .int .i64 xl] 82) = wb at *
      have Lk1 := k1.later
      have Fk1 := k1.laterF
      have Qk1 := k1.lt
      refine wp_any (w0 := wb) ⟨[], [], [some 20, some 21, some 22, some 23, some 24], [[], [], [0, 1], [], [0, 1, 2, 3]], [[], [], [0, 1], [], [2, 3]]⟩ (fun _ => []) (by kernel_rfl) (by kernel_rfl) (by (with_reducible (repeat' (first | assumption | apply jA | apply jB | apply jC | apply jD | apply jE | apply jF | apply hb3 | omega | (simp; done) | (simp; omega) | (dsimp only; omega))))) (fun u => by simp only [putD, Act.put, List.setIfInBounds_toArray, List.set_cons_zero, List.set_cons_succ, Nat.zero_add, Nat.reduceAdd]; rfl) ?_
      apply RGW.on (i := 0) rfl
      · (simp only [gA, gB, gC] <;> rfl)
      · intro γ u W hcur hd
        clear hd
        (try dsimp only)
        refine ⟨rfl, ?_⟩
        go_simp <;> (try go_bits) <;> with_reducible rfl
      · exact fun _ _ _ => rfl
      · rfl
      dsimp only [nA, cA]
      apply RGW.on (i := 1) rfl
      · (simp only [gA, gB, gC] <;> rfl)
      · intro γ u W hcur hd
        clear hd
        (try dsimp only)
        refine ⟨rfl, ?_⟩
        go_simp <;> (try go_bits) <;> with_reducible rfl
      · exact fun _ _ _ => rfl
      · rfl
      dsimp only [nA, cA]
      apply RGW.on (i := 2) rfl
      · (simp only [gA, gB, gC] <;> rfl)
      · intro γ u W hcur hd
        obtain ⟨⟨h0, -, -⟩, ⟨h1, -, -⟩, -⟩ := hd
        dsimp only at h0 h1
        (try simp only [h0, h1])
        refine ⟨rfl, ?_⟩
        go_simp <;> (try go_bits) <;> with_reducible rfl
      · exact fun _ _ _ => rfl
      · rfl
      dsimp only [nA, cA]
      apply RGW.on (i := 3) rfl
      · (simp only [gA, gB, gC] <;> rfl)
      · intro γ u W hcur hd
        clear hd
        (try dsimp only)
        refine ⟨rfl, ?_⟩
        go_simp <;> (try go_bits) <;> with_reducible rfl
      · exact fun _ _ _ => rfl
      · rfl
      dsimp only [nA, cA]
      apply RGW.call (i := 4) rfl
      · (simp only [gA, gB, gC] <;> rfl)
      · intro γ u W hcur hd
        obtain ⟨⟨h2, -, -⟩, ⟨h3, -, -⟩, -⟩ := hd
        dsimp only at h2 h3
        (try simp only [h2, h3])
        refine ⟨rfl, fun K hK => ?_⟩
        go_simp
        (go_at_call 99; (with_reducible refine (hcall.out _ (bl_tr hb0 (by (with_reducible (repeat' (first | assumption | apply jA | apply jB | apply jC | apply jD | apply jE | apply jF | apply hb3 | omega | (simp; done) | (simp; omega) | (dsimp only; omega))))))).mono ?_); rintro e w3 ⟨rfl, hb3⟩; replace hb3 := bl_tt hb3)
        (try dsimp only)
        exact hK.out _ _ rfl (by (with_reducible (repeat' (first | assumption | apply jA | apply jB | apply jC | apply jD | apply jE | apply jF | apply hb3 | omega | (simp; done) | (simp; omega) | (dsimp only; omega)))))
      · exact fun _ _ _ => rfl
      · rfl
      dsimp only [nA, cA]
      refine RGW.fin (fun γ u wc hwc hd hdis => ?_)
      obtain ⟨⟨h0, -, -⟩, ⟨h1, -, -⟩, ⟨h2, -, -⟩, ⟨h3, -, -⟩, ⟨h4, -, -⟩, -⟩ := hd
      dsimp only at h0 h1 h2 h3 h4
      clear hdis
      simp only [h0, h1, h2, h3, h4]
      clear h4 h3 h2 h1 h0
      clear u
      simp only [List.map_nil]
      refine PlanW.done ?_
      have hb3 := bl_tt hwc
      replace ho := Lib.hid (own_below ho.out hwc)
      replace hb0 := bl_tr hb0 hwc
      clear hb3 hwc Lk1 Fk1 k1 hcall
      cases lk
      · have e2 := Lib.hid (show g (k + 1) = g k by rw [hs.out]; simp)
        go_wp2
        go_roundw
        case rel => exact ⟨k + 1, by omega, by go_num, hb0, by rw [e2.out]; exact ho.out⟩
        case measure => simp [intOf] <;> omega
      · have e2 := Lib.hid (show g (k + 1) = g k ++ [(k : Int)] by rw [hs.out]; simp)
        have hsz := hb0.size
        go_wp2_with (at_builtin; refine wpList_append_own _ rfl _ _ 22 rfl w.heap.size 3 i0 (.int .i64 0) 1 8 Tryd.underlying22 hi hz0 hz1 hz2 rfl (by decide) _ _ _ rfl (ho.out.alloc _) ⟨wc.heap.size, 0, none⟩ 1 1 [.int .i64 k] rfl rfl ?q1 ?q2 ?q3 ?q4 ?q5 ?_)
        case q2 => rfl
        case q3 => unfold maxLen; omega
        case q4 => omega
        case q5 => omega
        intro v' w1 hown' hgrow _
        have hb1 : Below w.heap.size w w1 := (bl_al _ hb0).grown hgrow (by simp; omega) (own_ge ho.out)
        clear hgrow
        replace hown' := Lib.hid hown'
        go_wp2
        go_roundw
        case rel => exact ⟨k + 1, by omega, by go_num, hb1, by rw [e2.out]; simpa using hown'.out⟩
        case measure => simp [intOf] <;> omega
    · have e : k = n := by omega
      rw [e] at ho
      obtain ⟨A', c', e2⟩ := own_slice ho.out
      subst e2
      clear e
      go_wp2
      go_ret2
      exact ⟨hb0, .inr ⟨h0.out, A', c', rfl, own_sl ho.out⟩⟩
set_option maxHeartbeats 4000000 in
theorem c_WorstFrom (l : List Sm) (st : List Int) (t : Int) (Al As : Option Addr) (cl cs : Nat) (w : World) (hl : SmIn l Al cl w) (hs : Sl cI 1 w As st) (hsl : st.length ≤ 100000) :
    Calls Tryd.prog 43 #[.slice Al l.length cl, .slice As st.length cs, .int .i64 t] w (fun e w' => Below w.heap.size w w' ∧
      ((stE l st t ≠ 0 ∧ e = .returned (.tuple #[.slice none 0 0, .int .i64 (stE l st t)])) ∨
        (stE l st t = 0 ∧ ∃ A, e = .returned (.tuple #[.slice A l.length l.length, .int .i64 0]) ∧ Sl cI 1 w' A ((List.range l.length).map (runS prioS l st t.toNat).1.wo)))) := by
  have hop := Lib.hid (c_openSender l st t Al As cl cs w hl hs hsl)
  have hrun := Lib.hid fun (S Bw T : Nat) (W : World) (h0 : stE l st t = 0) (hT : t = T) (hb : Below w.heap.size w W) (h : Snd w.heap.size S Bw (.slice Al l.length cl) (.slice As st.length cs) l.length ⟨fun _ => none, fun _ => 0⟩ ss0 W) =>
    (c_run 97 prioS l st T Al As cl cs S Bw ⟨fun _ => none, fun _ => 0⟩ w W (stE_ok h0).1 (by have := (stE_ok h0).2; omega) hb hl.sl hs h (enters_of Tryd.func97 (by kernel_rfl) rfl)
      (fun Q s W' h' => c_byPriority h') prioS_cr)
  have hok := Lib.hid fun h0 => (stE_ok (l := l) (st := st) (t := t) h0).2
  clear hl hs
  generalize stE l st t = e3 at *
  generalize l.length = n at *
  generalize st.length = m at *
  go_enter Tryd.func43, Tryd.ntmps43
  go_wp2_with fail
  refine hop.out.mono ?_
  rintro e w1 ⟨hb1, ⟨h0, rfl⟩ | ⟨h0, S, Bw, rfl, hS⟩⟩
  · clear hrun hok hop
    go_wp2
    go_ret2
    exact ⟨hb1, .inl ⟨h0, rfl⟩⟩
  · obtain ⟨ht0, -⟩ := hok.out h0
    obtain ⟨T, rfl⟩ : ∃ T : Nat, t = T := ⟨t.toNat, by omega⟩
    have hr := Lib.hid (hrun.out S Bw T w1 h0 rfl hb1 hS)
    have hft := Lib.hid hS.foot_ge
    replace h0 := Lib.hid h0
    clear hop hrun hok hS
    go_wp2_with fail
    refine hr.out.mono ?_
    rintro e w2 ⟨A, c, rfl, hown, Q', hS2, hx⟩
    have hb2 := bx_below hb1 hx (fun x hx => (hft.out x hx).1)
    have LS : w2.cell? ⟨S, 8, none⟩ = some (.slice (some ⟨Bw, 0, none⟩) n n) := by rw [hS2.blk.cell]; rfl
    have hwo := hS2.wor
    have hsl2 : Hid (Sl cI 1 w2 (some ⟨Bw, 0, none⟩) ((List.range n).map (runS prioS l st T).1.wo)) := Lib.hid (Blk.ints (l := (List.range n).map (runS prioS l st T).1.wo) (by
      rw [List.map_map]
      exact hwo))
    clear hr hft hx hS2 hwo hown
    go_wp2
    go_ret2
    exact ⟨hb2, .inr ⟨h0.out, _, rfl, hsl2.out⟩⟩
/-- The error of starts and ticks behind valid streams. -/
def stE0 (l : List Sm) (st : List Int) (t : Int) : Int := fstE [unl (decide ((st.length : Int) = l.length)) 10, (eachS (fun _ n => unl (inR n 0 400) 2) st 0).2, unl (inR t 0 400) 2]
theorem stE_eq0 {l : List Sm} {st : List Int} {t : Int} (h : smsErr l = 0) : stE l st t = stE0 l st t := by
  unfold stE stE0
  simp only [fstE, h, if_true]
  by_cases h1 : unl (decide ((st.length : Int) = l.length)) 10 = 0
  · simp only [h1, if_true]
  · simp only [h1, if_false]
end Go.Proofs.YtdlmkblmljhbfaaDoor
namespace Go.Proofs.YtdlmkblmljhbfaaDoor
set_option linter.unusedSimpArgs false
set_option linter.unusedVariables false
set_option maxRecDepth 20000
theorem opn_sok {l : List Sm} {st : List Int} (h : Opn l st) : SOk l st := ⟨fun s hs => h.sm s hs, h.len, h.slen, fun a ha => (h.st a ha).1⟩
theorem resp_spec {f : Int → Int} : ∀ (n : Nat) (r x : Int), respTo f n r = some x → r ≤ x ∧ x < r + n ∧ f x = x ∧ ∀ y, r ≤ y → y < x → f y ≠ y
  | 0, _, _, h => by cases h
  | n + 1, r, x, h => by
    unfold respTo at h
    by_cases h0 : f r = r
    · rw [if_pos h0] at h
      injection h with h
      subst h
      exact ⟨Int.le_refl _, by omega, h0, fun y h1 h2 => by omega⟩
    · rw [if_neg h0] at h
      obtain ⟨h1, h2, h3, h4⟩ := resp_spec n (r + 1) x h
      refine ⟨by omega, by omega, h3, fun y h5 h6 => ?_⟩
      by_cases e : y = r
      · subst e; exact h0
      · exact h4 y (by omega) h6
theorem fF_ge {l : List Sm} (hl : ∀ s ∈ l, OkSm s) {i : Nat} {s : Sm} (hs : l[i]? = some s) {r : Int} (hr : 0 ≤ r) : s.len ≤ fF l i r := by
  unfold fF
  have e : lenAt l i = s.len := by unfold lenAt; rw [hs]
  have := wt_nonneg (f := fun k => lenAt l k * ((r + perAt l k - 1) / perAt l k)) (n := i) fun k _ => Int.mul_nonneg (lenAt_nonneg hl k) (Int.ediv_nonneg (by have := perAt_ok hl k; omega) (by have := perAt_ok hl k; omega))
  omega
/-- The response of a stream that is not late. -/
structure Timely (l : List Sm) (i : Nat) (s : Sm) (r : Nat) : Prop where
  resp : respS (l.take i) s = some (r : Int)
  one : 1 ≤ r
  dl : (r : Int) ≤ s.dl
  len : s.len ≤ r
  fix : fF l i r = r
  least : ∀ x : Nat, 1 ≤ x → x < r → fF l i x ≠ x
theorem respS_some {l : List Sm} (hl : ∀ s ∈ l, OkSm s) {i : Nat} {s : Sm} (hs : l[i]? = some s) {x : Int} (h : respS (l.take i) s = some x) : ∃ r : Nat, x = r ∧ 1 ≤ r ∧ s.len ≤ r ∧ fF l i r = r ∧ ∀ y : Nat, 1 ≤ y → y < r → fF l i y ≠ y := by
  obtain ⟨h1, h2, h3, h4⟩ := resp_spec _ _ _ h
  obtain ⟨r, rfl⟩ : ∃ r : Nat, x = r := ⟨x.toNat, by omega⟩
  have h5 := respF_eq hs (r : Int)
  rw [h3] at h5
  have h6 := fF_ge hl hs (show (0 : Int) ≤ r by omega)
  refine ⟨r, rfl, by omega, by omega, h5.symm, fun y hy1 hy2 e => ?_⟩
  exact h4 y (by omega) (by omega) (by rw [respF_eq hs]; exact e)
theorem notlate {l : List Sm} (hl : ∀ s ∈ l, OkSm s) {i : Nat} {s : Sm} (hs : l[i]? = some s) (h : lateAt l i = false) : ∃ r, Timely l i s r := by
  unfold lateAt lateB at h
  rw [hs] at h
  dsimp only at h
  cases hR : respS (l.take i) s with
  | none => rw [hR] at h; simp [respV] at h
  | some x =>
    rw [hR] at h
    simp [respV] at h
    obtain ⟨r, rfl, h1, h2, h3, h4⟩ := respS_some hl hs hR
    have h' : ¬ s.dl < (r : Int) := of_decide_eq_false h
    exact ⟨r, hR, h1, by omega, h2, h3, h4⟩
theorem respOf_at {l : List Sm} (h0 : smsErr l = 0) {i : Nat} {s : Sm} (hs : l[i]? = some s) : respOf l i = ((respV (respS (l.take i) s)).1, unl (respV (respS (l.take i) s)).2 12) := by
  have hi := (List.getElem?_eq_some_iff.1 hs).1
  have e : fstE [smsErr l, unl (inR (i : Int) 0 ((l.length : Int) - 1)) 6] = 0 := (fst_cons _ _).2 ⟨h0, (fst_cons _ _).2 ⟨(unl_zero (by decide)).2 (inR_iff.2 (by omega)), rfl⟩⟩
  rw [respOf, if_pos e, Int.toNat_natCast, hs]
theorem late_resp {l : List Sm} (h0 : smsErr l = 0) {i : Nat} {s : Sm} (hs : l[i]? = some s) (h : lateAt l i = true) : (respOf l i).2 = 0 → s.dl < (respOf l i).1 := by
  rw [respOf_at h0 hs]
  unfold lateAt lateB at h
  rw [hs] at h
  dsimp only at h
  generalize respV (respS (l.take i) s) = R at *
  obtain ⟨a, b⟩ := R
  cases b <;> simp [unl] at h ⊢
  exact h
theorem timely_resp {l : List Sm} (h0 : smsErr l = 0) {i : Nat} {s : Sm} (hs : l[i]? = some s) {r : Nat} (h : Timely l i s r) : respOf l i = ((r : Int), 0) := by
  rw [respOf_at h0 hs, h.resp]
  rfl
theorem fix_below {f : Int → Int} (hm : ∀ a b, a ≤ b → f a ≤ f b) (h1 : ∀ x, 1 ≤ x → 1 ≤ f x) : ∀ n : Nat, ∀ x : Int, x ≤ n → 1 ≤ x → f x ≤ x → ∃ y, 1 ≤ y ∧ y ≤ x ∧ f y = y
  | 0, x, h2, h3, _ => by omega
  | n + 1, x, h2, h3, h4 => by
    by_cases e : f x = x
    · exact ⟨x, h3, Int.le_refl _, e⟩
    · obtain ⟨y, h5, h6, h7⟩ := fix_below hm h1 n (f x) (by omega) (h1 x h3) (hm _ _ h4)
      exact ⟨y, h5, by omega, h7⟩
/-- The streams with one that is longer. -/
def longer (l : List Sm) (at' : Nat) (s : Sm) : List Sm := l.set at' ⟨s.name, s.per, s.dl, s.len + 1⟩
theorem longer_len {l : List Sm} {a : Nat} {s : Sm} (hs : l[a]? = some s) (k : Nat) : lenAt l k ≤ lenAt (longer l a s) k ∧ perAt (longer l a s) k = perAt l k := by
  have ha := (List.getElem?_eq_some_iff.1 hs).1
  unfold lenAt perAt longer
  by_cases h : a = k
  · subst h
    rw [List.getElem?_set_self ha, hs]
    exact ⟨by show s.len ≤ s.len + 1; omega, rfl⟩
  · rw [List.getElem?_set_ne h]
    exact ⟨Int.le_refl _, rfl⟩
theorem longer_resp {l : List Sm} (hl : ∀ s ∈ l, OkSm s) {a : Nat} {sa : Sm} (ha : l[a]? = some sa) (h0 : smsErr (longer l a sa) = 0) (hl2 : ∀ s ∈ longer l a sa, OkSm s) {i : Nat} {s : Sm} (hs : l[i]? = some s) {r : Nat} (h : Timely l i s r) :
    ((respOf (longer l a sa) i).2 = 0 → (r : Int) ≤ (respOf (longer l a sa) i).1) ∧ ((respOf (longer l a sa) i).2 ≠ 0 → (respOf (longer l a sa) i).2 = 12) := by
  have hi := (List.getElem?_eq_some_iff.1 hs).1
  obtain ⟨s2, hs2⟩ : ∃ s2, (longer l a sa)[i]? = some s2 := ⟨(longer l a sa)[i]'(by unfold longer; simpa using hi), List.getElem?_eq_getElem _⟩
  rw [respOf_at h0 hs2]
  cases hR : respS ((longer l a sa).take i) s2 with
  | none => exact ⟨fun e => absurd e (by decide), fun _ => rfl⟩
  | some x =>
    refine ⟨fun _ => ?_, fun e => absurd rfl e⟩
    obtain ⟨v, rfl, h1, -, h3, -⟩ := respS_some hl2 hs2 hR
    show (r : Int) ≤ v
    have hle : fF l i v ≤ fF (longer l a sa) i v := by
      unfold fF
      have h4 := (longer_len ha i).1
      have h5 := wt_le (f := fun k => lenAt l k * (((v : Int) + perAt l k - 1) / perAt l k)) (g := fun k => lenAt (longer l a sa) k * (((v : Int) + perAt (longer l a sa) k - 1) / perAt (longer l a sa) k)) (n := i) fun k _ => by
        rw [(longer_len ha k).2]
        exact Int.mul_le_mul_of_nonneg_right (longer_len ha k).1 (Int.ediv_nonneg (by have := perAt_ok hl k; omega) (by have := perAt_ok hl k; omega))
      omega
    rw [h3] at hle
    have hone : ∀ y : Int, 1 ≤ y → 1 ≤ fF l i y := fun y hy => by
      have := fF_ge hl hs (show 0 ≤ y by omega)
      have := (hl s (List.mem_of_getElem? hs)).2.2.2.2.1
      omega
    obtain ⟨y, h6, h7, h8⟩ := fix_below (fun a b h => fF_mono hl i h) hone v v (Int.le_refl _) (by omega) hle
    obtain ⟨z, rfl⟩ : ∃ z : Nat, y = z := ⟨y.toNat, by omega⟩
    by_cases hz : z < r
    · exact absurd h8 (h.least z (by omega) hz)
    · omega
theorem worst_le {l : List Sm} {st : List Int} (h : SOk l st) {i : Nat} {s : Sm} (hs : l[i]? = some s) {r : Nat} (hr : Timely l i s r) (T : Nat) : (runS prioS l st T).1.wo i ≤ r :=
  never_late h hs (by have := hr.one; omega) (Int.le_trans hr.dl (h.sm s (List.mem_of_getElem? hs)).2.2.2.1) hr.fix T
theorem worst_eq {l : List Sm} {st : List Int} (h : SOk l st) (hz : ∀ a ∈ st, a = 0) {i : Nat} {s : Sm} (hs : l[i]? = some s) {r : Nat} (hr : Timely l i s r) {T : Nat} (hT : r ≤ T) : (runS prioS l st T).1.wo i = r := by
  have h1 := worst_le h hs hr T
  have h2 := together h hz hs hr.one (Int.le_trans hr.dl (h.sm s (List.mem_of_getElem? hs)).2.2.2.1) hr.fix hr.least
  have h3 := wo_mono_le (ch := prioS) l st i hT
  omega
/-! ### What is carried. -/
def lfA (l : List Sm) (st : List Int) (t k : Nat) : Int := sumL ((runS prioS l st t).1.q k)
def lfB (l : List Sm) (st : List Int) (t k : Nat) : Int := sumL (sendS l st t (runS prioS l st t).1.q k)
def ouT (l : List Sm) (st : List Int) (t : Nat) : Int := (carS prioS l st t (runS prioS l st t).1).2
theorem lfB_eq (l : List Sm) (st : List Int) (t k : Nat) : lfB l st t k = lfA l st t k + if relB l st t k then lenAt l k else 0 := send_sum l st t _ k
theorem run_len (l : List Sm) (st : List Int) : ∀ T, (runS prioS l st T).2.length = T
  | 0 => rfl
  | T + 1 => by rw [runS, List.length_append, run_len l st T]; rfl
theorem out_at (l : List Sm) (st : List Int) : ∀ {T t : Nat}, t < T → (runS prioS l st T).2[t]? = some (ouT l st t)
  | T + 1, t, h => by
    rw [runS]
    dsimp only
    by_cases e : t < T
    · rw [List.getElem?_append_left (by rw [run_len]; exact e)]
      exact out_at l st e
    · have : t = T := by omega
      subst this
      rw [List.getElem?_append_right (by rw [run_len]; exact Nat.le_refl _), run_len]
      simp [ouT]
theorem tick_at (l : List Sm) (st : List Int) (t : Nat) : Tick t (sendS l st t (runS prioS l st t).1.q) (runS prioS l st t).1.wo (runS prioS l st (t + 1)).1 (ouT l st t) ∧ ouT l st t = prioS (sendS l st t (runS prioS l st t).1.q) :=
  car_tick l st t (runS prioS l st t).1 (by
    rcases prio_spec (sendS l st t (runS prioS l st t).1.q) with ⟨h, _⟩ | ⟨j, h, _, h1, _⟩
    · exact .inl h
    · exact .inr ⟨j, h, h1⟩)
theorem sum1_tick {t : Int} {q : Nat → List (Int × Int)} {wo : Nat → Int} {s : Ss} {o : Int} (hk : Tick t q wo s o) (k : Nat) : sumL (s.q k) = sumL (q k) - if o = k then 1 else 0 := by
  cases hk with
  | idle =>
    rw [if_neg (by omega)]
    show sumL (q k) = sumL (q k) - 0
    omega
  | last i a r e =>
    show sumL (upF q i r k) = _
    by_cases h : k = i
    · subst h
      rw [upF_same, e, if_pos rfl]
      simp only [sumL]
      omega
    · rw [upF_other _ _ h, if_neg (by omega)]
      omega
  | more i a m r e hk1 =>
    show sumL (upF q i ((a, m - 1) :: r) k) = _
    by_cases h : k = i
    · subst h
      rw [upF_same, e, if_pos rfl]
      simp only [sumL]
      omega
    · rw [upF_other _ _ h, if_neg (by omega)]
      omega
theorem q_empty {l : List Sm} {st : List Int} : ∀ (t k : Nat), l.length ≤ k → (runS prioS l st t).1.q k = []
  | 0, _, _ => rfl
  | t + 1, k, h => by
    have ih := q_empty (st := st) t k h
    have hr : relB l st t k = false := by
      unfold relB
      rw [List.getElem?_eq_none h]
    have hs : sendS l st t (runS prioS l st t).1.q k = [] := by
      unfold sendS
      rw [hr]
      simpa using ih
    obtain ⟨hk, -⟩ := tick_at l st t
    generalize (runS prioS l st (t + 1)).1 = s' at *
    generalize sendS l st t (runS prioS l st t).1.q = q at *
    generalize ouT l st t = o at *
    cases hk with
    | idle => exact hs
    | last i a r e =>
      show upF q i r k = []
      by_cases hki : k = i
      · subst hki; rw [hs] at e; cases e
      · rw [upF_other _ _ hki]; exact hs
    | more i a m r e h1 =>
      show upF q i ((a, m - 1) :: r) k = []
      by_cases hki : k = i
      · subst hki; rw [hs] at e; cases e
      · rw [upF_other _ _ hki]; exact hs
theorem sendS_out {l : List Sm} {st : List Int} {t : Int} {q : Nat → List (Int × Int)} {k : Nat} (h : l.length ≤ k) : sendS l st t q k = q k := by
  unfold sendS relB
  rw [List.getElem?_eq_none h]
  simp
/-- A tick, stream by stream. -/
theorem sim_step {l : List Sm} {st : List Int} (h : SOk l st) (t : Nat) :
    (ouT l st t = -1 ∧ (∀ k, k < l.length → lfB l st t k = 0) ∧ ∀ k, lfA l st (t + 1) k = lfB l st t k) ∨
    ∃ j : Nat, ouT l st t = j ∧ j < l.length ∧ 1 ≤ lfB l st t j ∧ ∀ k, lfA l st (t + 1) k = lfB l st t k - if j = k then 1 else 0 := by
  obtain ⟨hk, he⟩ := tick_at l st t
  have hg := good_send (st := st) (t := t) h.sm (by omega) (run_good h t)
  have hsum := sum1_tick hk
  rcases prio_spec (sendS l st t (runS prioS l st t).1.q) with ⟨h1, h2⟩ | ⟨j, h1, h2, h3, -⟩
  · refine .inl ⟨by rw [he, h1], fun k hkl => ?_, fun k => ?_⟩
    · unfold lfB
      rw [h2 k (by have := h.six; omega)]
      rfl
    · have := hsum k
      rw [he, h1, if_neg (by omega)] at this
      unfold lfA lfB
      omega
  · refine .inr ⟨j, by rw [he, h1], ?_, ?_, fun k => ?_⟩
    · refine Nat.lt_of_not_le fun hn => h3 ?_
      rw [sendS_out hn]
      exact q_empty t j hn
    · have hge := sumL_nonneg (l := sendS l st t (runS prioS l st t).1.q j) fun x hx => (hg j x hx).1
      by_cases h0 : sumL (sendS l st t (runS prioS l st t).1.q j) = 0
      · exact absurd (sumL_zero (fun x hx => (hg j x hx).1) h0) h3
      · unfold lfB
        omega
    · have := hsum k
      rw [he, h1] at this
      unfold lfA lfB
      rw [this]
      by_cases e : j = k
      · rw [if_pos (by omega), if_pos e]
      · rw [if_neg (by omega), if_neg e]
theorem lfA_zero (l : List Sm) (st : List Int) (k : Nat) : lfA l st 0 k = 0 := rfl
theorem lfA_bd {l : List Sm} {st : List Int} (h : SOk l st) : ∀ t k : Nat, 0 ≤ lfA l st t k ∧ lfA l st t k ≤ 20 * t
  | 0, k => by rw [lfA_zero]; omega
  | t + 1, k => by
    have ih := lfA_bd h t k
    have hb := lfB_eq l st t k
    have hl : lenAt l k ≤ 20 := by
      unfold lenAt
      cases e : l[k]? with
      | none => decide
      | some s => exact (h.sm s (List.mem_of_getElem? e)).2.2.2.2.2
    have h0 := lenAt_nonneg h.sm k
    rcases sim_step h t with ⟨-, -, h2⟩ | ⟨j, -, -, h1, h2⟩
    · rw [h2 k]
      split at hb <;> omega
    · have := h2 k
      by_cases e : j = k
      · subst e
        rw [if_pos rfl] at this
        split at hb <;> omega
      · rw [if_neg e] at this
        split at hb <;> omega
end Go.Proofs.YtdlmkblmljhbfaaDoor
namespace Go.Proofs.YtdlmkblmljhbfaaDoor
set_option linter.unusedSimpArgs false
set_option linter.unusedVariables false
open Go.RowKit Go.Shelf
attribute [local go_sem] bl_al bl_drew bl_drewN bl_refl
set_option maxRecDepth 20000
set_option maxHeartbeats 2000000 in
theorem r_IsName (s : ByteArray) (w : World) (hs : s.size ≤ maxLen) :
    Calls Tryd.prog 114 #[.string s] w (Ret (.bool (nameB s)) w) := by
  unfold maxLen at hs
  obtain ⟨l, Hl⟩ : ∃ l, Hid (s.data.toList = l) := ⟨_, rfl⟩
  obtain ⟨n, Hn⟩ : ∃ n, Hid (s.size = n) := ⟨_, rfl⟩
  have Hln : Hid (l.length = n) := by rw [← Hl.out, ← Hn.out]; exact (by simp : s.data.toList.length = s.size)
  have hR : Hid (nameB s = (nameFrom 0 l && inR n 1 12)) := by unfold nameB; rw [Hl.out, Hn.out]; rfl
  rw [Hn.out] at hs
  have hsz : s.size = n := Hn.out
  by_cases hlow : n < 1
  · have e : Hid (nameB s = false) := by rw [hR.out]; refine Lib.hid ?_; have : inR n 1 12 = false := by simp [inR]; intro; omega
                                         rw [this, Bool.and_false]
    have hb1 : decide ((n : Int) < 1) = true := by simp; omega
    go_enter Tryd.func114, Tryd.ntmps114
    go_wp2
    go_ret
    exact ⟨by rw [e.out] <;> rfl, bl_refl _⟩
  have hb1 : decide ((n : Int) < 1) = false := by simp; omega
  by_cases hhi : 12 < n
  · have e : Hid (nameB s = false) := by rw [hR.out]; refine Lib.hid ?_; have : inR n 1 12 = false := by simp [inR]; intro; omega
                                         rw [this, Bool.and_false]
    have hb2 : decide ((12 : Int) < n) = true := by simp; omega
    go_enter Tryd.func114, Tryd.ntmps114
    go_wp2
    go_ret
    exact ⟨by rw [e.out] <;> rfl, bl_refl _⟩
  have hb2 : decide ((12 : Int) < n) = false := by simp; omega
  replace hR : Hid (nameB s = nameFrom 0 l) := by rw [hR.out]; refine Lib.hid ?_; have : inR n 1 12 = true := by simp [inR]; omega
                                                  rw [this, Bool.and_true]
  go_enter Tryd.func114, Tryd.ntmps114
  go_wp2
  go_loopw [3] (fun i wr => ∃ k : Nat, k ≤ n ∧ i = .int .i64 k ∧ wr = w ∧ nameFrom 0 l = nameFrom k (l.drop k)) (fun i _ => n - (intOf i).toNat)
  case atStart => exact ⟨0, Nat.zero_le _, rfl, rfl, rfl⟩
  case round =>
    obtain ⟨k, hk, rfl, rfl, hi⟩ := hrel
    replace hi := Lib.hid hi
    by_cases hlt : k < n
    · have hx : l[k]? = some (l[k]'(by rw [Hln.out]; exact hlt)) := List.getElem?_eq_getElem _
      generalize l[k]'(by rw [Hln.out]; exact hlt) = c at hx
      have hd := Lib.hid (nameFrom_drop l k c hx)
      have hks : k < s.size := by rw [hsz]; exact hlt
      have hget : s.data[k]'(by simpa using hks) = c := by
        have := hx
        rw [← Hl.out] at this
        simpa using (List.getElem?_eq_some_iff.1 this).2
      have hget' : (s[k]'hks) = c := hget
      have hm0 := c.toNat_lt
      have hlet := Lib.hid (letter_iff c)
      have hoth := Lib.hid (other_iff c)
      have hyes : Hid ((97 ≤ c.toNat ∧ c.toNat ≤ 122 ∨ 65 ≤ c.toNat ∧ c.toNat ≤ 90) ∨ k ≠ 0 ∧ (48 ≤ c.toNat ∧ c.toNat ≤ 57 ∨ c.toNat = 45) → nameFrom 0 l = nameFrom (k + 1) (l.drop (k + 1))) := by
        intro h
        rw [hi.out, hd.out]
        rcases h with h | ⟨h0, h⟩
        · simp [hlet.out.2 h]
        · simp [hoth.out.2 h, h0]
      have hno : Hid (¬ ((97 ≤ c.toNat ∧ c.toNat ≤ 122 ∨ 65 ≤ c.toNat ∧ c.toNat ≤ 90) ∨ k ≠ 0 ∧ (48 ≤ c.toNat ∧ c.toNat ≤ 57 ∨ c.toNat = 45)) → nameFrom 0 l = false) := by
        intro h
        rw [hi.out, hd.out]
        have h1 : letter c = false := by rw [Bool.eq_false_iff]; intro hh; exact h (.inl (hlet.out.1 hh))
        by_cases h0 : k = 0
        · simp [h1, h0]
        · have h2 : other c = false := by rw [Bool.eq_false_iff]; intro hh; exact h (.inr ⟨h0, hoth.out.1 hh⟩)
          simp [h1, h2]
      clear hx hlet hoth hd hi
      go_upto_region 7 with fail
      clear hget hget'
      generalize c.toNat = m at *
      have hcase : m < 45 ∨ m = 45 ∨ (45 < m ∧ m < 48) ∨ (48 ≤ m ∧ m ≤ 57) ∨ (57 < m ∧ m < 65) ∨ (65 ≤ m ∧ m ≤ 90) ∨ (90 < m ∧ m < 97) ∨ (97 ≤ m ∧ m ≤ 122) ∨ 122 < m := by omega
      by_cases h0 : k = 0
      · subst h0
        rcases hcase with h | rfl | ⟨h, h'⟩ | ⟨h, h'⟩ | ⟨h, h'⟩ | ⟨h, h'⟩ | ⟨h, h'⟩ | ⟨h, h'⟩ | h
        all_goals
          go_wp2
        all_goals first
          | (go_roundw
             case rel => exact ⟨1, by omega, by go_num, trivial, hyes.out (by omega)⟩
             case measure => simp [intOf]; omega)
          | (go_ret
             exact ⟨by rw [hR.out, hno.out (by omega)] <;> rfl, bl_refl _⟩)
          | (exfalso; simp at *; omega)
      · have h0' : ((k : Int) == 0) = false := by simp; omega
        rcases hcase with h | rfl | ⟨h, h'⟩ | ⟨h, h'⟩ | ⟨h, h'⟩ | ⟨h, h'⟩ | ⟨h, h'⟩ | ⟨h, h'⟩ | h
        all_goals
          go_wp2
        all_goals first
          | (go_roundw
             case rel => exact ⟨k + 1, by omega, by go_num, trivial, hyes.out (by omega)⟩
             case measure => simp [intOf]; omega)
          | (go_ret
             exact ⟨by rw [hR.out, hno.out (by omega)] <;> rfl, bl_refl _⟩)
          | (exfalso; simp at *; omega)
    · go_wp2
      go_ret
      have : k = l.length := by have := Hln.out; omega
      exact ⟨by rw [hR.out, hi.out, this]; simp [nameFrom], bl_refl _⟩
end Go.Proofs.YtdlmkblmljhbfaaDoor
namespace Go.Proofs.YtdlmkblmljhbfaaDoor
set_option linter.unusedSimpArgs false
set_option linter.unusedVariables false
open Go.RowKit Go.Shelf
attribute [local go_sem] bl_al bl_drew bl_drewN bl_refl bx_al bx_drew bx_drewN bx_refl
set_option maxRecDepth 20000
/-- Streams that the laws take. -/
def fewB (l : List Sm) : Bool := decide ((l.length : Int) ≤ 8) && l.all fun s => decide ((s.name.size : Int) ≤ 30)
set_option maxHeartbeats 2000000 in
theorem r_fewStreams (l : List Sm) (A : Option Addr) (c : Nat) (w : World) (hs : Sl cSm 4 w A l) : Calls Tryd.prog 40 #[.slice A l.length c] w (Same (.bool (fewB l)) w) := by
  have Hs := Lib.hid hs
  clear hs
  by_cases h8 : (l.length : Int) ≤ 8
  rotate_left
  · have e : fewB l = false := by simp [fewB, h8]
    rw [e]
    have h8' : (8 : Int) < l.length := by omega
    clear e Hs
    generalize l.length = n at *
    go_enter Tryd.func40, Tryd.ntmps40
    go_wp2
    go_ret
    exact ⟨rfl, rfl⟩
  have he : fewB l = l.all fun s => decide ((s.name.size : Int) ≤ 30) := by simp [fewB, h8]
  have hst := Lib.hid fun k x (hx : l[k]? = some x) => (show ((l.drop k).all fun s => decide ((s.name.size : Int) ≤ 30)) = (decide ((x.name.size : Int) ≤ 30) && ((l.drop (k + 1)).all fun s => decide ((s.name.size : Int) ≤ 30))) by
    have hk := (List.getElem?_eq_some_iff.1 hx).1
    rw [List.drop_eq_getElem_cons hk, (List.getElem?_eq_some_iff.1 hx).2, List.all_cons])
  have hen : Hid (((l.drop l.length).all fun s => decide ((s.name.size : Int) ≤ 30)) = true) := Lib.hid (by rw [List.drop_length]; rfl)
  obtain ⟨g, hg⟩ : ∃ g : Nat → Bool, ∀ k, ((l.drop k).all fun s => decide ((s.name.size : Int) ≤ 30)) = g k := ⟨_, fun _ => rfl⟩
  have he0 : fewB l = g 0 := by rw [he, ← hg]; rfl
  rw [he0]
  simp only [hg] at hst hen
  clear hg he he0
  have h8' : ¬ (8 : Int) < l.length := by omega
  obtain ⟨n, Hn⟩ : ∃ n, Hid (l.length = n) := ⟨_, rfl⟩
  rw [Hn.out] at h8 h8' hen ⊢
  go_enter Tryd.func40, Tryd.ntmps40
  go_wp2
  go_loop [3] (fun i => ∃ k : Nat, k ≤ n ∧ i = .int .i64 k ∧ g 0 = g k) (fun i => n - (intOf i).toNat)
  case atStart => exact ⟨0, Nat.zero_le _, rfl, rfl⟩
  case round =>
    obtain ⟨k, hk, rfl, hi⟩ := hrel
    replace hi := Lib.hid hi
    by_cases hlt : k < n
    · have hx : l[k]? = some (l[k]'(by rw [Hn.out]; exact hlt)) := List.getElem?_eq_getElem _
      generalize l[k]'(by rw [Hn.out]; exact hlt) = x at hx
      have hs := hst.out k x hx
      obtain ⟨b, off, rfl, hc⟩ := Hs.out k x hx
      have c0 : w.cell? ⟨b, off + k * 4, none⟩ = some (.string x.name) := by simpa using hc 0 _ rfl
      clear hc hx
      by_cases hT : (x.name.size : Int) ≤ 30
      · have hT' : ¬ (30 : Int) < x.name.size := by omega
        have h2 : Hid (g k = g (k + 1)) := Lib.hid (by rw [hs]; simp [hT])
        clear hs hT
        go_wp2
        go_round
        case rel => exact ⟨k + 1, by omega, by go_num, by rw [hi.out, h2.out]⟩
        case measure => simp [intOf]; omega
      · have hT' : (30 : Int) < x.name.size := by omega
        have h2 : Hid (g k = false) := Lib.hid (by rw [hs]; simp [hT])
        clear hs hT
        go_wp2
        go_ret
        exact ⟨by rw [hi.out, h2.out] <;> rfl, rfl⟩
    · have e : k = n := by omega
      go_wp2
      go_ret
      exact ⟨by rw [hi.out, e, hen.out] <;> rfl, rfl⟩
theorem infoSm : (Tryd.prog.info? 82).map (fun i => (i.zero, i.size, i.bytes)) = some (some (.agg #[.string ByteArray.empty, .int .i64 0, .int .i64 0, .int .i64 0]), 4, 40) := by kernel_rfl
theorem r_CopyStreams (l : List Sm) (A : Option Addr) (c : Nat) (w : World) (hn : SmIn l A c w) : Calls Tryd.prog 44 #[.slice A l.length c] w (fun e w' => ∃ A2 c2, e = .returned (.slice A2 l.length c2) ∧ Below w.heap.size w w' ∧ SmIn l A2 c2 w') := by
  obtain ⟨i0, hi, hz0, hz1, hz2⟩ := info_parts infoSm
  have Hn := Lib.hid hn
  have hl := hn.len
  clear hn
  go_enter Tryd.func44, Tryd.ntmps44
  go_wp2_with (at_builtin; refine wpList_plain rfl fun _ hK => wp_copy (cs := cSm) (l := l) (A := A) (c := c) (g := w.heap.size) _ _ rfl Tryd.underlying74 hi hz0 hz1 hz2 rfl (by decide) (fun _ => rfl) (fun x u hu => by simp [cSm] at hu; rcases hu with h | h | h | h <;> subst h <;> rfl) rfl rfl (Hn.out.sl.below (bl_al _ (bl_refl _))) hl (by decide) (Blk.new w _ _) (fun A2 c2 w' ho hb => hK _ _ ?_))
  have hb2 : Below w.heap.size w w' := bl_tr (bl_al _ (bl_refl w)) hb
  replace ho := Lib.hid ho
  clear hb
  go_wp2
  go_ret
  refine ⟨A2, c2, rfl, hb2, Hn.out.len, ?_, Hn.out.nm, own_slC (cs := cSm) (fun _ => rfl) (by decide) ho.out⟩
  rcases ho.out.2 with ⟨e, h⟩ | ⟨_, _, _, e, _, _, h, _⟩
  · omega
  · injection e with _ _ e
    omega
theorem knownS_step (l : List Sm) (s : ByteArray) (j : Nat) (y : Sm) (hy : l[j]? = some y) : knownB ((l.take (j + 1)).map (·.name)) s = (knownB ((l.take j).map (·.name)) s || (y.name.toList == s.toList)) := by
  unfold knownB
  rw [List.take_add_one, hy]
  simp [List.any_append]
theorem knownS_hit (l : List Sm) (s : ByteArray) (j k : Nat) (y : Sm) (hy : l[j]? = some y) (hjk : j < k) (h : (y.name.toList == s.toList) = true) : knownB ((l.take k).map (·.name)) s = true := by
  unfold knownB
  rw [List.any_eq_true]
  refine ⟨y.name, ?_, h⟩
  have : (l.take k)[j]? = some y := by rw [List.getElem?_take, if_pos hjk]; exact hy
  exact List.mem_map.2 ⟨y, List.mem_of_getElem? this, rfl⟩
set_option maxHeartbeats 4000000 in
theorem r_CheckStreams (l : List Sm) (A : Option Addr) (c : Nat) (w : World) (hn : SmIn l A c w) :
    Calls Tryd.prog 94 #[.slice A l.length c] w (Ret (.tuple #[.int .i64 (smsChk l).1, .int .i64 (smsChk l).2]) w) := by
  have hN := Lib.hid hn
  have hr0 : Hid (lenE l.length 6 = fstE [unl (decide (0 < l.length)) 10, unl (decide ((l.length : Int) ≤ 6)) 8]) := rfl
  have hs1 : Hid (lenE l.length 6 = 0 → smsChk l = eachS (smErr l) l 0) := fun h => by rw [smsChk, if_pos h]
  have hs2 : Hid (lenE l.length 6 ≠ 0 → smsChk l = (0, lenE l.length 6)) := fun h => by rw [smsChk, if_neg h]
  clear hn
  obtain ⟨n, Hn⟩ : ∃ n, Hid (l.length = n) := ⟨_, rfl⟩
  rw [Hn.out] at hr0 hs1 hs2 ⊢
  by_cases h0 : n = 0
  · subst h0
    have e : smsChk l = (0, 10) := hs2.out (by decide)
    rw [e]
    go_enter Tryd.func94, Tryd.ntmps94
    go_wp2
    go_ret2
    exact ⟨rfl, bl_refl _⟩
  by_cases h6 : (n : Int) ≤ 6
  rotate_left
  · have e1 : lenE n 6 = 8 := by rw [hr0.out]; simp [fstE, unl, h6]; omega
    have e : smsChk l = (0, 8) := by rw [hs2.out (by rw [e1]; decide), e1]
    rw [e]
    have h0' : ((n : Int) == 0) = false := by simp; omega
    have h6' : (6 : Int) < n := by omega
    clear e e1 hr0 hs1 hs2
    go_enter Tryd.func94, Tryd.ntmps94
    go_wp2
    go_ret2
    exact ⟨rfl, bl_refl _⟩
  have e1 : lenE n 6 = 0 := by rw [hr0.out]; simp [fstE, unl, h6]; omega
  rw [hs1.out e1]
  have h0' : ((n : Int) == 0) = false := by simp; omega
  have h6' : ¬ (6 : Int) < n := by omega
  have hn6 : n ≤ 6 := by omega
  clear e1 hr0 hs1 hs2 h0 h6
  go_enter Tryd.func94, Tryd.ntmps94
  go_wp2
  clear h0' h6'
  go_loopw [4] (fun i wr => ∃ k : Nat, k ≤ n ∧ i = .int .i64 k ∧ Below w.heap.size w wr ∧ eachS (smErr l) l 0 = eachS (smErr l) (l.drop k) k) (fun i _ => n - (intOf i).toNat)
  case atStart => exact ⟨0, Nat.zero_le _, rfl, Below.refl _ _, rfl⟩
  case round =>
    obtain ⟨k, hk, rfl, hb0, hi⟩ := hrel
    replace hi := Lib.hid hi
    by_cases hlt : k < n
    · have hx : l[k]? = some (l[k]'(by rw [Hn.out]; exact hlt)) := List.getElem?_eq_getElem _
      generalize l[k]'(by rw [Hn.out]; exact hlt) = x at hx
      have hm : x ∈ l := List.mem_of_getElem? hx
      have hd := Lib.hid (eachS_drop (smErr l) l k x hx)
      have hnm := Lib.hid (hN.out.nm x hm)
      obtain ⟨b, off, hA, hc⟩ := hN.out.sl k x hx
      have hS : Hid (Sl cSm 4 w (some ⟨b, off, none⟩) l) := by rw [← hA]; exact hN.out.sl
      have c0 : wr.cell? ⟨b, off + k * 4, none⟩ = some (.string x.name) := by simpa using kcell hb0 (hc 0 _ rfl)
      have c1 : wr.cell? ⟨b, off + k * 4 + 1, none⟩ = some (.int .i64 x.per) := by simpa using kcell hb0 (hc 1 _ rfl)
      have c2 : wr.cell? ⟨b, off + k * 4 + 2, none⟩ = some (.int .i64 x.dl) := by simpa using kcell hb0 (hc 2 _ rfl)
      have c3 : wr.cell? ⟨b, off + k * 4 + 3, none⟩ = some (.int .i64 x.len) := by simpa using kcell hb0 (hc 3 _ rfl)
      have hre : smErr l k x = fstE [unl (nameB x.name) 4, unl (!knownB ((l.take k).map (·.name)) x.name) 5, unl (inR x.per 1 60 && (inR x.dl 1 x.per && inR x.len 1 20)) 2] := rfl
      clear hc hm hx
      obtain ⟨bn, h⟩ : ∃ b', nameB x.name = b' := ⟨_, rfl⟩
      have hcn := Lib.hid fun W : World => h ▸ r_IsName x.name W hnm.out
      rw [h] at hre
      clear h
      obtain ⟨ba, h⟩ : ∃ b', inR x.per 1 60 = b' := ⟨_, rfl⟩
      have hca := Lib.hid fun W : World => h ▸ r_Within x.per 1 60 W
      rw [h] at hre
      clear h
      obtain ⟨bb, h⟩ : ∃ b', inR x.dl 1 x.per = b' := ⟨_, rfl⟩
      have hcb := Lib.hid fun W : World => h ▸ r_Within x.dl 1 x.per W
      rw [h] at hre
      clear h
      obtain ⟨bc, h⟩ : ∃ b', inR x.len 1 20 = b' := ⟨_, rfl⟩
      have hcc := Lib.hid fun W : World => h ▸ r_Within x.len 1 20 W
      rw [h] at hre
      clear h
      subst hA
      obtain ⟨xn, xp, xd, xl⟩ := x
      dsimp only at *
      go_upto_region 9 with fail
      have hqw := hb0.size
      first
      | apply absB1 (w0 := w) (g0 := wr.heap.size)
      | apply absTB1 (w0 := w) (g0 := wr.heap.size)
      | apply absIB1 (w0 := w) (g0 := wr.heap.size)
      iterate 2 (focus ((with_reducible (repeat' (first | assumption | apply jA | apply jB | apply jC | apply jD | apply jE | apply jF | apply hb3 | apply jG | apply jH | apply jI | apply jJ | apply jK | apply hb3x | (apply jL; first | (simp; done) | rfl) | apply jM | apply jN | apply jO | apply jP | apply jQ | apply jR | apply jS | apply jT (hb := hb3 _ (jA _)) | omega | (simp; done) | (simp; omega) | (dsimp only; omega)))); done))
      intro wb hb0' k0'
      (try simp only [List.setIfInBounds_toArray, List.set_cons_zero, List.set_cons_succ] at k0')
      try clear hb3
      try clear hb0
      try clear k0
      have hb0 := hb0'; clear hb0'
      have k0 := k0'; clear k0'
      clear c0 c1 c2 c3
      have L0 := k0.cell
      cases bn
      · replace hre := Lib.hid hre
        go_wp2_with (go_at_call 114; (with_reducible refine (hcn.out _).mono ?_); rintro e w3 ⟨rfl, hb3⟩)
        go_ret2
        exact ⟨by rw [hi.out, hd.out, hre.out] <;> rfl, bl_tr hb0 hb3⟩
      go_upto_region 11 with (go_at_call 114; (with_reducible refine (hcn.out _).mono ?_); rintro e w3 ⟨rfl, hb3⟩)
      clear L0
      replace hb0 := bl_tr hb0 hb3
      replace k0 := k0.below hb3
      clear hb3 hcn
      go_wp2
      obtain ⟨wo, rfl⟩ : ∃ wo : World, wo = wr := ⟨_, rfl⟩
      go_loopw [6] (fun i wi => ∃ j : Nat, j ≤ k ∧ i = .int .i64 j ∧ Below w.heap.size w wi ∧ Blk wi wo.heap.size 82 #[.string xn, .int .i64 xp, .int .i64 xd, .int .i64 xl] ∧ knownB ((l.take j).map (·.name)) xn = false) (fun i _ => k - (intOf i).toNat)
      case atStart => exact ⟨0, Nat.zero_le _, rfl, hb0, k0, by simp [knownB]⟩
      case round =>
        clear hb0 k0
        obtain ⟨j, hj, rfl, hb0, k0, hkn⟩ := hrel
        replace hkn := Lib.hid hkn
        by_cases hjk : j < k
        · have hy : l[j]? = some (l[j]'(by rw [Hn.out]; omega)) := List.getElem?_eq_getElem _
          generalize l[j]'(by rw [Hn.out]; omega) = y at hy
          obtain ⟨b2, off2, e2, hc2⟩ := hS.out j y hy
          cases e2
          have d0 : ∀ W, Below wr.heap.size wr W → W.cell? ⟨b, off + j * 4, none⟩ = some (.string y.name) := later (by simpa using kcell hb0 (hc2 0 _ rfl))
          have hks := Lib.hid (knownS_step l xn j y hy)
          have hkh := Lib.hid (knownS_hit l xn j k y hy hjk)
          clear hc2 hy
          have hjn : (j : Int) < n := by omega
          have hjn2 : j < n := by omega
          go_upto_region 14 with fail
          have Lk0 := k0.later
          have Fk0 := k0.laterF
          have Qk0 := k0.lt
          refine wp_any (w0 := wr) ⟨[], [], [some 33, some 34, some 35, some 36, some 37, some 38, some 39, some 40], [[], [], [0, 1], [0, 1, 2], [0, 1, 2, 3], [], [5], [0, 1, 2, 3, 4, 5, 6]], [[], [], [0, 1], [2], [3], [], [5], [4, 6]]⟩ (fun _ => []) (by kernel_rfl) (by kernel_rfl) (by (with_reducible (repeat' (first | assumption | apply jA | apply jB | apply jC | apply jD | apply jE | apply jF | apply hb3 | omega | (simp; done) | (simp; omega) | (dsimp only; omega))))) (fun u => by simp only [putD, Act.put, List.setIfInBounds_toArray, List.set_cons_zero, List.set_cons_succ, Nat.zero_add, Nat.reduceAdd]; rfl) ?_
          apply RGW.on (i := 0) rfl
          · (simp only [gA, gB, gC] <;> rfl)
          · intro γ u W hcur hd
            clear hd
            (try dsimp only)
            refine ⟨rfl, ?_⟩
            go_simp <;> (try go_bits) <;> with_reducible rfl
          · exact fun _ _ _ => rfl
          · rfl
          dsimp only [nA, cA]
          apply RGW.on (i := 1) rfl
          · (simp only [gA, gB, gC] <;> rfl)
          · intro γ u W hcur hd
            clear hd
            (try dsimp only)
            refine ⟨rfl, ?_⟩
            go_simp <;> (try go_bits) <;> with_reducible rfl
          · exact fun _ _ _ => rfl
          · rfl
          dsimp only [nA, cA]
          apply RGW.on (i := 2) rfl
          · (simp only [gA, gB, gC] <;> rfl)
          · intro γ u W hcur hd
            obtain ⟨⟨h0, -, -⟩, ⟨h1, -, -⟩, -⟩ := hd
            dsimp only at h0 h1
            (try simp only [h0, h1])
            refine ⟨rfl, ?_⟩
            go_simp <;> (try go_bits) <;> with_reducible rfl
          · exact fun _ _ _ => rfl
          · rfl
          dsimp only [nA, cA]
          apply RGW.on (i := 3) rfl
          · (simp only [gA, gB, gC] <;> rfl)
          · intro γ u W hcur hd
            obtain ⟨⟨h2, -, -⟩, -⟩ := hd
            dsimp only at h2
            (try simp only [h2])
            refine ⟨rfl, ?_⟩
            go_simp <;> (try go_bits) <;> with_reducible rfl
          · exact fun _ _ _ => rfl
          · rfl
          dsimp only [nA, cA]
          apply RGW.on (i := 4) rfl
          · (simp only [gA, gB, gC] <;> rfl)
          · intro γ u W hcur hd
            obtain ⟨⟨h3, -, -⟩, -⟩ := hd
            dsimp only at h3
            (try simp only [h3])
            refine ⟨rfl, ?_⟩
            go_simp <;> (try go_bits) <;> with_reducible rfl
          · exact fun _ _ _ => rfl
          · rfl
          dsimp only [nA, cA]
          apply RGW.on (i := 5) rfl
          · (simp only [gA, gB, gC] <;> rfl)
          · intro γ u W hcur hd
            clear hd
            (try dsimp only)
            refine ⟨rfl, ?_⟩
            go_simp <;> (try go_bits) <;> with_reducible rfl
          · exact fun _ _ _ => rfl
          · rfl
          dsimp only [nA, cA]
          apply RGW.on (i := 6) rfl
          · (simp only [gA, gB, gC] <;> rfl)
          · intro γ u W hcur hd
            obtain ⟨⟨h5, -, -⟩, -⟩ := hd
            dsimp only at h5
            (try simp only [h5])
            refine ⟨rfl, ?_⟩
            go_simp <;> (try go_bits) <;> with_reducible rfl
          · exact fun _ _ _ => rfl
          · rfl
          dsimp only [nA, cA]
          apply RGW.on (i := 7) rfl
          · (simp only [gA, gB, gC] <;> rfl)
          · intro γ u W hcur hd
            obtain ⟨⟨h4, -, -⟩, ⟨h6, -, -⟩, -⟩ := hd
            dsimp only at h4 h6
            (try simp only [h4, h6])
            refine ⟨rfl, ?_⟩
            go_simp <;> (try go_bits) <;> with_reducible rfl
          · exact fun _ _ _ => rfl
          · rfl
          dsimp only [nA, cA]
          refine RGW.fin (fun γ u wj hwj hd hdis => ?_)
          obtain ⟨⟨h0, -, -⟩, ⟨h1, -, -⟩, ⟨h2, -, -⟩, ⟨h3, -, -⟩, ⟨h4, -, -⟩, ⟨h5, -, -⟩, ⟨h6, -, -⟩, ⟨h7, -, -⟩, -⟩ := hd
          dsimp only at h0 h1 h2 h3 h4 h5 h6 h7
          clear hdis
          simp only [h0, h1, h2, h3, h4, h5, h6, h7]
          clear h7 h6 h5 h4 h3 h2 h1 h0
          clear u
          simp only [List.map_nil]
          refine PlanW.done ?_
          have hb3 := bl_tt hwj
          have hbj := bl_tr hb0 hwj
          have kj := k0.below hwj
          cases hyx : y.name.toList == xn.toList
          · go_wp2
            go_roundw
            case rel => exact ⟨j + 1, by omega, by go_num, hbj, kj, by rw [hks.out, hkn.out, hyx]; rfl⟩
            case measure => simp [intOf]; omega
          · rw [hkh.out hyx] at hre
            replace hre := Lib.hid hre
            go_wp2
            go_ret2
            exact ⟨by rw [hi.out, hd.out, hre.out] <;> rfl, hbj⟩
        · obtain rfl : j = k := by omega
          rw [hkn.out] at hre
          have L0 := k0.cell
          cases ba
          · replace hre := Lib.hid hre
            go_wp2_with (go_at_call 21; (first | (with_reducible refine (hca.out _).mono ?_) | (with_reducible refine (hcb.out _).mono ?_) | (with_reducible refine (hcc.out _).mono ?_)); rintro e w3 ⟨rfl, rfl⟩)
            go_ret2
            exact ⟨by rw [hi.out, hd.out, hre.out] <;> rfl, hb0⟩
          cases bb
          · replace hre := Lib.hid hre
            go_wp2_with (go_at_call 21; (first | (with_reducible refine (hca.out _).mono ?_) | (with_reducible refine (hcb.out _).mono ?_) | (with_reducible refine (hcc.out _).mono ?_)); rintro e w3 ⟨rfl, rfl⟩)
            go_ret2
            exact ⟨by rw [hi.out, hd.out, hre.out] <;> rfl, hb0⟩
          cases bc
          · replace hre := Lib.hid hre
            go_wp2_with (go_at_call 21; (first | (with_reducible refine (hca.out _).mono ?_) | (with_reducible refine (hcb.out _).mono ?_) | (with_reducible refine (hcc.out _).mono ?_)); rintro e w3 ⟨rfl, rfl⟩)
            go_ret2
            exact ⟨by rw [hi.out, hd.out, hre.out] <;> rfl, hb0⟩
          replace hre := Lib.hid hre
          go_wp2_with (go_at_call 21; (first | (with_reducible refine (hca.out _).mono ?_) | (with_reducible refine (hcb.out _).mono ?_) | (with_reducible refine (hcc.out _).mono ?_)); rintro e w3 ⟨rfl, rfl⟩)
          go_roundw
          case rel => exact ⟨j + 1, by omega, by go_num, hb0, by rw [hi.out, hd.out, hre.out] <;> rfl⟩
          case measure => simp [intOf]; omega
    · go_wp2
      go_ret2
      have : k = l.length := by have := Hn.out; omega
      exact ⟨by rw [hi.out, this]; simp [eachS], hb0⟩
theorem r_StreamsErr (l : List Sm) (A : Option Addr) (c : Nat) (w : World) (hn : SmIn l A c w) : Calls Tryd.prog 41 #[.slice A l.length c] w (Ret (.int .i64 (smsErr l)) w) := by
  have hcall := Lib.hid (r_CheckStreams l A c w hn)
  have he : Hid ((smsChk l).2 = smsErr l) := rfl
  clear hn
  generalize l.length = n at *
  go_enter Tryd.func41, Tryd.ntmps41
  go_wp2_with fail
  refine hcall.out.mono ?_
  rintro e w3 ⟨rfl, hb3⟩
  go_wp2
  go_ret
  exact ⟨by rw [he.out] <;> rfl, hb3⟩
end Go.Proofs.YtdlmkblmljhbfaaDoor
namespace Go.Proofs.YtdlmkblmljhbfaaDoor
set_option linter.unusedSimpArgs false
set_option linter.unusedVariables false
open Go.RowKit Go.Shelf
attribute [local go_sem] bl_al bl_drew bl_drewN bl_refl bx_al bx_drew bx_drewN bx_refl
set_option maxRecDepth 20000
theorem md_neg {n d : Int} (hd : 0 < d) (h : n.tmod d < 0) : n.tmod d + d = n % d := by
  have h1 := Int.mul_tdiv_add_tmod n d
  have h2 := Int.lt_tmod_of_pos n hd
  have h3 := (Int.ediv_emod_unique (a := n) (b := d) (r := n.tmod d + d) (q := n.tdiv d - 1) hd).2 ⟨by rw [Int.mul_sub]; omega, by omega, by omega⟩
  exact h3.2.symm
theorem md_pos {n d : Int} (hd : 0 < d) (h : ¬ n.tmod d < 0) : n.tmod d = n % d := by
  have h1 := Int.mul_tdiv_add_tmod n d
  have h2 := Int.tmod_lt_of_pos n hd
  have h3 := (Int.ediv_emod_unique (a := n) (b := d) (r := n.tmod d) (q := n.tdiv d) hd).2 ⟨by omega, by omega, h2⟩
  exact h3.2.symm
theorem r_Mod (n d : Int) (w : World) (h3 : 0 < d) (h4 : d ≤ 1000000000000) : Calls Tryd.prog 31 #[.int .i64 n, .int .i64 d] w (Same (.int .i64 (n % d)) w) := by
  have q3 := Int.lt_tmod_of_pos n h3
  have q4 := Int.tmod_lt_of_pos n h3
  have hd : d ≠ 0 := by omega
  by_cases hT : n.tmod d < 0
  · have e := Lib.hid (md_neg h3 hT)
    have hT' : decide (n.tmod d < 0) = true := by simp [hT]
    go_enter Tryd.func31, Tryd.ntmps31
    go_wp2
    all_goals (go_ret; exact ⟨by rw [← e.out] <;> rfl, rfl⟩)
  · have e := Lib.hid (md_pos h3 hT)
    have hT' : decide (n.tmod d < 0) = false := by simp [hT]
    go_enter Tryd.func31, Tryd.ntmps31
    go_wp2
    all_goals (go_ret; exact ⟨by rw [← e.out] <;> rfl, rfl⟩)
set_option maxHeartbeats 2000000 in
theorem r_Has (l : List Int) (x : Int) (A : Option Addr) (c : Nat) (w : World) (hl : Sl cI 1 w A l) (hll : l.length ≤ 1000) :
    Calls Tryd.prog 48 #[.slice A l.length c, .int .i64 x] w (Ret (.bool (l.contains x)) w) := by
  have Hl := Lib.hid hl
  obtain ⟨n, Hn⟩ : ∃ n, Hid (l.length = n) := ⟨_, rfl⟩
  rw [Hn.out] at hll ⊢
  clear hl
  go_enter Tryd.func48, Tryd.ntmps48
  go_wp2
  go_loopw [5] (fun i wr => ∃ k : Nat, k ≤ n ∧ i = .int .i64 k ∧ Below w.heap.size w wr ∧ l.contains x = (l.drop k).contains x) (fun i _ => n - (intOf i).toNat)
  case atStart => exact ⟨0, Nat.zero_le _, rfl, Below.refl _ _, rfl⟩
  case round =>
    obtain ⟨k, hk, rfl, hb, hi⟩ := hrel
    replace hi := Lib.hid hi
    by_cases hlt : k < n
    · have hx : l[k]? = some (l[k]'(by rw [Hn.out]; exact hlt)) := List.getElem?_eq_getElem _
      generalize l[k]'(by rw [Hn.out]; exact hlt) = y at hx
      obtain ⟨b, off, hA, hc⟩ := Hl.out k y hx
      have c0 : wr.cell? ⟨b, off + k, none⟩ = some (.int .i64 y) := by have := kcell hb (hc 0 _ rfl); simpa using this
      have hd : Hid (l.drop k = y :: l.drop (k + 1)) := by
        have hk' := (List.getElem?_eq_some_iff.1 hx).1
        refine Lib.hid ?_
        rw [List.drop_eq_getElem_cons hk', (List.getElem?_eq_some_iff.1 hx).2]
      clear hc hx
      subst hA
      cases hyx : y == x
      · have hyx' : (x == y) = false := by rw [Bool.eq_false_iff] at hyx ⊢; intro h; exact hyx (by rw [beq_iff_eq] at h ⊢; exact h.symm)
        go_wp2
        go_roundw
        case rel => exact ⟨k + 1, by omega, by go_num, hb, by rw [hi.out, hd.out, List.contains_cons, hyx', Bool.false_or]⟩
        case measure => simp [intOf]; omega
      · have hyx' : (x == y) = true := by rw [beq_iff_eq] at hyx ⊢; exact hyx.symm
        go_wp2
        go_ret
        exact ⟨by rw [hi.out, hd.out, List.contains_cons, hyx', Bool.true_or] <;> rfl, hb⟩
    · go_wp2
      go_ret
      have : k = l.length := by have := Hn.out; omega
      exact ⟨by rw [hi.out, this]; simp, hb⟩
end Go.Proofs.YtdlmkblmljhbfaaDoor
namespace Go.Proofs.YtdlmkblmljhbfaaDoor
set_option linter.unusedSimpArgs false
set_option linter.unusedVariables false
open Go.RowKit Go.Shelf
attribute [local go_sem] bl_al bl_drew bl_drewN bl_refl bx_al bx_drew bx_drewN bx_refl
set_option maxRecDepth 20000
set_option maxHeartbeats 2000000 in
theorem r_StartsErr (l : List Sm) (st : List Int) (t : Int) (Al As : Option Addr) (cl cs : Nat) (w : World) (hs : Sl cI 1 w As st) (hl : l.length ≤ 8) :
    Calls Tryd.prog 42 #[.slice Al l.length cl, .slice As st.length cs, .int .i64 t] w (Ret (.int .i64 (stE0 l st t)) w) := by
  have Hs := Lib.hid hs
  clear hs
  have h1 : Hid (¬ (st.length : Int) = l.length → stE0 l st t = 10) := fun h => by simp [stE0, fstE, unl, h]
  have h2 : Hid ((st.length : Int) = l.length → stE0 l st t = fstE [(eachS (fun _ n => unl (inR n 0 400) 2) st 0).2, unl (inR t 0 400) 2]) := fun h => by simp [stE0, fstE, unl, h]
  have hd := Lib.hid fun k x (hx : st[k]? = some x) => eachS_drop (fun _ n => unl (inR n 0 400) 2) st k x hx
  have hen : Hid ((eachS (fun _ n => unl (inR n 0 400) 2) (st.drop st.length) st.length).2 = 0) := Lib.hid (by rw [List.drop_length]; rfl)
  generalize stE0 l st t = E at *
  obtain ⟨m, Hm⟩ : ∃ m, Hid (st.length = m) := ⟨_, rfl⟩
  rw [Hm.out] at h1 h2 hen ⊢
  generalize l.length = n at *
  by_cases hne : (m : Int) = n
  rotate_left
  · rw [h1.out hne]
    have hne' : ((m : Int) != n) = true := by simpa using hne
    go_enter Tryd.func42, Tryd.ntmps42
    go_wp2
    go_ret
    exact ⟨rfl, bl_refl _⟩
  rw [h2.out hne]
  have hmn : m = n := by omega
  subst hmn
  clear h1 h2 hne
  obtain ⟨g, hg⟩ : ∃ g : Nat → Int, ∀ k, (eachS (fun _ n => unl (inR n 0 400) 2) (st.drop k) k).2 = g k := ⟨_, fun _ => rfl⟩
  have hg0 : (eachS (fun _ n => unl (inR n 0 400) 2) st 0).2 = g 0 := hg 0
  have hst : Hid (∀ k x, st[k]? = some x → g k = if inR x 0 400 then g (k + 1) else 2) := fun k x hx => by
    have := hd.out k x hx
    rw [← hg, ← hg, this]
    cases inR x 0 400 <;> simp [unl]
  rw [hg, ] at hen
  rw [hg0]
  clear hd hg hg0
  go_enter Tryd.func42, Tryd.ntmps42
  go_wp2
  go_loop [7] (fun i => ∃ k : Nat, k ≤ m ∧ i = .int .i64 k ∧ g 0 = g k) (fun i => m - (intOf i).toNat)
  case atStart => exact ⟨0, Nat.zero_le _, rfl, rfl⟩
  case round =>
    obtain ⟨k, hk, rfl, hi⟩ := hrel
    replace hi := Lib.hid hi
    by_cases hkm : k < m
    · have hx : st[k]? = some (st[k]'(by rw [Hm.out]; exact hkm)) := List.getElem?_eq_getElem _
      generalize st[k]'(by rw [Hm.out]; exact hkm) = x at hx
      have hs := hst.out k x hx
      obtain ⟨b, off, rfl, hc⟩ := Hs.out k x hx
      have c0 : w.cell? ⟨b, off + k, none⟩ = some (.int .i64 x) := by simpa using hc 0 _ rfl
      clear hc hx
      cases hT : inR x 0 400
      · have e : Hid (g 0 = 2) := Lib.hid (by rw [hi.out, hs, hT]; rfl)
        clear hs
        go_wp2_with (go_at_call 21; (with_reducible refine (hT ▸ r_Within x 0 400 _).mono ?_); rintro e w3 ⟨rfl, rfl⟩)
        go_ret
        exact ⟨by rw [e.out] <;> rfl, bl_refl _⟩
      · have e : Hid (g 0 = g (k + 1)) := Lib.hid (by rw [hi.out, hs, hT]; rfl)
        clear hs
        go_wp2_with (go_at_call 21; (with_reducible refine (hT ▸ r_Within x 0 400 _).mono ?_); rintro e w3 ⟨rfl, rfl⟩)
        go_round
        case rel => exact ⟨k + 1, by omega, by go_num, e.out⟩
        case measure => simp [intOf]; omega
    · have e : k = m := by omega
      have e0 : Hid (g 0 = 0) := Lib.hid (by rw [hi.out, e, hen.out])
      clear e
      cases hT : inR t 0 400
      · go_wp2_with (go_at_call 21; (with_reducible refine (hT ▸ r_Within t 0 400 _).mono ?_); rintro e w3 ⟨rfl, rfl⟩)
        go_ret
        exact ⟨by rw [e0.out, hT] <;> rfl, bl_refl _⟩
      · go_wp2_with (go_at_call 21; (with_reducible refine (hT ▸ r_Within t 0 400 _).mono ?_); rintro e w3 ⟨rfl, rfl⟩)
        go_ret
        exact ⟨by rw [e0.out, hT] <;> rfl, bl_refl _⟩
/-- A copy of streams in a block of its own. -/
theorem r_CopyOwn (l : List Sm) (A : Option Addr) (c : Nat) (w : World) (hn : SmIn l A c w) (hne : 0 < l.length) : Calls Tryd.prog 44 #[.slice A l.length c] w (fun e w' => ∃ g c2 cur, e = .returned (.slice (some ⟨g, 0, none⟩) l.length c2) ∧ Below w.heap.size w w' ∧
    w.heap.size ≤ g ∧ l.length ≤ c2 ∧ Blk w' g 82 cur ∧ l.length * 4 ≤ cur.size ∧ ∀ k x j v, l[k]? = some x → (cSm x)[j]? = some v → cur[k * 4 + j]? = some v) := by
  obtain ⟨i0, hi, hz0, hz1, hz2⟩ := info_parts infoSm
  have Hn := Lib.hid hn
  have hl := hn.len
  clear hn
  go_enter Tryd.func44, Tryd.ntmps44
  go_wp2_with (at_builtin; refine wpList_plain rfl fun _ hK => wp_copy (cs := cSm) (l := l) (A := A) (c := c) (g := w.heap.size) _ _ rfl Tryd.underlying74 hi hz0 hz1 hz2 rfl (by decide) (fun _ => rfl) (fun x u hu => by simp [cSm] at hu; rcases hu with h | h | h | h <;> subst h <;> rfl) rfl rfl (Hn.out.sl.below (bl_al _ (bl_refl _))) hl (by decide) (Blk.new w _ _) (fun A2 c2 w' ho hb => hK _ _ ?_))
  have hb2 : Below w.heap.size w w' := bl_tr (bl_al _ (bl_refl w)) hb
  replace ho := Lib.hid ho
  clear hb
  go_wp2
  go_ret
  rcases ho.out.2 with ⟨e, h⟩ | ⟨g, cap, cur, e, h1, h2, h3, h4, h5, h6⟩
  · omega
  · injection e with e1 e2 e3
    subst e1 e3
    refine ⟨g, _, cur, rfl, hb2, h1, h3, h2, by rw [h5]; exact Nat.mul_le_mul_right _ h3, fun k x j v hx hv => ?_⟩
    have := flat_get (cs := cSm) (sz := 4) (fun _ => rfl) hx hv
    rw [← h6, List.getElem?_take] at this
    split at this
    · simpa using this
    · cases this
/-- Streams of which one is made longer, in their block. -/
theorem sm_longer {l : List Sm} {a : Nat} {s : Sm} (ha : l[a]? = some s) {w : World} {g c : Nat} {cur : Array Value} (hc : l.length ≤ c) (hlen : l.length ≤ 1000) (hnm : ∀ s ∈ l, s.name.size ≤ maxLen) (hb : Blk w g 82 (cur.setIfInBounds (a * 4 + 3) (.int .i64 (s.len + 1)))) (hsz : l.length * 4 ≤ cur.size)
    (hcur : ∀ k x j v, l[k]? = some x → (cSm x)[j]? = some v → cur[k * 4 + j]? = some v) : SmIn (longer l a s) (some ⟨g, 0, none⟩) c w := by
  have hal := (List.getElem?_eq_some_iff.1 ha).1
  refine ⟨by simpa [longer] using hlen, by simpa [longer] using hc, fun x hx => ?_, fun k x hx => ⟨g, 0, rfl, fun j v hv => ?_⟩⟩
  · unfold longer at hx
    rcases List.mem_or_eq_of_mem_set hx with h | rfl
    · exact hnm x h
    · exact hnm s (List.mem_of_getElem? ha)
  · have hj : j < 4 := by
      have := (List.getElem?_eq_some_iff.1 hv).1
      simpa [cSm] using this
    rw [Nat.zero_add, hb.cell]
    unfold longer at hx
    by_cases hk : a = k
    · subst hk
      rw [List.getElem?_set_self hal] at hx
      injection hx with hx
      subst hx
      match j, hj, hv with
      | 0, _, hv | 1, _, hv | 2, _, hv =>
        rw [Array.getElem?_setIfInBounds_ne (by omega)]
        exact hcur a s _ v ha (by simpa [cSm] using hv)
      | 3, _, hv =>
        rw [Array.getElem?_setIfInBounds_self_of_lt (by omega)]
        simpa [cSm] using hv
    · rw [List.getElem?_set_ne hk] at hx
      rw [Array.getElem?_setIfInBounds_ne (by omega)]
      exact hcur k x j v hx hv
end Go.Proofs.YtdlmkblmljhbfaaDoor
namespace Go.Proofs.YtdlmkblmljhbfaaDoor
set_option linter.unusedSimpArgs false
set_option linter.unusedVariables false
open Go.RowKit Go.Shelf
set_option maxRecDepth 20000
theorem few_ok2 {l : List Sm} (h : fewB l = true) : l.length ≤ 8 := by
  unfold fewB at h
  rw [Bool.and_eq_true, decide_eq_true_eq] at h
  omega
theorem stE0_ok {l : List Sm} {st : List Int} {t : Int} (h : stE0 l st t = 0) : st.length = l.length ∧ 0 ≤ t ∧ t ≤ 400 := by
  obtain ⟨h1, h2⟩ := (fst_cons _ _).1 h
  obtain ⟨-, h3⟩ := (fst_cons _ _).1 h2
  have h4 := (unl_zero (by decide)).1 h1
  have h5 := inR_iff.1 ((unl_zero (by decide)).1 ((fst_cons _ _).1 h3).1)
  simp at h4
  exact ⟨by omega, h5⟩
/-- Starts that are all 0. -/
def zrs (n : Nat) : List Int := (List.range n).map fun _ => 0
theorem zrs_len (n : Nat) : (zrs n).length = n := by simp [zrs]
theorem zrs_zero (n : Nat) : ∀ a ∈ zrs n, a = 0 := fun a ha => by
  obtain ⟨k, -, rfl⟩ := List.mem_map.1 ha
  rfl
theorem zrs_ok {l : List Sm} {t : Int} (h : 0 ≤ t ∧ t ≤ 400) : stE0 l (zrs l.length) t = 0 := by
  refine (fst_cons _ _).2 ⟨(unl_zero (by decide)).2 (by simp [zrs_len]), (fst_cons _ _).2 ⟨?_, (fst_cons _ _).2 ⟨(unl_zero (by decide)).2 (inR_iff.2 h), rfl⟩⟩⟩
  rw [eachS_zero]
  intro j x hx
  rw [zrs_zero _ x (List.mem_of_getElem? hx)]
  decide
end Go.Proofs.YtdlmkblmljhbfaaDoor
namespace Go.Proofs.YtdlmkblmljhbfaaDoor
set_option linter.unusedSimpArgs false
set_option linter.unusedVariables false
open Go.RowKit Go.Shelf
attribute [local go_sem] bl_al bl_drew bl_drewN bl_refl bx_al bx_drew bx_drewN bx_refl
set_option maxRecDepth 20000
/-- What a chooser knows of the queues. -/
def Wq (n : Nat) (q : Nat → List (Int × Int)) : Prop := (∀ i, n ≤ i → q i = []) ∧ ∀ i, ∀ m ∈ q i, 0 ≤ m.1 ∧ m.1 ≤ 400
set_option maxHeartbeats 8000000 in
theorem c_carryE (fn : FuncId) (ch : (Nat → List (Int × Int)) → Int) (l : List Sm) (st : List Int) (t : Nat) (Al As : Option Addr) (cl cs S Bw : Nat) (Q : QS) (s : Ss) (w0 w : World) (ho : Opn l st) (ht : t ≤ 400)
    (hw : Below w0.heap.size w0 w) (hl : Sl cSm 4 w0 Al l) (hst : Sl cI 1 w0 As st) (h : Snd w0.heap.size S Bw (.slice Al l.length cl) (.slice As st.length cs) l.length Q s w) (hs : St t l.length s)
    (he : Enters Tryd.prog fn) (hch : ∀ Q s w, Below w0.heap.size w0 w → Wq l.length s.q → Snd w0.heap.size S Bw (.slice Al l.length cl) (.slice As st.length cs) l.length Q s w → Calls Tryd.prog fn #[.pointer (some ⟨S, 0, none⟩)] w (Ret (.int .i64 (ch s.q)) w))
    (hcr : ∀ q, ch q = -1 ∨ ∃ i : Nat, i < 6 ∧ ch q = i ∧ q i ≠ []) :
    Calls Tryd.prog 132 #[.pointer (some ⟨S, 0, none⟩), .int .i64 t, .func (.func fn) #[.pointer (some ⟨S, 0, none⟩)] #[]] w
      (fun e w' => e = .returned (.int .i64 (carS ch l st t s).2) ∧ Turn w0.heap.size S Bw (.slice Al l.length cl) (.slice As st.length cs) l.length Q (carS ch l st t s).1 w w') := by
  have hsend := Lib.hid (c_send l st t Al As cl cs S Bw Q s w0 w ho ht hw hl hst h (fun i => by have := hs.len i; omega))
  have hmsg := Lib.hid fun i => sendS_msg ho hs i
  have hnone : Hid (∀ i, l.length ≤ i → sendS l st t s.q i = []) := fun i hi => by rw [sendS_none hi]; exact hs.none i hi
  have hwor := Lib.hid hs.wor
  have hWq : Hid (Wq l.length (sendS l st t s.q)) := ⟨hnone.out, fun i m hm => by have := (hmsg.out i).2 m hm; omega⟩
  have Hw := Lib.hid hw
  have Hft := Lib.hid h.foot_ge
  have he' : ∀ args w, (callFunc fn args).run Tryd.prog w = .ok (.enter fn args) w := he
  have Hch := Lib.hid hch
  have hC1 : Hid (ch (sendS l st t s.q) = -1 → carS ch l st t s = (⟨sendS l st t s.q, s.wo⟩, -1)) := fun h => by rw [carS, if_pos h]
  have hC2 : Hid (∀ (i : Nat) (a k : Int) (r : List (Int × Int)), ch (sendS l st t s.q) = i → sendS l st t s.q i = (a, k) :: r → k - 1 = 0 → carS ch l st t s = (⟨upF (sendS l st t s.q) i r, upF s.wo i (max (s.wo i) (t - a + 1))⟩, (i : Int))) := fun i a k r h1 h2 h3 => by
    rw [carS, if_neg (by rw [h1]; omega), h1, Int.toNat_natCast, h2]
    simp only [h3, if_true]
  have hC3 : Hid (∀ (i : Nat) (a k : Int) (r : List (Int × Int)), ch (sendS l st t s.q) = i → sendS l st t s.q i = (a, k) :: r → ¬ k - 1 = 0 → carS ch l st t s = (⟨upF (sendS l st t s.q) i ((a, k - 1) :: r), s.wo⟩, (i : Int))) := fun i a k r h1 h2 h3 => by
    rw [carS, if_neg (by rw [h1]; omega), h1, Int.toNat_natCast, h2]
    simp only [h3, if_false]
  have hc := hcr (sendS l st t s.q)
  clear hcr hch he hl hst hs ho hw h
  generalize carS ch l st t s = C at *
  obtain ⟨s', v⟩ := C
  dsimp only at *
  generalize sendS l st t s.q = q at *
  generalize l.length = n at *
  generalize st.length = m at *
  go_enter Tryd.func132, Tryd.ntmps132
  go_wp2_with fail
  refine hsend.out.mono ?_
  rintro e w1 ⟨⟨v0, rfl⟩, Q1, h1, hx1, hq1⟩
  go_wp2_with fail
  refine (Hch.out Q1 _ w1 (bx_below Hw.out hx1 (fun x hx => (Hft.out x hx).1)) hWq.out h1).mono ?_
  rintro e w2 ⟨rfl, hb2⟩
  replace hx1 := hx1.step hb2
  replace h1 := h1.below hb2
  clear hb2 hsend Hch hWq Hw Hft
  rcases hc with hc | ⟨i, hi6, hc, hne⟩
  · rw [hc]
    have e := hC1.out hc
    injection e with e1 e2
    subst e1 e2
    go_wp2
    go_ret
    exact ⟨rfl, Q1, h1, hx1, hq1⟩
  · rw [hc]
    obtain ⟨⟨a, k⟩, r, hqi⟩ : ∃ x r, q i = x :: r := List.exists_cons_of_ne_nil hne
    have hin : i < n := by
      rcases Nat.lt_or_ge i n with h | h
      · exact h
      · exact absurd (hnone.out i h) hne
    have hmi := hmsg.out i
    rw [hqi] at hmi
    have hm := hmi.2 (a, k) (by simp)
    have hln := hmi.1
    simp only [List.length_cons] at hln hm
    have hwi := hwor.out i
    have hQ := h1.que i hi6
    dsimp only at hQ
    rw [hqi] at hQ
    obtain ⟨g, off, gs, hA, kg, hrc, hsz, c0, c1, c2, -, -⟩ := hQ.cons
    have hC2' := Lib.hid (hC2.out i a k r hc hqi)
    have hC3' := Lib.hid (hC3.out i a k r hc hqi)
    clear hC1 hC2 hC3 hmi hmsg hnone hwor hQ
    have LS : w2.cell? ⟨S, 2 + i, none⟩ = some (.slice (some ⟨g, off, none⟩) (r.length + 1) (Q1.c i)) := by
      rw [h1.blk.cell, cSnd_at _ _ _ _ _ hi6]
      simp only [vQ, hqi, hA, List.length_cons]
    have L2 : w2.cell? ⟨g, off + 2, none⟩ = some (.int .i64 k) := by rw [kg.cell]; exact c2
    have F2 : w2.frozen? ⟨g, off + 2, none⟩ = false := kg.frozen _
    have hi7 : (i : Int) < 6 := by omega
    go_upto_region 7 with fail
    obtain ⟨h2, hx2⟩ := h1.dec hi6 hqi hA (k - 1)
    have hgl := kg.lt
    have kg2 := kg.set (off + 2) (.int .i64 (k - 1))
    generalize w2.setCell ⟨g, off + 2, none⟩ (.int .i64 (k - 1)) = w3 at *
    clear LS L2 F2 kg
    have c3 : w3.cell? ⟨g, off + 2, none⟩ = some (.int .i64 (k - 1)) := by
      rw [kg2.cell]
      exact Array.getElem?_setIfInBounds_self_of_lt (by omega)
    by_cases hk : k - 1 = 0
    · have e := hC2'.out hk
      go_upto_region 8 with fail
      have H2 := Lib.hid fun W (hb : Below w3.heap.size w3 W) => h2.below hb
      have LW : ∀ W, Below w3.heap.size w3 W → W.cell? ⟨S, 8, none⟩ = some (.slice (some ⟨Bw, 0, none⟩) n n) := fun W hb => by rw [(H2.out W hb).blk.cell]; rfl
      have LC : ∀ W, Below w3.heap.size w3 W → W.cell? ⟨Bw, i, none⟩ = some (.int .i64 (s.wo i)) := fun W hb => by rw [(H2.out W hb).wor.cell]; simp [hin]
      have FC : ∀ W, Below w3.heap.size w3 W → W.frozen? ⟨Bw, i, none⟩ = false := fun W hb => (H2.out W hb).wor.frozen _
      have LA : ∀ W, Below w3.heap.size w3 W → W.cell? ⟨g, off + 1, none⟩ = some (.int .i64 a) := fun W hb => by
        rw [(kg2.below hb).cell, Array.getElem?_setIfInBounds_ne (by omega)]
        exact c1
      have hi8 : (i : Int) < n := by omega
      clear c3
      refine wp_any (w0 := w3) ⟨[21], [], [some 36, some 37, some 38, some 39, some 40, some 41, some 42, some 43, some 44, some 45, some 46, some 47, some 48, some 49, some 50, some 51, some 52, some 53, some 54, some 55, some 56, none], [[], [0], [0, 1], [0, 1, 2], [], [], [5], [5, 6], [5, 6, 7], [], [5, 6, 7, 8, 9], [5, 6, 7, 8, 9, 10], [], [], [13], [13, 14], [13, 14, 15], [12, 13, 14, 15, 16], [12, 13, 14, 15, 16, 17], [5, 6, 7, 8, 9, 10, 11, 12, 13, 14, 15, 16, 17, 18], [0, 1, 2, 3, 4, 5, 6, 7, 8, 9, 10, 11, 12, 13, 14, 15, 16, 17, 18, 19], [0, 1, 2, 3, 4, 5, 6, 7, 8, 9, 10, 11, 12, 13, 14, 15, 16, 17, 18, 19, 20]], [[], [0], [1], [2], [], [], [5], [6], [7], [], [8, 9], [10], [], [], [13], [14], [15], [12, 16], [17], [11, 18], [3, 4], []]⟩ (fun _ => [Bw]) (by kernel_rfl) (by kernel_rfl) (by (with_reducible (repeat' (first | assumption | apply jA | apply jB | apply jC | apply jD | apply jE | apply jF | apply hb3 | omega | (simp; done) | (simp; omega) | (dsimp only; omega))))) (fun u => by simp only [putD, Act.put, List.setIfInBounds_toArray, List.set_cons_zero, List.set_cons_succ, Nat.zero_add, Nat.reduceAdd]; rfl) ?_
      apply RGW.on (i := 0) rfl
      · (simp only [gA, gB, gC] <;> rfl)
      · intro γ u W hcur hd
        clear hd
        (try dsimp only)
        refine ⟨rfl, ?_⟩
        go_simp <;> (try go_bits) <;> with_reducible rfl
      · exact fun _ _ _ => rfl
      · rfl
      dsimp only [nA, cA]
      apply RGW.on (i := 1) rfl
      · (simp only [gA, gB, gC] <;> rfl)
      · intro γ u W hcur hd
        obtain ⟨⟨h0, -, -⟩, -⟩ := hd
        dsimp only at h0
        (try simp only [h0])
        refine ⟨rfl, ?_⟩
        go_simp <;> (try go_bits) <;> with_reducible rfl
      · exact fun _ _ _ => rfl
      · rfl
      dsimp only [nA, cA]
      apply RGW.on (i := 2) rfl
      · (simp only [gA, gB, gC] <;> rfl)
      · intro γ u W hcur hd
        obtain ⟨⟨h1, -, -⟩, -⟩ := hd
        dsimp only at h1
        (try simp only [h1])
        refine ⟨rfl, ?_⟩
        go_simp <;> (try go_bits) <;> with_reducible rfl
      · exact fun _ _ _ => rfl
      · rfl
      dsimp only [nA, cA]
      apply RGW.on (i := 3) rfl
      · (simp only [gA, gB, gC] <;> rfl)
      · intro γ u W hcur hd
        obtain ⟨⟨h2, -, -⟩, -⟩ := hd
        dsimp only at h2
        (try simp only [h2])
        refine ⟨rfl, ?_⟩
        go_simp <;> (try go_bits) <;> with_reducible rfl
      · exact fun _ _ _ => rfl
      · rfl
      dsimp only [nA, cA]
      apply RGW.on (i := 4) rfl
      · (simp only [gA, gB, gC] <;> rfl)
      · intro γ u W hcur hd
        clear hd
        (try dsimp only)
        refine ⟨rfl, ?_⟩
        go_simp <;> (try go_bits) <;> with_reducible rfl
      · exact fun _ _ _ => rfl
      · rfl
      dsimp only [nA, cA]
      apply RGW.on (i := 5) rfl
      · (simp only [gA, gB, gC] <;> rfl)
      · intro γ u W hcur hd
        clear hd
        (try dsimp only)
        refine ⟨rfl, ?_⟩
        go_simp <;> (try go_bits) <;> with_reducible rfl
      · exact fun _ _ _ => rfl
      · rfl
      dsimp only [nA, cA]
      apply RGW.on (i := 6) rfl
      · (simp only [gA, gB, gC] <;> rfl)
      · intro γ u W hcur hd
        obtain ⟨⟨h5, -, -⟩, -⟩ := hd
        dsimp only at h5
        (try simp only [h5])
        refine ⟨rfl, ?_⟩
        go_simp <;> (try go_bits) <;> with_reducible rfl
      · exact fun _ _ _ => rfl
      · rfl
      dsimp only [nA, cA]
      apply RGW.on (i := 7) rfl
      · (simp only [gA, gB, gC] <;> rfl)
      · intro γ u W hcur hd
        obtain ⟨⟨h6, -, -⟩, -⟩ := hd
        dsimp only at h6
        (try simp only [h6])
        refine ⟨rfl, ?_⟩
        go_simp <;> (try go_bits) <;> with_reducible rfl
      · exact fun _ _ _ => rfl
      · rfl
      dsimp only [nA, cA]
      apply RGW.on (i := 8) rfl
      · (simp only [gA, gB, gC] <;> rfl)
      · intro γ u W hcur hd
        obtain ⟨⟨h7, -, -⟩, -⟩ := hd
        dsimp only at h7
        (try simp only [h7])
        refine ⟨rfl, ?_⟩
        go_simp <;> (try go_bits) <;> with_reducible rfl
      · exact fun _ _ _ => rfl
      · rfl
      dsimp only [nA, cA]
      apply RGW.on (i := 9) rfl
      · (simp only [gA, gB, gC] <;> rfl)
      · intro γ u W hcur hd
        clear hd
        (try dsimp only)
        refine ⟨rfl, ?_⟩
        go_simp <;> (try go_bits) <;> with_reducible rfl
      · exact fun _ _ _ => rfl
      · rfl
      dsimp only [nA, cA]
      apply RGW.on (i := 10) rfl
      · (simp only [gA, gB, gC] <;> rfl)
      · intro γ u W hcur hd
        obtain ⟨⟨h8, -, -⟩, ⟨h9, -, -⟩, -⟩ := hd
        dsimp only at h8 h9
        (try simp only [h8, h9])
        refine ⟨rfl, ?_⟩
        go_simp <;> (try go_bits) <;> with_reducible rfl
      · exact fun _ _ _ => rfl
      · rfl
      dsimp only [nA, cA]
      apply RGW.on (i := 11) rfl
      · (simp only [gA, gB, gC] <;> rfl)
      · intro γ u W hcur hd
        obtain ⟨⟨h10, -, -⟩, -⟩ := hd
        dsimp only at h10
        (try simp only [h10])
        refine ⟨rfl, ?_⟩
        go_simp <;> (try go_bits) <;> with_reducible rfl
      · exact fun _ _ _ => rfl
      · rfl
      dsimp only [nA, cA]
      apply RGW.on (i := 12) rfl
      · (simp only [gA, gB, gC] <;> rfl)
      · intro γ u W hcur hd
        clear hd
        (try dsimp only)
        refine ⟨rfl, ?_⟩
        go_simp <;> (try go_bits) <;> with_reducible rfl
      · exact fun _ _ _ => rfl
      · rfl
      dsimp only [nA, cA]
      apply RGW.on (i := 13) rfl
      · (simp only [gA, gB, gC] <;> rfl)
      · intro γ u W hcur hd
        clear hd
        (try dsimp only)
        refine ⟨rfl, ?_⟩
        go_simp <;> (try go_bits) <;> with_reducible rfl
      · exact fun _ _ _ => rfl
      · rfl
      dsimp only [nA, cA]
      apply RGW.on (i := 14) rfl
      · (simp only [gA, gB, gC] <;> rfl)
      · intro γ u W hcur hd
        obtain ⟨⟨h13, -, -⟩, -⟩ := hd
        dsimp only at h13
        (try simp only [h13])
        refine ⟨rfl, ?_⟩
        go_simp <;> (try go_bits) <;> with_reducible rfl
      · exact fun _ _ _ => rfl
      · rfl
      dsimp only [nA, cA]
      apply RGW.on (i := 15) rfl
      · (simp only [gA, gB, gC] <;> rfl)
      · intro γ u W hcur hd
        obtain ⟨⟨h14, -, -⟩, -⟩ := hd
        dsimp only at h14
        (try simp only [h14])
        refine ⟨rfl, ?_⟩
        go_simp <;> (try go_bits) <;> with_reducible rfl
      · exact fun _ _ _ => rfl
      · rfl
      dsimp only [nA, cA]
      apply RGW.on (i := 16) rfl
      · (simp only [gA, gB, gC] <;> rfl)
      · intro γ u W hcur hd
        obtain ⟨⟨h15, -, -⟩, -⟩ := hd
        dsimp only at h15
        (try simp only [h15])
        refine ⟨rfl, ?_⟩
        go_simp <;> (try go_bits) <;> with_reducible rfl
      · exact fun _ _ _ => rfl
      · rfl
      dsimp only [nA, cA]
      apply RGW.on (i := 17) rfl
      · (simp only [gA, gB, gC] <;> rfl)
      · intro γ u W hcur hd
        obtain ⟨⟨h12, -, -⟩, ⟨h16, -, -⟩, -⟩ := hd
        dsimp only at h12 h16
        (try simp only [h12, h16])
        refine ⟨rfl, ?_⟩
        go_simp <;> (try go_bits) <;> with_reducible rfl
      · exact fun _ _ _ => rfl
      · rfl
      dsimp only [nA, cA]
      apply RGW.on (i := 18) rfl
      · (simp only [gA, gB, gC] <;> rfl)
      · intro γ u W hcur hd
        obtain ⟨⟨h17, -, -⟩, -⟩ := hd
        dsimp only at h17
        (try simp only [h17])
        refine ⟨rfl, ?_⟩
        go_simp <;> (try go_bits) <;> with_reducible rfl
      · exact fun _ _ _ => rfl
      · rfl
      dsimp only [nA, cA]
      apply RGW.on (i := 19) rfl
      · (simp only [gA, gB, gC] <;> rfl)
      · intro γ u W hcur hd
        obtain ⟨⟨h11, -, -⟩, ⟨h18, -, -⟩, -⟩ := hd
        dsimp only at h11 h18
        (try simp only [h11, h18])
        refine ⟨rfl, ?_⟩
        go_simp <;> (try go_bits) <;> with_reducible rfl
      · exact fun _ _ _ => rfl
      · rfl
      dsimp only [nA, cA]
      apply RGW.on (i := 20) rfl
      · (simp only [gA, gB, gC] <;> rfl)
      · intro γ u W hcur hd
        obtain ⟨⟨h3, -, -⟩, ⟨h4, -, -⟩, -⟩ := hd
        dsimp only at h3 h4
        (try simp only [h3, h4])
        refine ⟨rfl, ?_⟩
        go_simp <;> (try go_bits) <;> with_reducible rfl
      · exact fun _ _ _ => rfl
      · rfl
      dsimp only [nA, cA]
      refine RGW.skip (i := 21) rfl rfl ?_
      dsimp only [nA, cA]
      refine RGW.fin (fun γ u w4 hw4 hd hdis => ?_)
      obtain ⟨⟨h0, -, -⟩, ⟨h1, -, -⟩, ⟨h2, -, -⟩, ⟨h3, -, -⟩, ⟨h4, -, -⟩, ⟨h5, -, -⟩, ⟨h6, -, -⟩, ⟨h7, -, -⟩, ⟨h8, -, -⟩, ⟨h9, -, -⟩, ⟨h10, -, -⟩, ⟨h11, -, -⟩, ⟨h12, -, -⟩, ⟨h13, -, -⟩, ⟨h14, -, -⟩, ⟨h15, -, -⟩, ⟨h16, -, -⟩, ⟨h17, -, -⟩, ⟨h18, -, -⟩, ⟨h19, -, -⟩, ⟨h20, -, -⟩, -⟩ := hd
      dsimp only at h0 h1 h2 h3 h4 h5 h6 h7 h8 h9 h10 h11 h12 h13 h14 h15 h16 h17 h18 h19 h20
      clear hdis
      simp only [h0, h1, h2, h3, h4, h5, h6, h7, h8, h9, h10, h11, h12, h13, h14, h15, h16, h17, h18, h19, h20]
      clear h20 h19 h18 h17 h16 h15 h14 h13 h12 h11 h10 h9 h8 h7 h6 h5 h4 h3 h2 h1 h0
      clear u
      simp only [List.map_cons, List.map_nil]
      apply PlanW.step
      · (simp only [gA, gB, gC] <;> rfl)
      · rfl
      intro K hK
      first
      | refine wp_store_keep (X := [Bw]) (w0 := w4) rfl rfl rfl (by with_reducible first | exact bx_refl _ _ | assumption) (by with_reducible first | assumption | (apply Blk.below (hb := hw4); assumption)) (by simp) (by kernel_rfl) (by rfl) (by simp [Value.oneCell']) (fun hres1 hcur => ?_)
        refine hK.out _ _ hcur (fun _ => ?_)
      | go_simp
        refine hK.out _ _ (by (with_reducible (repeat' (first | assumption | apply jG | apply jH | apply jI | apply jJ | apply jK | apply hb3x | omega | (simp; done) | (simp; omega) | (dsimp only; omega))))) (fun hcur => ?_)
      clear hK K
      try simp only [Act.put, List.setIfInBounds_toArray, List.set_cons_zero, List.set_cons_succ]
      refine PlanW.done ?_
      have hb3 := bl_tt hw4
      obtain ⟨h3, hx3⟩ := (h2.below hw4).worst hin (max (s.wo i) ((t : Int) - a + 1))
      replace hx3 := (hx2.step hw4).trans hx3
      generalize w4.setCell ⟨Bw, i, none⟩ (.int .i64 (max (s.wo i) ((t : Int) - a + 1))) = w5 at *
      clear hb3 hcur LW LC FC LA H2 hx2 h2 hw4 kg2
      have H3 := Lib.hid fun W (hb : Below w5.heap.size w5 W) => h3.below hb
      have hup : upF q i ((a, k - 1) :: r) i = (a, k - 1) :: r := by simp [upF]
      have LS : ∀ W, Below w5.heap.size w5 W → W.cell? ⟨S, 2 + i, none⟩ = some (.slice (some ⟨g, off, none⟩) (r.length + 1) (Q1.c i)) := fun W hb => by
        rw [(H3.out W hb).blk.cell, cSnd_at _ _ _ _ _ hi6]
        simp only [vQ, hup, hA, List.length_cons]
      have FS : ∀ W, Below w5.heap.size w5 W → W.frozen? ⟨S, 2 + i, none⟩ = false := fun W hb => (H3.out W hb).blk.frozen _
      clear hi8
      have hb1 : (1 : Int) ≤ (r.length : Int) + 1 := by omega
      go_upto_region 9 with fail
      refine wp_any (w0 := w5) ⟨[12], [], [some 57, some 58, some 59, some 60, some 61, some 62, some 63, some 64, some 65, some 66, some 67, some 68, none], [[], [], [], [], [2], [2, 4], [2, 3, 4, 5], [2, 3, 4, 5, 6], [2, 3, 4, 5, 6, 7], [0], [0, 9], [0, 1, 2, 3, 4, 5, 6, 7, 8, 9, 10], [0, 1, 2, 3, 4, 5, 6, 7, 8, 9, 10, 11]], [[], [], [], [], [2], [4], [3, 5], [6], [7], [0], [9], [1, 10], []]⟩ (fun _ => [S]) (by kernel_rfl) (by kernel_rfl) (by (with_reducible (repeat' (first | assumption | apply jA | apply jB | apply jC | apply jD | apply jE | apply jF | apply hb3 | omega | (simp; done) | (simp; omega) | (dsimp only; omega))))) (fun u => by simp only [putD, Act.put, List.setIfInBounds_toArray, List.set_cons_zero, List.set_cons_succ, Nat.zero_add, Nat.reduceAdd]; rfl) ?_
      apply RGW.on (i := 0) rfl
      · (simp only [gA, gB, gC] <;> rfl)
      · intro γ u W hcur hd
        clear hd
        (try dsimp only)
        refine ⟨rfl, ?_⟩
        go_simp <;> (try go_bits) <;> with_reducible rfl
      · exact fun _ _ _ => rfl
      · rfl
      dsimp only [nA, cA]
      apply RGW.on (i := 1) rfl
      · (simp only [gA, gB, gC] <;> rfl)
      · intro γ u W hcur hd
        clear hd
        (try dsimp only)
        refine ⟨rfl, ?_⟩
        go_simp <;> (try go_bits) <;> with_reducible rfl
      · exact fun _ _ _ => rfl
      · rfl
      dsimp only [nA, cA]
      apply RGW.on (i := 2) rfl
      · (simp only [gA, gB, gC] <;> rfl)
      · intro γ u W hcur hd
        clear hd
        (try dsimp only)
        refine ⟨rfl, ?_⟩
        go_simp <;> (try go_bits) <;> with_reducible rfl
      · exact fun _ _ _ => rfl
      · rfl
      dsimp only [nA, cA]
      apply RGW.on (i := 3) rfl
      · (simp only [gA, gB, gC] <;> rfl)
      · intro γ u W hcur hd
        clear hd
        (try dsimp only)
        refine ⟨rfl, ?_⟩
        go_simp <;> (try go_bits) <;> with_reducible rfl
      · exact fun _ _ _ => rfl
      · rfl
      dsimp only [nA, cA]
      apply RGW.on (i := 4) rfl
      · (simp only [gA, gB, gC] <;> rfl)
      · intro γ u W hcur hd
        obtain ⟨⟨h2, -, -⟩, -⟩ := hd
        dsimp only at h2
        (try simp only [h2])
        refine ⟨rfl, ?_⟩
        go_simp <;> (try go_bits) <;> with_reducible rfl
      · exact fun _ _ _ => rfl
      · rfl
      dsimp only [nA, cA]
      apply RGW.on (i := 5) rfl
      · (simp only [gA, gB, gC] <;> rfl)
      · intro γ u W hcur hd
        obtain ⟨⟨h4, -, -⟩, -⟩ := hd
        dsimp only at h4
        (try simp only [h4])
        refine ⟨rfl, ?_⟩
        go_simp <;> (try go_bits) <;> with_reducible rfl
      · exact fun _ _ _ => rfl
      · rfl
      dsimp only [nA, cA]
      apply RGW.on (i := 6) rfl
      · (simp only [gA, gB, gC] <;> rfl)
      · intro γ u W hcur hd
        obtain ⟨⟨h3, -, -⟩, ⟨h5, -, -⟩, -⟩ := hd
        dsimp only at h3 h5
        (try simp only [h3, h5])
        refine ⟨rfl, ?_⟩
        go_simp <;> (try go_bits) <;> with_reducible rfl
      · exact fun _ _ _ => rfl
      · rfl
      dsimp only [nA, cA]
      apply RGW.on (i := 7) rfl
      · (simp only [gA, gB, gC] <;> rfl)
      · intro γ u W hcur hd
        obtain ⟨⟨h6, -, -⟩, -⟩ := hd
        dsimp only at h6
        (try simp only [h6])
        refine ⟨rfl, ?_⟩
        go_simp <;> (try go_bits) <;> with_reducible rfl
      · exact fun _ _ _ => rfl
      · rfl
      dsimp only [nA, cA]
      apply RGW.on (i := 8) rfl
      · (simp only [gA, gB, gC] <;> rfl)
      · intro γ u W hcur hd
        obtain ⟨⟨h7, -, -⟩, -⟩ := hd
        dsimp only at h7
        (try simp only [h7])
        refine ⟨rfl, ?_⟩
        go_simp <;> (try go_bits) <;> with_reducible rfl
      · exact fun _ _ _ => rfl
      · rfl
      dsimp only [nA, cA]
      apply RGW.on (i := 9) rfl
      · (simp only [gA, gB, gC] <;> rfl)
      · intro γ u W hcur hd
        obtain ⟨⟨h0, -, -⟩, -⟩ := hd
        dsimp only at h0
        (try simp only [h0])
        refine ⟨rfl, ?_⟩
        go_simp <;> (try go_bits) <;> with_reducible rfl
      · exact fun _ _ _ => rfl
      · rfl
      dsimp only [nA, cA]
      apply RGW.on (i := 10) rfl
      · (simp only [gA, gB, gC] <;> rfl)
      · intro γ u W hcur hd
        obtain ⟨⟨h9, -, -⟩, -⟩ := hd
        dsimp only at h9
        (try simp only [h9])
        refine ⟨rfl, ?_⟩
        go_simp <;> (try go_bits) <;> with_reducible rfl
      · exact fun _ _ _ => rfl
      · rfl
      dsimp only [nA, cA]
      apply RGW.on (i := 11) rfl
      · (simp only [gA, gB, gC] <;> rfl)
      · intro γ u W hcur hd
        obtain ⟨⟨h1, -, -⟩, ⟨h10, -, -⟩, -⟩ := hd
        dsimp only at h1 h10
        (try simp only [h1, h10])
        refine ⟨rfl, ?_⟩
        go_simp <;> (try go_bits) <;> with_reducible rfl
      · exact fun _ _ _ => rfl
      · rfl
      dsimp only [nA, cA]
      refine RGW.skip (i := 12) rfl rfl ?_
      dsimp only [nA, cA]
      refine RGW.fin (fun γ u w6 hw6 hd hdis => ?_)
      obtain ⟨⟨h0, -, -⟩, ⟨h1, -, -⟩, ⟨h2, -, -⟩, ⟨h3, -, -⟩, ⟨h4, -, -⟩, ⟨h5, -, -⟩, ⟨h6, -, -⟩, ⟨h7, -, -⟩, ⟨h8, -, -⟩, ⟨h9, -, -⟩, ⟨h10, -, -⟩, ⟨h11, -, -⟩, -⟩ := hd
      dsimp only at h0 h1 h2 h3 h4 h5 h6 h7 h8 h9 h10 h11
      clear hdis
      simp only [h0, h1, h2, h3, h4, h5, h6, h7, h8, h9, h10, h11]
      clear h11 h10 h9 h8 h7 h6 h5 h4 h3 h2 h1 h0
      clear u
      simp only [List.map_cons, List.map_nil]
      apply PlanW.step
      · (simp only [gA, gB, gC] <;> rfl)
      · rfl
      intro K hK
      first
      | refine wp_store_keep (X := [S]) (w0 := w6) rfl rfl rfl (by with_reducible first | exact bx_refl _ _ | assumption) (by with_reducible first | assumption | (apply Blk.below (hb := hw6); assumption)) (by simp) (by kernel_rfl) (by rfl) (by simp [Value.oneCell']) (fun hres1 hcur => ?_)
        refine hK.out _ _ hcur (fun _ => ?_)
      | go_simp
        refine hK.out _ _ (by (with_reducible (repeat' (first | assumption | apply jG | apply jH | apply jI | apply jJ | apply jK | apply hb3x | omega | (simp; done) | (simp; omega) | (dsimp only; omega))))) (fun hcur => ?_)
      clear hK K
      try simp only [Act.put, List.setIfInBounds_toArray, List.set_cons_zero, List.set_cons_succ]
      refine PlanW.done ?_
      have hb3 := bl_tt hw6
      obtain ⟨o, ho, hoo⟩ : ∃ o, (o = off + 3 ∨ (Q1.c i = 1 ∧ o = off)) ∧ (if Q1.c i = 1 then some (⟨g, off, none⟩ : Addr) else some ⟨g, off + 3, none⟩) = some ⟨g, o, none⟩ := by
        by_cases h1c : Q1.c i = 1
        · exact ⟨off, .inr ⟨h1c, rfl⟩, by rw [if_pos h1c]⟩
        · exact ⟨off + 3, .inl rfl, by rw [if_neg h1c]⟩
      obtain ⟨h4, hx4, hq4⟩ := (h3.below hw6).pop hi6 hup hA ho
      replace hx4 := (hx3.step hw6).trans hx4
      injection e with e1 e2
      subst e1 e2
      simp only [hoo]
      generalize w6.setCell ⟨S, 2 + i, none⟩ (.slice (some ⟨g, o, none⟩) r.length (Q1.c i - 1)) = w7 at *
      clear hb3 hcur LS FS H3
      go_wp2
      go_ret
      have huu : upF (upF q i ((a, k - 1) :: r)) i r = upF q i r := by funext j; unfold upF; split <;> rfl
      (try dsimp only at h4)
      rw [huu] at h4
      exact ⟨rfl, Turn.trans hx1 hq1 h4 hx4 hq4⟩
    · have e := hC3'.out hk
      injection e with e1 e2
      subst e1 e2
      go_wp2
      go_ret
      exact ⟨rfl, Turn.trans hx1 hq1 h2 hx2 (fun _ _ => rfl)⟩
end Go.Proofs.YtdlmkblmljhbfaaDoor
namespace Go.Proofs.YtdlmkblmljhbfaaDoor
set_option linter.unusedSimpArgs false
set_option linter.unusedVariables false
open Go.RowKit Go.Shelf
attribute [local go_sem] bl_al bl_drew bl_drewN bl_refl bx_al bx_drew bx_drewN bx_refl
set_option maxRecDepth 20000
set_option maxHeartbeats 8000000 in
theorem c_runE (fn : FuncId) (ch : (Nat → List (Int × Int)) → Int) (l : List Sm) (st : List Int) (T : Nat) (Al As : Option Addr) (cl cs S Bw : Nat) (Q : QS) (w0 w : World) (ho : Opn l st) (hT : T ≤ 400)
    (hw : Below w0.heap.size w0 w) (hl : Sl cSm 4 w0 Al l) (hst : Sl cI 1 w0 As st) (h : Snd w0.heap.size S Bw (.slice Al l.length cl) (.slice As st.length cs) l.length Q ss0 w)
    (he : Enters Tryd.prog fn) (hch : ∀ Q s w, Below w0.heap.size w0 w → Wq l.length s.q → Snd w0.heap.size S Bw (.slice Al l.length cl) (.slice As st.length cs) l.length Q s w → Calls Tryd.prog fn #[.pointer (some ⟨S, 0, none⟩)] w (Ret (.int .i64 (ch s.q)) w))
    (hcr : ∀ q, ch q = -1 ∨ ∃ i : Nat, i < 6 ∧ ch q = i ∧ q i ≠ []) :
    Calls Tryd.prog 96 #[.pointer (some ⟨S, 0, none⟩), .int .i64 T, .func (.func fn) #[.pointer (some ⟨S, 0, none⟩)] #[]] w
      (fun e w' => ∃ A c, e = .returned (.slice A T c) ∧ w'.ownsRow w.heap.size 3 1 (.slice A T c) T ((runS ch l st T).2.map (.int .i64)) ∧
        ∃ Q', Snd w0.heap.size S Bw (.slice Al l.length cl) (.slice As st.length cs) l.length Q' (runS ch l st T).1 w' ∧ BX (foot S Bw Q) w w') := by
  obtain ⟨i0, hi, hz0, hz1, hz2⟩ := info_parts infoI
  have hcar := Lib.hid fun (t : Nat) (ht : t < T) (Q' : QS) (W : World) (hb : Below w0.heap.size w0 W) (h' : Snd w0.heap.size S Bw (.slice Al l.length cl) (.slice As st.length cs) l.length Q' (runS ch l st t).1 W) =>
    c_carryE fn ch l st t Al As cl cs S Bw Q' (runS ch l st t).1 w0 W ho (by omega) hb hl hst h' (St.run ho t) he hch hcr
  have hft := Lib.hid h.foot_ge
  have Hw := Lib.hid hw
  have H := Lib.hid h
  have hst1 := Lib.hid fun t => (show (runS ch l st (t + 1)).2 = (runS ch l st t).2 ++ [(carS ch l st t (runS ch l st t).1).2] from rfl)
  have hst2 := Lib.hid fun t : Nat => (show (runS ch l st (t + 1)).1 = (carS ch l st t (runS ch l st t).1).1 from rfl)
  clear hch hcr he hl hst ho hw h
  generalize l.length = n at *
  generalize st.length = m at *
  go_enter Tryd.func96, Tryd.ntmps96
  go_wp2
  go_loopw [7, 10] (fun o i wr => ∃ t : Nat, t ≤ T ∧ i = .int .i64 t ∧ ∃ Q', Snd w0.heap.size S Bw (.slice Al n cl) (.slice As m cs) n Q' (runS ch l st t).1 wr ∧ BX (foot S Bw Q) w wr ∧ (∀ g ∈ foot S Bw Q', g ∈ foot S Bw Q ∨ w.heap.size ≤ g) ∧
    wr.ownsRow w.heap.size 3 1 o t ((runS ch l st t).2.map (.int .i64)) ∧ ∀ g, o.ownBlock = some g → g ∉ foot S Bw Q') (fun _ i _ => T - (intOf i).toNat)
  case atStart => exact ⟨0, Nat.zero_le _, rfl, Q, H.out, bx_refl _ _, fun g hg => .inl hg, World.ownsRow_nil _ _ _ _, fun g hg => by simp [Value.ownBlock] at hg⟩
  case round =>
    obtain ⟨t, ht, rfl, Q', h1, h2, h3, h4, h5⟩ := hrel
    by_cases htT : t < T
    rotate_left
    · go_wp2
      go_ret
      have e : t = T := by omega
      subst e
      obtain ⟨A, c, rfl⟩ := own_slice h4
      exact ⟨A, c, rfl, h4, Q', h1, h2⟩
    have hbr := bx_below Hw.out h2 (fun x hx => (hft.out x hx).1)
    go_wp2_with fail
    refine (hcar.out t htT Q' wr hbr h1).mono ?_
    rintro e w3 ⟨rfl, Q3, k1, k2, k3⟩
    rw [← hst2.out t] at k1
    have hs1 := hst1.out t
    generalize (carS ch l st t (runS ch l st t).1).2 = v at *
    have hown3 := own_keep h4 k2 h5
    have hlt4 := own_lt h4
    have hge4 := own_ge h4
    have h7 : ∀ g ∈ foot S Bw Q3, g ∈ foot S Bw Q' ∨ wr.heap.size ≤ g := foot_new k3
    have hsz := h2.size
    have hsz2 := k2.size
    have hf3 := Lib.hid k1.foot_ge
    go_wp2_with (at_builtin; refine wpList_append_own_at _ rfl _ _ 22 rfl w.heap.size 3 i0 (.int .i64 0) 1 8 Tryd.underlying22 hi hz0 hz1 hz2 rfl (by decide) _ _ _ rfl (hown3.alloc _) ⟨w3.heap.size, 0, none⟩ 1 1 [.int .i64 v] rfl rfl ?c1 ?c2 ?c3 ?c4 ?c5 ?_)
    case c1 =>
      intro j u hj
      match j, hj with
      | 0, hj => simp at hj; subst hj; simp [Addr.add]
    case c2 => intro u hu; simp at hu; subst hu; rfl
    case c3 => unfold maxLen; omega
    case c4 => omega
    case c5 => simp; omega
    intro v' w4 hown' hgrow hnil hat
    have hout : ∀ g, u7.ownBlock = some g → g ∉ foot S Bw Q3 := fun g hg hm => by
      rcases h7 g hm with h | h
      · exact h5 g hg h
      · have := hlt4 g hg; omega
    have hsnd := (k1.below (bl_al (.cells #[.int .i64 v] 3) (bl_refl w3))).grown hgrow (fun g hg e => hout g e.symm hg)
    have hbx := bx_grown ((bx_trX h2 k2 h3).step (bl_al (.cells #[.int .i64 v] 3) (bl_refl w3))) hgrow hge4 (fun g hg => (hft.out g hg).2)
    have hnew : ∀ g ∈ foot S Bw Q3, g ∈ foot S Bw Q ∨ w.heap.size ≤ g := fun g hg => by
      rcases h7 g hg with h | h
      · exact h3 g h
      · exact .inr (by omega)
    have hdis : ∀ g, v'.ownBlock = some g → g ∉ foot S Bw Q3 := fun g hg hm => by
      rcases hat with e | e
      · exact hout g (e ▸ hg) hm
      · rw [e] at hg
        simp at hg
        have := (hf3.out g hm).2
        omega
    clear hat hnil hgrow hout hown3 hlt4 hge4 k2 k3 hf3
    go_wp2
    go_roundw
    case rel => exact ⟨t + 1, by omega, by go_num, Q3, hsnd, hbx, hnew, by rw [hs1]; simpa using hown', hdis⟩
    case measure => simp [intOf]; omega
end Go.Proofs.YtdlmkblmljhbfaaDoor
namespace Go.Proofs.YtdlmkblmljhbfaaDoor
set_option linter.unusedSimpArgs false
set_option linter.unusedVariables false
open Go.RowKit Go.Shelf
attribute [local go_sem] bl_al bl_drew bl_drewN bl_refl bx_al bx_drew bx_drewN bx_refl
set_option maxRecDepth 20000
theorem dlTo_cr (l : List Sm) (q : Nat → List (Int × Int)) : ∀ n, n ≤ 6 → (dlTo l q n).1 = -1 ∨ ∃ j : Nat, j < n ∧ (dlTo l q n).1 = j ∧ q j ≠ []
  | 0, _ => .inl rfl
  | n + 1, h => by
    have ih := dlTo_cr l q n (by omega)
    have old : (dlTo l q n).1 = -1 ∨ ∃ j : Nat, j < n + 1 ∧ (dlTo l q n).1 = j ∧ q j ≠ [] := by
      rcases ih with h | ⟨j, hj, e, hq⟩
      · exact .inl h
      · exact .inr ⟨j, by omega, e, hq⟩
    unfold dlTo
    split
    · exact old
    · rename_i a k r hq
      split
      · exact .inr ⟨n, by omega, rfl, by rw [hq]; simp⟩
      · exact old
theorem dlS_cr (l : List Sm) (q : Nat → List (Int × Int)) : dlS l q = -1 ∨ ∃ i : Nat, i < 6 ∧ dlS l q = i ∧ q i ≠ [] := dlTo_cr l q 6 (by decide)
theorem dlTo_bd {l : List Sm} {q : Nat → List (Int × Int)} (hsm : ∀ x ∈ l, 1 ≤ x.dl ∧ x.dl ≤ 60) (hq : Wq l.length q) : ∀ n, 0 ≤ (dlTo l q n).2 ∧ (dlTo l q n).2 ≤ 460
  | 0 => by simp [dlTo]
  | n + 1 => by
    have ih := dlTo_bd hsm hq n
    unfold dlTo
    split
    · exact ih
    · rename_i a k r hqn
      split
      · have h1 := hq.2 n (a, k) (by rw [hqn]; simp)
        have hn : n < l.length := Nat.lt_of_not_le fun h => by rw [hq.1 n h] at hqn; cases hqn
        have h2 := hsm l[n] (List.getElem_mem hn)
        have e : dlAt l n = l[n].dl := by simp [dlAt, List.getElem?_eq_getElem hn]
        simp only [e] at h1 ⊢
        omega
      · exact ih
set_option maxHeartbeats 4000000 in
theorem c_byDeadline {b S Bw : Nat} {l : List Sm} {Al : Option Addr} {cl : Nat} {vs : Value} {Q : QS} {s : Ss} {w : World} (hlen : l.length ≤ 6) (hsm : ∀ x ∈ l, 1 ≤ x.dl ∧ x.dl ≤ 60) (hl : Sl cSm 4 w Al l) (hq : Wq l.length s.q)
    (h : Snd b S Bw (.slice Al l.length cl) vs l.length Q s w) : Calls Tryd.prog 117 #[.pointer (some ⟨S, 0, none⟩)] w (Ret (.int .i64 (dlS l s.q)) w) := by
  have hD : ∀ (k : Nat) (W : World), k < 6 → (Instr.index 145 (.agg #[vQ Q s.q 0, vQ Q s.q 1, vQ Q s.q 2, vQ Q s.q 3, vQ Q s.q 4, vQ Q s.q 5]) (.int .i64 k)).run Tryd.prog W = .ok (vQ Q s.q k) W := fun k W hk => by
    match k, hk with
    | 0, _ => rfl
    | 1, _ => rfl
    | 2, _ => rfl
    | 3, _ => rfl
    | 4, _ => rfl
    | 5, _ => rfl
  have H := Lib.hid h
  have Hl := Lib.hid hl
  have HB := Lib.hid (dlTo_bd (l := l) (q := s.q) hsm hq)
  have HQ := Lib.hid hq
  have Hs := Lib.hid hsm
  have L : ∀ k, k < 9 → ∀ W, Below w.heap.size w W → W.cell? ⟨S, k, none⟩ = (cSnd (.slice Al l.length cl) vs (vQ Q s.q) (.slice (some ⟨Bw, 0, none⟩) l.length l.length))[k]? := fun k _ W hb => (H.out.blk.below hb).cell k
  have L0 : ∀ W, Below w.heap.size w W → W.cell? ⟨S, 0, none⟩ = some (.slice Al l.length cl) := fun W hb => L 0 (by decide) W hb
  have L2 : ∀ W, Below w.heap.size w W → W.cell? ⟨S, 2, none⟩ = some (vQ Q s.q 0) := fun W hb => L 2 (by decide) W hb
  have L3 : ∀ W, Below w.heap.size w W → W.cell? ⟨S, 3, none⟩ = some (vQ Q s.q 1) := fun W hb => L 3 (by decide) W hb
  have L4 : ∀ W, Below w.heap.size w W → W.cell? ⟨S, 4, none⟩ = some (vQ Q s.q 2) := fun W hb => L 4 (by decide) W hb
  have L5 : ∀ W, Below w.heap.size w W → W.cell? ⟨S, 5, none⟩ = some (vQ Q s.q 3) := fun W hb => L 5 (by decide) W hb
  have L6 : ∀ W, Below w.heap.size w W → W.cell? ⟨S, 6, none⟩ = some (vQ Q s.q 4) := fun W hb => L 6 (by decide) W hb
  have L7 : ∀ W, Below w.heap.size w W → W.cell? ⟨S, 7, none⟩ = some (vQ Q s.q 5) := fun W hb => L 7 (by decide) W hb
  clear L hl hq hsm h
  go_enter Tryd.func117, Tryd.ntmps117
  have hT := Lib.hid fun k : Nat => (show (match s.q k with
    | [] => dlTo l s.q k
    | (a, _) :: _ => if (dlTo l s.q k).1 = -1 ∨ a + dlAt l k < (dlTo l s.q k).2 then ((k : Int), a + dlAt l k) else dlTo l s.q k) = dlTo l s.q (k + 1) from rfl)
  have h6 : (dlTo l s.q 6).1 = dlS l s.q := rfl
  generalize dlS l s.q = D at h6 ⊢
  obtain ⟨d, hd⟩ : ∃ d : Nat → Int × Int, ∀ k, dlTo l s.q k = d k := ⟨_, fun _ => rfl⟩
  have hd0 : d 0 = (-1, 0) := (hd 0).symm
  simp only [hd] at hT HB h6
  clear hd
  go_wp2
  go_loopw [3, 4, 12] (fun x y i wr => ∃ k : Nat, k ≤ 6 ∧ i = .int .i64 k ∧ x = .int .i64 (d k).1 ∧ y = .int .i64 (d k).2 ∧ Below w.heap.size w wr) (fun _ _ i _ => 6 - (intOf i).toNat)
  case atStart => exact ⟨0, by decide, rfl, by rw [hd0], by rw [hd0], bl_refl w⟩
  case round =>
    obtain ⟨k, hk, rfl, rfl, rfl, hb⟩ := hrel
    by_cases hk6 : k < 6
    rotate_left
    · go_wp2
      go_ret
      have : k = 6 := by omega
      subst this
      exact ⟨by rw [← h6]; rfl, hb⟩
    have hk7 : (k : Int) < 6 := by omega
    have hDk := fun W => hD k W hk6
    have hv : vQ Q s.q k = .slice (Q.A k) (s.q k).length (Q.c k) := rfl
    rw [hv] at hDk
    clear hv hD
    go_upto_region 5 with fail
    have hTk := hT.out k
    have hBk := HB.out k
    rcases hqk : s.q k with _ | ⟨⟨a, f⟩, r⟩
    · rw [hqk] at hTk
      replace hqk := Lib.hid hqk
      clear L0 L2 L3 L4 L5 L6 L7 hDk
      dsimp only at hTk
      have hn : ((([] : List (Int × Int)).length : Nat) : Int) = 0 := rfl
      rw [hTk]
      go_wp2
      go_roundw
      case rel => exact ⟨k + 1, by omega, by go_num, rfl, rfl, hb⟩
      case measure => simp [intOf]; omega
    · rw [hqk] at hTk
      have hkn : k < l.length := Nat.lt_of_not_le fun h => by rw [HQ.out.1 k h] at hqk; cases hqk
      have ham := HQ.out.2 k (a, f) (by rw [hqk]; simp)
      have hQu := H.out.que k hk6
      rw [hqk] at hQu
      obtain ⟨g, off, gs, hA, kg, -, -, -, c1, -, -, -⟩ := hQu.cons
      have hx : l[k]? = some l[k] := List.getElem?_eq_getElem hkn
      have hdl : dlAt l k = l[k].dl := by simp [dlAt, hx]
      have hsmk := Hs.out l[k] (List.getElem_mem hkn)
      generalize l[k] = x at *
      obtain ⟨sb, so, rfl, hc⟩ := Hl.out k x hx
      have LD : ∀ W, Below w.heap.size w W → W.cell? ⟨sb, so + k * 4 + 2, none⟩ = some (.int .i64 x.dl) := later (hc 2 _ rfl)
      have LQ : ∀ W, Below w.heap.size w W → W.cell? ⟨g, off + 1, none⟩ = some (.int .i64 a) := fun W hb => by rw [(kg.below hb).cell]; exact c1
      rw [hdl] at hTk
      rw [hA]
      replace hqk := Lib.hid hqk
      have hkn2 : (k : Int) < l.length := by omega
      have hlen2 : l.length ≤ 6 := hlen
      clear L2 L3 L4 L5 L6 L7 hDk hc hx hQu kg c1 hdl hA hlen
      generalize x.dl = dl at *
      dsimp only at hTk ham
      have hr1 : ((r.length : Nat) : Int) + 1 ≠ 0 := by omega
      have hr2 : (((a, f) :: r).length : Int) = (r.length : Int) + 1 := by simp
      replace L0 := fun W (h : Below wr.heap.size wr W) => L0 W (bl_tr hb h)
      replace LQ := fun W (h : Below wr.heap.size wr W) => LQ W (bl_tr hb h)
      replace LD := fun W (h : Below wr.heap.size wr W) => LD W (bl_tr hb h)
      go_upto_region 6 with fail
      refine wp_any (w0 := wr) ⟨[], [], [some 19, some 20, some 21, some 22, some 23, some 24, some 25, some 26, some 27, some 28, some 29, some 30, some 31, some 7], [[], [0], [0, 1], [0, 1, 2], [], [4], [4, 5], [4, 5, 6], [], [4, 5, 6, 7, 8], [4, 5, 6, 7, 8, 9], [4, 5, 6, 7, 8, 9, 10], [0, 1, 2, 3, 4, 5, 6, 7, 8, 9, 10, 11], [0, 1, 2, 3, 4, 5, 6, 7, 8, 9, 10, 11, 12]], [[], [0], [1], [2], [], [4], [5], [6], [], [7, 8], [9], [10], [3, 11], [12]]⟩ (fun _ => []) (by kernel_rfl) (by kernel_rfl) (by (with_reducible (repeat' (first | assumption | apply jA | apply jB | apply jC | apply jD | apply jE | apply jF | apply hb3 | omega | (simp; done) | (simp; omega) | (dsimp only; omega))))) (fun u => by simp only [putD, Act.put, List.setIfInBounds_toArray, List.set_cons_zero, List.set_cons_succ, Nat.zero_add, Nat.reduceAdd]; rfl) ?_
      apply RGW.on (i := 0) rfl
      · (simp only [gA, gB, gC] <;> rfl)
      · intro γ u W hcur hd
        clear hd
        (try dsimp only)
        refine ⟨rfl, ?_⟩
        go_simp <;> (try go_bits) <;> with_reducible rfl
      · exact fun _ _ _ => rfl
      · rfl
      dsimp only [nA, cA]
      apply RGW.on (i := 1) rfl
      · (simp only [gA, gB, gC] <;> rfl)
      · intro γ u W hcur hd
        obtain ⟨⟨h0, -, -⟩, -⟩ := hd
        dsimp only at h0
        (try simp only [h0])
        refine ⟨rfl, ?_⟩
        go_simp <;> (try go_bits) <;> with_reducible rfl
      · exact fun _ _ _ => rfl
      · rfl
      dsimp only [nA, cA]
      apply RGW.on (i := 2) rfl
      · (simp only [gA, gB, gC] <;> rfl)
      · intro γ u W hcur hd
        obtain ⟨⟨h1, -, -⟩, -⟩ := hd
        dsimp only at h1
        (try simp only [h1])
        refine ⟨rfl, ?_⟩
        go_simp <;> (try go_bits) <;> with_reducible rfl
      · exact fun _ _ _ => rfl
      · rfl
      dsimp only [nA, cA]
      apply RGW.on (i := 3) rfl
      · (simp only [gA, gB, gC] <;> rfl)
      · intro γ u W hcur hd
        obtain ⟨⟨h2, -, -⟩, -⟩ := hd
        dsimp only at h2
        (try simp only [h2])
        refine ⟨rfl, ?_⟩
        go_simp <;> (try go_bits) <;> with_reducible rfl
      · exact fun _ _ _ => rfl
      · rfl
      dsimp only [nA, cA]
      apply RGW.on (i := 4) rfl
      · (simp only [gA, gB, gC] <;> rfl)
      · intro γ u W hcur hd
        clear hd
        (try dsimp only)
        refine ⟨rfl, ?_⟩
        go_simp <;> (try go_bits) <;> with_reducible rfl
      · exact fun _ _ _ => rfl
      · rfl
      dsimp only [nA, cA]
      apply RGW.on (i := 5) rfl
      · (simp only [gA, gB, gC] <;> rfl)
      · intro γ u W hcur hd
        obtain ⟨⟨h4, -, -⟩, -⟩ := hd
        dsimp only at h4
        (try simp only [h4])
        refine ⟨rfl, ?_⟩
        go_simp <;> (try go_bits) <;> with_reducible rfl
      · exact fun _ _ _ => rfl
      · rfl
      dsimp only [nA, cA]
      apply RGW.on (i := 6) rfl
      · (simp only [gA, gB, gC] <;> rfl)
      · intro γ u W hcur hd
        obtain ⟨⟨h5, -, -⟩, -⟩ := hd
        dsimp only at h5
        (try simp only [h5])
        refine ⟨rfl, ?_⟩
        go_simp <;> (try go_bits) <;> with_reducible rfl
      · exact fun _ _ _ => rfl
      · rfl
      dsimp only [nA, cA]
      apply RGW.on (i := 7) rfl
      · (simp only [gA, gB, gC] <;> rfl)
      · intro γ u W hcur hd
        obtain ⟨⟨h6, -, -⟩, -⟩ := hd
        dsimp only at h6
        (try simp only [h6])
        refine ⟨rfl, ?_⟩
        go_simp <;> (try go_bits) <;> with_reducible rfl
      · exact fun _ _ _ => rfl
      · rfl
      dsimp only [nA, cA]
      apply RGW.on (i := 8) rfl
      · (simp only [gA, gB, gC] <;> rfl)
      · intro γ u W hcur hd
        clear hd
        (try dsimp only)
        refine ⟨rfl, ?_⟩
        go_simp <;> (try go_bits) <;> with_reducible rfl
      · exact fun _ _ _ => rfl
      · rfl
      dsimp only [nA, cA]
      apply RGW.on (i := 9) rfl
      · (simp only [gA, gB, gC] <;> rfl)
      · intro γ u W hcur hd
        obtain ⟨⟨h7, -, -⟩, ⟨h8, -, -⟩, -⟩ := hd
        dsimp only at h7 h8
        (try simp only [h7, h8])
        refine ⟨rfl, ?_⟩
        go_simp <;> (try go_bits) <;> with_reducible rfl
      · exact fun _ _ _ => rfl
      · rfl
      dsimp only [nA, cA]
      apply RGW.on (i := 10) rfl
      · (simp only [gA, gB, gC] <;> rfl)
      · intro γ u W hcur hd
        obtain ⟨⟨h9, -, -⟩, -⟩ := hd
        dsimp only at h9
        (try simp only [h9])
        refine ⟨rfl, ?_⟩
        go_simp <;> (try go_bits) <;> with_reducible rfl
      · exact fun _ _ _ => rfl
      · rfl
      dsimp only [nA, cA]
      apply RGW.on (i := 11) rfl
      · (simp only [gA, gB, gC] <;> rfl)
      · intro γ u W hcur hd
        obtain ⟨⟨h10, -, -⟩, -⟩ := hd
        dsimp only at h10
        (try simp only [h10])
        refine ⟨rfl, ?_⟩
        go_simp <;> (try go_bits) <;> with_reducible rfl
      · exact fun _ _ _ => rfl
      · rfl
      dsimp only [nA, cA]
      apply RGW.on (i := 12) rfl
      · (simp only [gA, gB, gC] <;> rfl)
      · intro γ u W hcur hd
        obtain ⟨⟨h3, -, -⟩, ⟨h11, -, -⟩, -⟩ := hd
        dsimp only at h3 h11
        (try simp only [h3, h11])
        refine ⟨rfl, ?_⟩
        go_simp <;> (try go_bits) <;> with_reducible rfl
      · exact fun _ _ _ => rfl
      · rfl
      dsimp only [nA, cA]
      apply RGW.on (i := 13) rfl
      · (simp only [gA, gB, gC] <;> rfl)
      · intro γ u W hcur hd
        obtain ⟨⟨h12, -, -⟩, -⟩ := hd
        dsimp only at h12
        (try simp only [h12])
        refine ⟨rfl, ?_⟩
        go_simp <;> (try go_bits) <;> with_reducible rfl
      · exact fun _ _ _ => rfl
      · rfl
      dsimp only [nA, cA]
      refine RGW.fin (fun γ u w3 hw3 hd hdis => ?_)
      obtain ⟨⟨h0, -, -⟩, ⟨h1, -, -⟩, ⟨h2, -, -⟩, ⟨h3, -, -⟩, ⟨h4, -, -⟩, ⟨h5, -, -⟩, ⟨h6, -, -⟩, ⟨h7, -, -⟩, ⟨h8, -, -⟩, ⟨h9, -, -⟩, ⟨h10, -, -⟩, ⟨h11, -, -⟩, ⟨h12, -, -⟩, ⟨h13, -, -⟩, -⟩ := hd
      dsimp only at h0 h1 h2 h3 h4 h5 h6 h7 h8 h9 h10 h11 h12 h13
      clear hdis
      simp only [h0, h1, h2, h3, h4, h5, h6, h7, h8, h9, h10, h11, h12, h13]
      clear h13 h12 h11 h10 h9 h8 h7 h6 h5 h4 h3 h2 h1 h0
      clear u
      simp only [List.map_nil]
      refine PlanW.done ?_
      have hb3 := bl_tt hw3
      replace hb := bl_tr hb hw3
      clear hb3 hw3 L0 LD LQ
      generalize hdd : d (k + 1) = e at *
      obtain ⟨e1, e2⟩ := e
      generalize d k = z at *
      obtain ⟨z1, z2⟩ := z
      dsimp only at hTk hBk ⊢
      by_cases h1 : z1 = -1
      · subst h1
        rw [if_pos (.inl rfl)] at hTk
        injection hTk with f1 f2
        subst f1 f2
        replace hdd := Lib.hid hdd
        go_wp2
        go_roundw
        case rel => exact ⟨k + 1, by omega, by go_num, by rw [hdd.out], by rw [hdd.out], hb⟩
        case measure => simp [intOf]; omega
      · by_cases h2 : a + dl < z2
        · rw [if_pos (.inr h2)] at hTk
          injection hTk with f1 f2
          subst f1 f2
          replace hdd := Lib.hid hdd
          go_wp2
          go_roundw
          case rel => exact ⟨k + 1, by omega, by go_num, by rw [hdd.out], by rw [hdd.out], hb⟩
          case measure => simp [intOf]; omega
        · rw [if_neg (by rintro (h | h) <;> contradiction)] at hTk
          injection hTk with f1 f2
          subst f1 f2
          replace hdd := Lib.hid hdd
          go_wp2
          go_roundw
          case rel => exact ⟨k + 1, by omega, by go_num, by rw [hdd.out], by rw [hdd.out], hb⟩
          case measure => simp [intOf]; omega
set_option maxHeartbeats 8000000 in
theorem c_EarliestFirst (l : List Sm) (st : List Int) (t : Int) (Al As : Option Addr) (cl cs : Nat) (w : World) (hl : SmIn l Al cl w) (hs : Sl cI 1 w As st) (hsl : st.length ≤ 100000) :
    Calls Tryd.prog 56 #[.slice Al l.length cl, .slice As st.length cs, .int .i64 t] w (fun e w' => Below w.heap.size w w' ∧
      ((stE l st t ≠ 0 ∧ e = .returned (.tuple #[.slice none 0 0, .int .i64 (stE l st t)])) ∨
        (stE l st t = 0 ∧ ∃ A c, e = .returned (.tuple #[.slice A t.toNat c, .int .i64 0]) ∧ w'.ownsRow w.heap.size 3 1 (.slice A t.toNat c) t.toNat ((runS (dlS l) l st t.toNat).2.map (.int .i64))))) := by
  have hop := Lib.hid (c_openSender l st t Al As cl cs w hl hs hsl)
  have hrun := Lib.hid fun (S Bw T : Nat) (W : World) (h0 : stE l st t = 0) (hT : t = T) (hb : Below w.heap.size w W) (h : Snd w.heap.size S Bw (.slice Al l.length cl) (.slice As st.length cs) l.length ⟨fun _ => none, fun _ => 0⟩ ss0 W) =>
    (c_runE 117 (dlS l) l st T Al As cl cs S Bw ⟨fun _ => none, fun _ => 0⟩ w W (stE_ok h0).1 (by have := (stE_ok h0).2; omega) hb hl.sl hs h (enters_of Tryd.func117 (by kernel_rfl) rfl)
      (fun Q s W' hb' hq' h' => (c_byDeadline (stE_ok h0).1.len (fun x hx => by have := (stE_ok h0).1.sm x hx; omega) (hl.sl.below hb') hq' h')) (dlS_cr l))
  have hok := Lib.hid fun h0 => (stE_ok (l := l) (st := st) (t := t) h0).2
  clear hl hs
  generalize stE l st t = e3 at *
  generalize l.length = n at *
  generalize st.length = m at *
  go_enter Tryd.func56, Tryd.ntmps56
  go_wp2_with fail
  refine hop.out.mono ?_
  rintro e w1 ⟨hb1, ⟨h0, rfl⟩ | ⟨h0, S, Bw, rfl, hS⟩⟩
  · clear hrun hok hop
    go_wp2
    go_ret2
    exact ⟨hb1, .inl ⟨h0, rfl⟩⟩
  · subst h0
    obtain ⟨ht0, -⟩ := hok.out rfl
    obtain ⟨T, rfl⟩ : ∃ T : Nat, t = T := ⟨t.toNat, by omega⟩
    have hr := Lib.hid (hrun.out S Bw T w1 rfl rfl hb1 hS)
    have hft := Lib.hid hS.foot_ge
    clear hop hrun hok hS
    go_wp2_with fail
    refine hr.out.mono ?_
    rintro e w2 ⟨A, c, rfl, hown, Q', -, hx⟩
    have hb2 := bx_below hb1 hx (fun x hx => (hft.out x hx).1)
    replace hown := own_mono hb1.size hown
    clear hr hft hx
    go_wp2
    go_ret2
    exact ⟨hb2, A, c, rfl, hown⟩
end Go.Proofs.YtdlmkblmljhbfaaDoor
namespace Go.Proofs.YtdlmkblmljhbfaaDoor
set_option linter.unusedSimpArgs false
set_option linter.unusedVariables false
/-- A message of the reference. -/
structure Jb where
  st : Nat
  sent : Int
  left : Int
  resp : Int
def kk (l : List Sm) (e : Bool) (a : Int) (i : Nat) : Int := if e then a + dlAt l i else 0
def bef (l : List Sm) (e : Bool) (a b : Jb) : Bool :=
  decide (kk l e a.sent a.st < kk l e b.sent b.st ∨ (kk l e a.sent a.st = kk l e b.sent b.st ∧ (a.st < b.st ∨ (a.st = b.st ∧ a.sent < b.sent))))
def jSend (l : List Sm) (st : List Int) (t : Int) (js : List Jb) : Nat → List Jb
  | 0 => js
  | k + 1 => if relB l st t k then jSend l st t js k ++ [⟨k, t, lenAt l k, 0⟩] else jSend l st t js k
def jBeats (l : List Sm) (e : Bool) (js : List Jb) (i : Int) (j : Jb) : Bool := decide (i < 0) || match js[i.toNat]? with
  | some b => bef l e j b
  | none => false
def jPick (l : List Sm) (e : Bool) (js : List Jb) : Nat → Int
  | 0 => -1
  | k + 1 => match js[k]? with
    | some j => if decide (0 < j.left) && jBeats l e js (jPick l e js k) j then (k : Int) else jPick l e js k
    | none => jPick l e js k
def jOne (t : Int) (x : Jb) : Jb := ⟨x.st, x.sent, x.left - 1, if x.left - 1 = 0 then t - x.sent + 1 else x.resp⟩
def jTake (t : Int) (i : Int) (o : List Int) (js : List Jb) : List Int × List Jb :=
  if i < 0 then (o ++ [-1], js) else match js[i.toNat]? with
    | some x => (o ++ [(x.st : Int)], js.set i.toNat (jOne t x))
    | none => (o, js)
def jTick (l : List Sm) (st : List Int) (e : Bool) (t : Int) (o : List Int) (js : List Jb) : List Int × List Jb :=
  jTake t (jPick l e (jSend l st t js l.length) (jSend l st t js l.length).length) o (jSend l st t js l.length)
def jRun (l : List Sm) (st : List Int) (e : Bool) : Nat → List Int × List Jb
  | 0 => ([], [])
  | t + 1 => jTick l st e t (jRun l st e t).1 (jRun l st e t).2
def qOf (js : List Jb) (i : Nat) : List (Int × Int) := (js.filter fun j => decide (j.st = i) && decide (0 < j.left)).map fun j => (j.sent, j.left)
def mxv (js : List Jb) (i : Nat) : Int := js.foldl (fun m j => if j.st = i then max m j.resp else m) 0
theorem qOf_app (a b : List Jb) (i : Nat) : qOf (a ++ b) i = qOf a i ++ qOf b i := by simp [qOf]
theorem qOf_mem {js : List Jb} {i : Nat} {m : Int × Int} (h : m ∈ qOf js i) : ∃ j ∈ js, j.st = i ∧ 0 < j.left ∧ m = (j.sent, j.left) := by
  obtain ⟨j, hj, e⟩ := List.mem_map.1 h
  obtain ⟨hj1, hj2⟩ := List.mem_filter.1 hj
  simp at hj2
  exact ⟨j, hj1, hj2.1, hj2.2, e.symm⟩
theorem qOf_nil {js : List Jb} {i : Nat} (h : ∀ j ∈ js, j.st = i → ¬ 0 < j.left) : qOf js i = [] := by
  cases hq : qOf js i with
  | nil => rfl
  | cons m r =>
    obtain ⟨j, hj, h1, h2, -⟩ := qOf_mem (js := js) (i := i) (m := m) (by rw [hq]; simp)
    exact absurd h2 (h j hj h1)
theorem mx_from (i : Nat) : ∀ (js : List Jb) (m : Int), 0 ≤ m → js.foldl (fun m j => if j.st = i then max m j.resp else m) m = max m (mxv js i)
  | [], m, h => by simp [mxv]; omega
  | j :: js, m, h => by
    unfold mxv
    simp only [List.foldl_cons]
    by_cases hj : j.st = i
    · simp only [hj, if_true]
      rw [mx_from i js (max m j.resp) (by omega), mx_from i js (max 0 j.resp) (by omega)]
      omega
    · simp only [hj, if_false]
      rw [mx_from i js m h, mx_from i js 0 (by omega)]
      omega
theorem mx_app (a b : List Jb) (i : Nat) : mxv (a ++ b) i = (if 0 ≤ mxv a i then max (mxv a i) (mxv b i) else b.foldl (fun m j => if j.st = i then max m j.resp else m) (mxv a i)) := by
  unfold mxv
  rw [List.foldl_append]
  split
  · exact mx_from i b _ (by assumption)
  · rfl
theorem mx_nonneg (js : List Jb) (i : Nat) : 0 ≤ mxv js i := by
  have := mx_from i js 0 (by omega)
  unfold mxv at *
  omega
theorem mx_app' (a b : List Jb) (i : Nat) : mxv (a ++ b) i = max (mxv a i) (mxv b i) := by rw [mx_app, if_pos (mx_nonneg a i)]
theorem mx_one (x : Jb) (i : Nat) : mxv [x] i = if x.st = i then max 0 x.resp else 0 := by simp [mxv]
/-- The reference's messages and the sender's queues are of one state. -/
structure JSim (n : Nat) (t : Int) (js : List Jb) (q : Nat → List (Int × Int)) (wo : Nat → Int) : Prop where
  bd : ∀ j ∈ js, j.st < n ∧ 0 ≤ j.sent ∧ j.sent < t ∧ 0 ≤ j.left ∧ j.left ≤ 20 ∧ 0 ≤ j.resp ∧ j.resp ≤ t ∧ (0 < j.left → j.resp = 0)
  srt : js.Pairwise fun a b => a.st = b.st → a.sent < b.sent
  q : ∀ i, qOf js i = q i
  wo : ∀ i, mxv js i = wo i
theorem jSend_sim {l : List Sm} {st : List Int} {t : Nat} {js : List Jb} {q : Nat → List (Int × Int)} {wo : Nat → Int} (ho : Opn l st) (h : JSim l.length t js q wo) : ∀ k : Nat, k ≤ l.length →
    JSim l.length (t + 1) (jSend l st t js k) (fun i => if i < k then sendS l st t q i else q i) wo ∧ ∀ j ∈ jSend l st t js k, j.sent < t ∨ j.st < k
  | 0, _ => ⟨⟨fun j hj => by have := h.bd j hj; omega, h.srt, fun i => by simpa [jSend] using h.q i, h.wo⟩, fun j hj => .inl (by have := h.bd j hj; omega)⟩
  | k + 1, hk => by
    obtain ⟨ih, ih2⟩ := jSend_sim ho h k (by omega)
    rw [jSend]
    split
    · rename_i hr
      have hx : l[k]? = some l[k] := List.getElem?_eq_getElem (by omega)
      have hl := ho.sm l[k] (List.getElem_mem _)
      have hla : lenAt l k = l[k].len := by simp [lenAt, hx]
      refine ⟨⟨fun j hj => ?_, ?_, fun i => ?_, fun i => ?_⟩, fun j hj => ?_⟩
      · rcases List.mem_append.1 hj with hj | hj
        · exact ih.bd j hj
        · simp at hj; subst hj
          simp only [hla]
          refine ⟨by omega, by omega, by omega, by omega, by omega, by omega, by omega, by simp⟩
      · rw [List.pairwise_append]
        refine ⟨ih.srt, by simp, fun a ha b hb => ?_⟩
        simp at hb; subst hb
        intro e
        simp only at e ⊢
        rcases ih2 a ha with h1 | h1 <;> omega
      · rw [qOf_app, ih.q i]
        by_cases hi : i = k
        · subst hi
          have e1 : ¬ i < i := by omega
          have e2 : i < i + 1 := by omega
          simp only [e1, e2, if_true, if_false]
          have h0 : 0 < lenAt l i := by omega
          simp [qOf, sendS, hr, h0]
        · have : qOf [(⟨k, t, lenAt l k, 0⟩ : Jb)] i = [] := qOf_nil fun j hj e => by
            simp at hj; subst hj
            exact absurd e.symm hi
          rw [this, List.append_nil]
          by_cases hi2 : i < k
          · have : i < k + 1 := by omega
            simp [hi2, this]
          · have : ¬ i < k + 1 := by omega
            simp [hi2, this]
      · rw [mx_app', ih.wo i, mx_one]
        have := ih.wo i
        have := mx_nonneg (jSend l st t js k) i
        split <;> (try dsimp only) <;> omega
      · rcases List.mem_append.1 hj with hj | hj
        · rcases ih2 j hj with h1 | h1
          · exact .inl h1
          · exact .inr (by omega)
        · simp at hj; subst hj
          exact .inr (by simp)
    · rename_i hr
      refine ⟨⟨ih.bd, ih.srt, fun i => ?_, ih.wo⟩, fun j hj => ?_⟩
      · rw [ih.q i]
        by_cases hi : i = k
        · subst hi
          have e1 : ¬ i < i := by omega
          have e2 : i < i + 1 := by omega
          simp [e1, e2, sendS, hr]
        · by_cases hi2 : i < k
          · have : i < k + 1 := by omega
            simp [hi2, this]
          · have : ¬ i < k + 1 := by omega
            simp [hi2, this]
      · rcases ih2 j hj with h1 | h1
        · exact .inl h1
        · exact .inr (by omega)
theorem pick_spec (l : List Sm) (e : Bool) (js : List Jb) : ∀ k : Nat, k ≤ js.length →
    (jPick l e js k = -1 ∧ ∀ m j, m < k → js[m]? = some j → ¬ 0 < j.left) ∨
      ∃ (a : Nat) (x : Jb), a < k ∧ jPick l e js k = a ∧ js[a]? = some x ∧ 0 < x.left ∧ ∀ m j, m < k → js[m]? = some j → 0 < j.left → bef l e j x = false
  | 0, _ => .inl ⟨rfl, fun m j hm => by omega⟩
  | k + 1, hk => by
    have hx : js[k]? = some js[k] := List.getElem?_eq_getElem (by omega)
    generalize js[k] = y at hx
    have ih := pick_spec l e js k (by omega)
    rw [jPick]
    simp only [hx]
    rcases ih with ⟨h1, h2⟩ | ⟨a, x, ha, h1, h2, h3, h4⟩
    · rw [h1]
      have hb : jBeats l e js (-1) y = true := by simp [jBeats]
      rw [hb, Bool.and_true]
      by_cases hy : 0 < y.left
      · refine .inr ⟨k, y, by omega, by simp [hy], hx, hy, fun m j hm hj hl => ?_⟩
        by_cases e : m = k
        · subst e
          rw [hx] at hj
          injection hj with hj
          subst hj
          simp [bef]
        · exact absurd hl (h2 m j (by omega) hj)
      · refine .inl ⟨by simp [hy], fun m j hm hj => ?_⟩
        by_cases e : m = k
        · subst e
          rw [hx] at hj
          injection hj with hj
          subst hj
          exact hy
        · exact h2 m j (by omega) hj
    · have hb : jBeats l e js (jPick l e js k) y = bef l e y x := by
        rw [h1]
        unfold jBeats
        rw [Int.toNat_natCast, h2]
        have : ¬ (a : Int) < 0 := by omega
        simp [this]
      rw [hb]
      by_cases hy : 0 < y.left ∧ bef l e y x = true
      · refine .inr ⟨k, y, by omega, by simp [hy.1, hy.2], hx, hy.1, fun m j hm hj hl => ?_⟩
        by_cases em : m = k
        · subst em
          rw [hx] at hj
          injection hj with hj
          subst hj
          simp [bef]
        · have h5 := h4 m j (by omega) hj hl
          have h6 := hy.2
          simp only [bef, decide_eq_false_iff_not, decide_eq_true_eq] at h5 h6 ⊢
          omega
      · refine .inr ⟨a, x, by omega, ?_, h2, h3, fun m j hm hj hl => ?_⟩
        · rw [← h1, if_neg]
          simp only [Bool.and_eq_true, decide_eq_true_eq]
          exact hy
        · by_cases em : m = k
          · subst em
            rw [hx] at hj
            injection hj with hj
            subst hj
            cases hbb : bef l e y x
            · rfl
            · exact absurd ⟨hl, hbb⟩ hy
          · exact h4 m j (by omega) hj hl
/-- A chooser of the first queue by deadlines (or none) and numbers. -/
def Chs (l : List Sm) (e : Bool) (ch : (Nat → List (Int × Int)) → Int) : Prop :=
  ∀ q : Nat → List (Int × Int), (∀ i, 6 ≤ i → q i = []) → (ch q = -1 ∧ ∀ i, q i = []) ∨
    ∃ (i : Nat) (a f : Int) (r : List (Int × Int)), ch q = i ∧ q i = (a, f) :: r ∧ ∀ (i' : Nat) (a' f' : Int) (r' : List (Int × Int)), q i' = (a', f') :: r' → ¬ (kk l e a' i' < kk l e a i ∨ (kk l e a' i' = kk l e a i ∧ i' < i))
theorem chs_prio (l : List Sm) : Chs l false prioS := fun q hq => by
  rcases prioFrom_spec q 6 0 with ⟨h1, h2⟩ | ⟨j, h1, -, h3, h4, h5⟩
  · refine .inl ⟨h1, fun i => ?_⟩
    by_cases hi : i < 6
    · exact h2 i (by omega) (by omega)
    · exact hq i (by omega)
  · cases hj : q j with
    | nil => exact absurd hj h4
    | cons m r =>
      obtain ⟨a, f⟩ := m
      refine .inr ⟨j, a, f, r, h1, hj, fun i' a' f' r' hi' => ?_⟩
      simp only [kk, Bool.false_eq_true, if_false]
      rintro (h | ⟨-, h⟩)
      · omega
      · rw [h5 i' (by omega) h] at hi'
        cases hi'
theorem dlTo_spec (l : List Sm) (q : Nat → List (Int × Int)) : ∀ k : Nat, ((dlTo l q k).1 = -1 ∧ ∀ i, i < k → q i = []) ∨
    ∃ (i : Nat) (a f : Int) (r : List (Int × Int)), i < k ∧ (dlTo l q k).1 = i ∧ (dlTo l q k).2 = a + dlAt l i ∧ q i = (a, f) :: r ∧ ∀ (i' : Nat) (a' f' : Int) (r' : List (Int × Int)), i' < k → q i' = (a', f') :: r' → ¬ (a' + dlAt l i' < a + dlAt l i ∨ (a' + dlAt l i' = a + dlAt l i ∧ i' < i))
  | 0 => .inl ⟨rfl, fun i hi => by omega⟩
  | k + 1 => by
    have ih := dlTo_spec l q k
    rw [dlTo]
    cases hk : q k with
    | nil =>
      dsimp only
      rcases ih with ⟨h1, h2⟩ | ⟨i, a, f, r, h1, h2, h3, h4, h5⟩
      · refine .inl ⟨h1, fun i hi => ?_⟩
        by_cases e : i = k
        · rw [e]; exact hk
        · exact h2 i (by omega)
      · refine .inr ⟨i, a, f, r, by omega, h2, h3, h4, fun i' a' f' r' hi' hq' => ?_⟩
        by_cases e : i' = k
        · rw [e, hk] at hq'
          cases hq'
        · exact h5 i' a' f' r' (by omega) hq'
    | cons m r =>
      obtain ⟨a, f⟩ := m
      dsimp only
      rcases ih with ⟨h1, h2⟩ | ⟨i, a0, f0, r0, h1, h2, h3, h4, h5⟩
      · rw [if_pos (.inl h1)]
        refine .inr ⟨k, a, f, r, by omega, rfl, rfl, hk, fun i' a' f' r' hi' hq' => ?_⟩
        by_cases e : i' = k
        · subst e
          rw [hk] at hq'
          injection hq' with e1 e2
          injection e1 with e3 e4
          omega
        · rw [h2 i' (by omega)] at hq'
          cases hq'
      · have hne : (dlTo l q k).1 ≠ -1 := by omega
        by_cases hc : a + dlAt l k < (dlTo l q k).2
        · rw [if_pos (.inr hc)]
          refine .inr ⟨k, a, f, r, by omega, rfl, rfl, hk, fun i' a' f' r' hi' hq' => ?_⟩
          by_cases e : i' = k
          · subst e
            rw [hk] at hq'
            injection hq' with e1 e2
            injection e1 with e3 e4
            omega
          · have := h5 i' a' f' r' (by omega) hq'
            omega
        · rw [if_neg (by rintro (h | h) <;> contradiction)]
          refine .inr ⟨i, a0, f0, r0, by omega, h2, h3, h4, fun i' a' f' r' hi' hq' => ?_⟩
          by_cases e : i' = k
          · subst e
            rw [hk] at hq'
            injection hq' with e1 e2
            injection e1 with e3 e4
            omega
          · exact h5 i' a' f' r' (by omega) hq'
theorem chs_dl (l : List Sm) : Chs l true (dlS l) := fun q hq => by
  rcases dlTo_spec l q 6 with ⟨h1, h2⟩ | ⟨i, a, f, r, h1, h2, -, h4, h5⟩
  · refine .inl ⟨h1, fun i => ?_⟩
    by_cases hi : i < 6
    · exact h2 i hi
    · exact hq i (by omega)
  · refine .inr ⟨i, a, f, r, h2, h4, fun i' a' f' r' hi' => ?_⟩
    simp only [kk, if_true]
    refine h5 i' a' f' r' ?_ hi'
    exact Nat.lt_of_not_le fun h => by rw [hq i' h] at hi'; cases hi'
theorem qOf_cons (x : Jb) (b : List Jb) (i : Nat) : qOf (x :: b) i = (if x.st = i ∧ 0 < x.left then [(x.sent, x.left)] else []) ++ qOf b i := by
  unfold qOf
  by_cases h : x.st = i ∧ 0 < x.left
  · rw [if_pos h, List.filter_cons_of_pos (by simp [h.1, h.2])]
    rfl
  · rw [if_neg h, List.filter_cons_of_neg (by simpa using h)]
    rfl
/-- What is carried of the message that is first among those that wait. -/
theorem jTake_sim {l : List Sm} {st : List Int} {e : Bool} {t : Nat} {js : List Jb} {ch : (Nat → List (Int × Int)) → Int} {s : Ss} (hch : Chs l e ch) (hn : l.length ≤ 6)
    (h : JSim l.length (t + 1) js (sendS l st t s.q) s.wo) (o : List Int) :
    (jTake t (jPick l e js js.length) o js).1 = o ++ [(carS ch l st t s).2] ∧ JSim l.length (t + 1) (jTake t (jPick l e js js.length) o js).2 (carS ch l st t s).1.q (carS ch l st t s).1.wo := by
  have h6 : ∀ i, 6 ≤ i → sendS l st t s.q i = [] := fun i hi => by
    rw [← h.q i]
    exact qOf_nil fun j hj e => by have := (h.bd j hj).1; omega
  unfold carS
  generalize sendS l st t s.q = q at *
  rcases pick_spec l e js js.length (Nat.le_refl _) with ⟨h1, h2⟩ | ⟨a, x, ha, h1, hx, h3, h4⟩
  · have hq : ∀ i, q i = [] := fun i => by
      rw [← h.q i]
      exact qOf_nil fun j hj _ => by
        obtain ⟨m, hm⟩ := List.mem_iff_getElem?.1 hj
        exact h2 m j (List.getElem?_eq_some_iff.1 hm).1 hm
    rcases hch q h6 with ⟨c1, -⟩ | ⟨i, a, f, r, -, c2, -⟩
    · rw [h1, c1, if_pos rfl]
      exact ⟨by simp [jTake], by simpa [jTake] using h⟩
    · rw [hq i] at c2
      cases c2
  · have hbx := h.bd x (List.mem_of_getElem? hx)
    obtain ⟨A, B, rfl, rfl⟩ : ∃ A B, js = A ++ x :: B ∧ A.length = a := by
      obtain ⟨hlt, e⟩ := List.getElem?_eq_some_iff.1 hx
      exact ⟨js.take a, js.drop (a + 1), by rw [← e, List.getElem_cons_drop, List.take_append_drop], by simp; omega⟩
    have hmin : ∀ j ∈ A ++ x :: B, 0 < j.left → bef l e j x = false := fun j hj hl => by
      obtain ⟨m, hm⟩ := List.mem_iff_getElem?.1 hj
      exact h4 m j (List.getElem?_eq_some_iff.1 hm).1 hm hl
    have hsrt := List.pairwise_append.1 h.srt
    have hA : qOf A x.st = [] := qOf_nil fun j hj e2 hl => by
      have h5 := hsrt.2.2 j hj x (by simp) e2
      have h6 := hmin j (by simp [hj]) hl
      simp only [bef, kk, e2, decide_eq_false_iff_not] at h6
      cases e
      · simp at h6
        omega
      · simp at h6
        omega
    have hqx : q x.st = (x.sent, x.left) :: qOf B x.st := by
      rw [← h.q, qOf_app, hA, qOf_cons, if_pos ⟨rfl, h3⟩]
      rfl
    have hce : ch q = (x.st : Int) := by
      rcases hch q h6 with ⟨-, c1⟩ | ⟨i, a, f, r, c1, c2, c3⟩
      · rw [c1] at hqx
        cases hqx
      · have d1 := c3 _ _ _ _ hqx
        obtain ⟨y, hy, y1, y2, y3⟩ := qOf_mem (js := A ++ x :: B) (i := i) (m := (a, f)) (by rw [h.q, c2]; simp)
        injection y3 with y4 y5
        have d2 := hmin y hy y2
        simp only [bef, decide_eq_false_iff_not] at d2
        rw [y4, ← y1] at d1
        rw [c1, ← y1]
        omega
    have hset : (A ++ x :: B).set A.length (jOne t x) = A ++ jOne t x :: B := by simp
    have hneg : ¬ ((A.length : Nat) : Int) < 0 := by omega
    have hne : ¬ ((x.st : Nat) : Int) = -1 := by omega
    rw [h1, hce, if_neg hne]
    simp only [jTake, hneg, if_false, Int.toNat_natCast, hx, hset]
    rw [hqx]
    dsimp only
    have hjs : (jOne t x).st = x.st := rfl
    have hjt : (jOne t x).sent = x.sent := rfl
    have hjl : (jOne t x).left = x.left - 1 := rfl
    have hjr : (jOne t x).resp = if x.left - 1 = 0 then t - x.sent + 1 else x.resp := rfl
    have hxr := hbx.2.2.2.2.2.2.2 h3
    have hbd : ∀ j ∈ A ++ jOne t x :: B, j.st < l.length ∧ 0 ≤ j.sent ∧ j.sent < (t : Int) + 1 ∧ 0 ≤ j.left ∧ j.left ≤ 20 ∧ 0 ≤ j.resp ∧ j.resp ≤ (t : Int) + 1 ∧ (0 < j.left → j.resp = 0) := fun j hj => by
      rcases List.mem_append.1 hj with hj | hj
      · exact h.bd j (by simp [hj])
      · rcases List.mem_cons.1 hj with rfl | hj
        · rw [hjs, hjt, hjl, hjr]
          split <;> omega
        · exact h.bd j (by simp [hj])
    have hst : (A ++ jOne t x :: B).Pairwise fun a b => a.st = b.st → a.sent < b.sent := by
      obtain ⟨p1, p2, p3⟩ := hsrt
      obtain ⟨p4, p5⟩ := List.pairwise_cons.1 p2
      refine List.pairwise_append.2 ⟨p1, List.pairwise_cons.2 ⟨fun b hb => p4 b hb, p5⟩, fun a ha b hb => ?_⟩
      rcases List.mem_cons.1 hb with rfl | hb
      · exact p3 a ha x (by simp)
      · exact p3 a ha b (by simp [hb])
    have hother : ∀ i, i ≠ x.st → qOf (A ++ jOne t x :: B) i = q i := fun i hi => by
      rw [← h.q, qOf_app, qOf_app, qOf_cons, qOf_cons, if_neg (by rw [hjs]; exact fun h => hi h.1.symm), if_neg (fun h => hi h.1.symm)]
    have hown : qOf (A ++ jOne t x :: B) x.st = (if 0 < x.left - 1 then [(x.sent, x.left - 1)] else []) ++ qOf B x.st := by
      rw [qOf_app, hA, qOf_cons, hjs, hjt, hjl]
      simp
    have hwo : ∀ i, mxv (A ++ jOne t x :: B) i = if i = x.st ∧ x.left - 1 = 0 then max (s.wo i) (t - x.sent + 1) else s.wo i := fun i => by
      have e1 := h.wo i
      have e2 : ∀ y : Jb, mxv (A ++ y :: B) i = max (mxv A i) (max (mxv [y] i) (mxv B i)) := fun y => by
        rw [show A ++ y :: B = A ++ ([y] ++ B) from rfl, mx_app', mx_app']
      rw [e2, mx_one] at e1
      rw [e2, mx_one, hjs, hjr]
      have n1 := mx_nonneg A i
      have n2 := mx_nonneg B i
      by_cases c1 : x.st = i
      · subst c1
        simp only [if_true, true_and] at e1 ⊢
        split <;> omega
      · have c2 : ¬ i = x.st := fun h => c1 h.symm
        simp only [c1, c2, if_false, false_and] at e1 ⊢
        omega
    refine ⟨by split <;> rfl, ?_⟩
    by_cases hl : x.left - 1 = 0
    · simp only [hl, if_true] at hown hwo ⊢
      refine ⟨hbd, hst, fun i => ?_, fun i => ?_⟩
      · by_cases hi : i = x.st
        · subst hi
          rw [hown]
          simp [upF]
        · rw [hother i hi]
          simp [upF, hi]
      · rw [hwo]
        by_cases hi : i = x.st
        · subst hi
          simp [upF]
        · simp [upF, hi]
    · have hl2 : 0 < x.left - 1 := by omega
      simp only [hl, hl2, if_true, if_false, and_false] at hown hwo ⊢
      refine ⟨hbd, hst, fun i => ?_, hwo⟩
      by_cases hi : i = x.st
      · subst hi
        rw [hown]
        simp [upF]
      · rw [hother i hi]
        simp [upF, hi]
theorem jRun_sim {l : List Sm} {st : List Int} {e : Bool} {ch : (Nat → List (Int × Int)) → Int} (hch : Chs l e ch) (ho : Opn l st) : ∀ t : Nat, (jRun l st e t).1 = (runS ch l st t).2 ∧ JSim l.length t (jRun l st e t).2 (runS ch l st t).1.q (runS ch l st t).1.wo
  | 0 => ⟨rfl, ⟨fun j hj => by simp [jRun] at hj, by simp [jRun], fun i => by simp [jRun, qOf, runS, ss0], fun i => by simp [jRun, mxv, runS, ss0]⟩⟩
  | t + 1 => by
    obtain ⟨h1, h2⟩ := jRun_sim hch ho t
    have h3 := (jSend_sim ho h2 l.length (Nat.le_refl _)).1
    have h4 : JSim l.length (t + 1) (jSend l st t (jRun l st e t).2 l.length) (sendS l st t (runS ch l st t).1.q) (runS ch l st t).1.wo := ⟨h3.bd, h3.srt, fun i => by
      rw [h3.q i]
      split
      · rfl
      · rename_i hi
        exact (sendS_none (by omega)).symm, h3.wo⟩
    have := jTake_sim hch ho.len h4 (jRun l st e t).1
    rw [h1] at this
    rw [jRun, runS, jTick, h1]
    exact this
theorem jSend_len (l : List Sm) (st : List Int) (t : Int) (js : List Jb) : ∀ k : Nat, (jSend l st t js k).length ≤ js.length + k
  | 0 => Nat.le_refl _
  | k + 1 => by
    have := jSend_len l st t js k
    rw [jSend]
    split
    · simp; omega
    · omega
theorem jRun_len (l : List Sm) (st : List Int) (e : Bool) : ∀ t : Nat, (jRun l st e t).2.length ≤ t * l.length
  | 0 => by simp [jRun]
  | t + 1 => by
    have h1 := jRun_len l st e t
    have h2 := jSend_len l st t (jRun l st e t).2 l.length
    rw [jRun, jTick, jTake, Nat.succ_mul]
    split
    · dsimp only; omega
    · split
      · simp; omega
      · dsimp only; omega
end Go.Proofs.YtdlmkblmljhbfaaDoor
