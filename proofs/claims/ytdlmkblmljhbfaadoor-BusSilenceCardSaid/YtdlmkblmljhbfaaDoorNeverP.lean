/-
  Plain law: a stream that is not late is never late, whatever the starts are; if all start together, some message of it has the stream's response.
-/
import Derived.Test.YtdlmkblmljhbfaaDoorSendP
namespace Go.Proofs.YtdlmkblmljhbfaaDoor
set_option linter.unusedSimpArgs false
set_option linter.unusedVariables false
/-- The demand of the streams ahead. -/
def fF (l : List Sm) (i : Nat) (r : Int) : Int := lenAt l i + wt (fun k => lenAt l k * ((r + perAt l k - 1) / perAt l k)) i
theorem foldl_wt (l : List Sm) (r b : Int) : ∀ n : Nat, n ≤ l.length → ((l.take n).map fun o => o.len * ((r + o.per - 1) / o.per)).foldl (· + ·) b = b + wt (fun k => lenAt l k * ((r + perAt l k - 1) / perAt l k)) n
  | 0, _ => by simp [wt]
  | n + 1, h => by
    have e : l[n]? = some (l[n]'(by omega)) := List.getElem?_eq_getElem _
    rw [List.take_add_one, e, List.map_append, List.foldl_append, foldl_wt l r b n (by omega), wt]
    unfold lenAt perAt
    rw [e]
    simp
    omega
theorem respF_eq {l : List Sm} {i : Nat} {s : Sm} (hs : l[i]? = some s) (r : Int) : respF (l.take i) s.len r = fF l i r := by
  have hi := (List.getElem?_eq_some_iff.1 hs).1
  unfold respF fF
  rw [foldl_wt l r s.len i (by omega)]
  congr 1
  unfold lenAt
  rw [hs]
theorem ceil_mono {p a b : Int} (hp : 1 ≤ p) (h : a ≤ b) : (a + p - 1) / p ≤ (b + p - 1) / p := Int.ediv_le_ediv (by omega) (by omega)
theorem perAt_ok {l : List Sm} (hl : ∀ s ∈ l, OkSm s) (k : Nat) : 1 ≤ perAt l k := by
  unfold perAt
  cases e : l[k]? with
  | none => exact Int.le_refl _
  | some s => exact (hl s (List.mem_of_getElem? e)).1
theorem fF_mono {l : List Sm} (hl : ∀ s ∈ l, OkSm s) (i : Nat) {a b : Int} (h : a ≤ b) : fF l i a ≤ fF l i b := by
  unfold fF
  have := wt_le (f := fun k => lenAt l k * ((a + perAt l k - 1) / perAt l k)) (g := fun k => lenAt l k * ((b + perAt l k - 1) / perAt l k)) (n := i) fun k _ =>
    Int.mul_le_mul_of_nonneg_left (ceil_mono (perAt_ok hl k) h) (lenAt_nonneg hl k)
  omega
theorem ceil_one {p r : Int} (hr : 1 ≤ r) (h : r ≤ p) : (r + p - 1) / p = 1 := by
  have h1 : (r + p - 1) / p = (r - 1 + p * 1) / p := by congr 1; omega
  rw [h1, Int.add_mul_ediv_left _ _ (by omega), Int.ediv_eq_zero_of_lt (by omega) (by omega)]
  rfl
/-- How much is sent in a window by the first streams. -/
theorem win_le {l : List Sm} {st : List Int} (hl : ∀ s ∈ l, OkSm s) (hst : st.length = l.length) (h0 : ∀ a ∈ st, 0 ≤ a) {i : Nat} {s : Sm} (hs : l[i]? = some s) {r : Int} (hr : 1 ≤ r) (hrp : r ≤ s.per) (t d : Nat) (hd : (d : Int) ≤ r) :
    wt (fun k => cum l st k (t + d) - cum l st k t) (i + 1) ≤ fF l i r := by
  refine Int.le_trans (wt_le (g := fun k => lenAt l k * ((r + perAt l k - 1) / perAt l k)) fun k _ => ?_) ?_
  · exact Int.le_trans (cum_win hl hst h0 k t d) (Int.mul_le_mul_of_nonneg_left (ceil_mono (perAt_ok hl k) hd) (lenAt_nonneg hl k))
  · rw [wt]
    unfold fF
    have : perAt l i = s.per := by unfold perAt; rw [hs]
    rw [this, ceil_one hr hrp]
    omega
structure SOk (l : List Sm) (st : List Int) : Prop where
  sm : ∀ s ∈ l, OkSm s
  six : l.length ≤ 6
  len : st.length = l.length
  nn : ∀ a ∈ st, 0 ≤ a
theorem run_good {l : List Sm} {st : List Int} (h : SOk l st) : ∀ t : Nat, GoodQ t (runS prioS l st t).1.q
  | 0 => fun i x hx => by cases hx
  | t + 1 => by
    have hg := good_send (st := st) (t := t) h.sm (by omega) (run_good h t)
    obtain ⟨hk, _⟩ := car_tick l st t (runS prioS l st t).1 (ch := prioS) (by
      rcases prio_spec (sendS l st t (runS prioS l st t).1.q) with ⟨h, _⟩ | ⟨j, h, _, h1, _⟩
      · exact .inl h
      · exact .inr ⟨j, h, h1⟩)
    have := good_tick hg hk
    rw [show ((t + 1 : Nat) : Int) = (t : Int) + 1 by omega]
    exact this
/-- The busy window of the first streams that holds a tick. -/
structure Win (l : List Sm) (st : List Int) (i : Nat) (r : Int) (t : Nat) (s : Ss) : Prop where
  ex : ∃ t0 : Nat, t0 ≤ t ∧ ((t : Int) - t0 < r) ∧ pd s.q (i + 1) + ((t : Int) - t0) = wt (fun k => cum l st k t - cum l st k t0) (i + 1) ∧ ∀ k, k ≤ i → ∀ x ∈ s.q k, (t0 : Int) ≤ x.1
  wo : s.wo i ≤ r
theorem tick_sent {t : Int} {q : Nat → List (Int × Int)} {wo : Nat → Int} {s : Ss} {o : Int} (hk : Tick t q wo s o) {c : Int} {k : Nat} (h : ∀ x ∈ q k, c ≤ x.1) : ∀ x ∈ s.q k, c ≤ x.1 := by
  cases hk with
  | idle => exact h
  | last i a r e =>
    intro x hx
    dsimp only at hx
    by_cases hj : k = i
    · subst hj
      rw [upF_same] at hx
      exact h x (by rw [e]; simp [hx])
    · rw [upF_other _ _ hj] at hx
      exact h x hx
  | more i a n r e hk1 =>
    intro x hx
    dsimp only at hx
    by_cases hj : k = i
    · subst hj
      rw [upF_same] at hx
      rcases List.mem_cons.1 hx with hx | hx
      · subst hx
        exact h (a, n) (by rw [e]; simp)
      · exact h x (by rw [e]; simp [hx])
    · rw [upF_other _ _ hj] at hx
      exact h x hx
theorem tick_wo {t : Int} {q : Nat → List (Int × Int)} {wo : Nat → Int} {s : Ss} {o : Int} (hk : Tick t q wo s o) {c r : Int} {i : Nat} (h : ∀ x ∈ q i, c ≤ x.1) (hw : wo i ≤ r) (hc : t - c + 1 ≤ r) : s.wo i ≤ r := by
  cases hk with
  | idle => exact hw
  | last j a u e =>
    dsimp only
    by_cases hj : i = j
    · subst hj
      rw [upF_same]
      have := h (a, 1) (by rw [e]; simp)
      dsimp only at this
      omega
    · rw [upF_other _ _ hj]
      exact hw
  | more j a n u e hk1 => exact hw
theorem win_step {l : List Sm} {st : List Int} (h : SOk l st) {i : Nat} {s : Sm} (hs : l[i]? = some s) {r : Int} (hr : 1 ≤ r) (hrp : r ≤ s.per) (hf : fF l i r = r) (t : Nat) (hw : Win l st i r t (runS prioS l st t).1) : Win l st i r (t + 1) (runS prioS l st (t + 1)).1 := by
  have hi := (List.getElem?_eq_some_iff.1 hs).1
  have h6 := h.six
  have hg := good_send (st := st) (t := t) h.sm (by omega) (run_good h t)
  obtain ⟨hk, _⟩ := car_tick l st t (runS prioS l st t).1 (ch := prioS) (by
    rcases prio_spec (sendS l st t (runS prioS l st t).1.q) with ⟨h, _⟩ | ⟨j, h, _, h1, _⟩
    · exact .inl h
    · exact .inr ⟨j, h, h1⟩)
  have hg' := good_tick hg hk
  have hp := prio_tick (n := i + 1) (by omega) hg
  have hsd := pd_send l st t (runS prioS l st t).1.q (i + 1)
  show Win l st i r (t + 1) (carS prioS l st t (runS prioS l st t).1).1
  obtain ⟨⟨t0, h1, h2, h3, h4⟩, h5⟩ := hw
  generalize runS prioS l st t = R at *
  obtain ⟨s0, out⟩ := R
  dsimp only at *
  -- all that waits behind the sending was sent since t0
  have hsent : ∀ k, k ≤ i → ∀ x ∈ sendS l st t s0.q k, (t0 : Int) ≤ x.1 := fun k hk x hx => by
    unfold sendS at hx
    split at hx
    · rcases List.mem_append.1 hx with hx | hx
      · exact h4 k hk x hx
      · have hx := List.mem_singleton.1 hx
        subst hx
        show (t0 : Int) ≤ t
        omega
    · exact h4 k hk x hx
  have hwo : (carS prioS l st t s0).1.wo i ≤ r := tick_wo hk (hsent i (Nat.le_refl _)) h5 (by omega)
  have hcum : wt (fun k => cum l st k (t + 1) - cum l st k t0) (i + 1) = wt (fun k => cum l st k t - cum l st k t0) (i + 1) + wt (arr l st t) (i + 1) := by
    rw [← wt_add]
    refine wt_congr fun k _ => ?_
    show cum l st k t + arr l st t k - cum l st k t0 = _
    omega
  by_cases h0 : pd (carS prioS l st t s0).1.q (i + 1) = 0
  · refine ⟨⟨t + 1, Nat.le_refl _, by omega, ?_, fun k hk x hx => ?_⟩, hwo⟩
    · rw [h0, wt_congr (g := fun _ => 0) fun k _ => by omega, wt_zero]
      omega
    · rw [pd_empty hg' h0 k (by omega)] at hx
      cases hx
  · have hne : pd (sendS l st t s0.q) (i + 1) ≠ 0 := fun e => h0 (by rw [hp, if_pos e])
    rw [if_neg hne] at hp
    have hsum : pd (carS prioS l st t s0).1.q (i + 1) + (((t + 1 : Nat) : Int) - t0) = wt (fun k => cum l st k (t + 1) - cum l st k t0) (i + 1) := by
      rw [hcum, hp, hsd]
      omega
    refine ⟨⟨t0, by omega, ?_, hsum, fun k hk' => tick_sent hk (hsent k hk')⟩, hwo⟩
    have hlt : (((t + 1 : Nat) : Int) - t0) < r ∨ (((t + 1 : Nat) : Int) - t0) = r := by omega
    rcases hlt with hlt | heq
    · exact hlt
    · exfalso
      have := win_le h.sm h.len h.nn hs hr hrp t0 (t + 1 - t0) (by omega)
      rw [show t0 + (t + 1 - t0) = t + 1 by omega, ← hsum, hf] at this
      have := pd_nonneg hg' (i + 1)
      omega
theorem win_run {l : List Sm} {st : List Int} (h : SOk l st) {i : Nat} {s : Sm} (hs : l[i]? = some s) {r : Int} (hr : 1 ≤ r) (hrp : r ≤ s.per) (hf : fF l i r = r) : ∀ t : Nat, Win l st i r t (runS prioS l st t).1
  | 0 => by
    refine ⟨⟨0, Nat.le_refl _, by omega, ?_, fun k _ x hx => by cases hx⟩, by show (0 : Int) ≤ r; omega⟩
    have h1 : pd (runS prioS l st 0).1.q (i + 1) = 0 := by
      exact wt_zero (i + 1)
    rw [h1, wt_congr (g := fun _ => 0) fun k _ => by omega, wt_zero]
    rfl
  | t + 1 => win_step h hs hr hrp hf t (win_run h hs hr hrp hf t)
/-- NEVER LATE: whatever the starts are. -/
theorem never_late {l : List Sm} {st : List Int} (h : SOk l st) {i : Nat} {s : Sm} (hs : l[i]? = some s) {r : Int} (hr : 1 ≤ r) (hrp : r ≤ s.per) (hf : fF l i r = r) (t : Nat) : (runS prioS l st t).1.wo i ≤ r :=
  (win_run h hs hr hrp hf t).wo

/-! ### All together. -/
/-- The first message is on its way, behind what is sent at a tick. -/
structure First (l : List Sm) (i : Nat) (t : Nat) (q : Nat → List (Int × Int)) : Prop where
  one : ∃ k : Int, q i = [(0, k)] ∧ 1 ≤ k
  sum : pd q (i + 1) = fF l i ((t : Int) + 1) - t
theorem relB_zero {l : List Sm} {st : List Int} (hz : ∀ a ∈ st, a = 0) (hst : st.length = l.length) {t : Int} (ht : 0 ≤ t) {i : Nat} {s : Sm} (hs : l[i]? = some s) : relB l st t i = decide (t % s.per = 0) := by
  have hi := (List.getElem?_eq_some_iff.1 hs).1
  have ea : st[i]? = some (st[i]'(by omega)) := List.getElem?_eq_getElem _
  have e0 : st[i]'(by omega) = 0 := hz _ (List.getElem_mem _)
  unfold relB
  rw [hs, ea, e0]
  simp [ht]
theorem ceil_next {p t : Int} (hp : 1 ≤ p) (ht : 0 ≤ t) : (t + 1 + p - 1) / p = (t + p - 1) / p + if t % p = 0 then 1 else 0 := by
  have h := div_next hp (y := t + p - 1) (by omega)
  rw [show t + 1 + p - 1 = t + p - 1 + 1 by omega, h, show t + p - 1 + 1 = t + p * 1 by omega, Int.add_mul_emod_self_left]
theorem fF_next {l : List Sm} (hl : ∀ s ∈ l, OkSm s) {st : List Int} (hz : ∀ a ∈ st, a = 0) (hst : st.length = l.length) {i : Nat} (hi : i ≤ l.length) (t : Nat) : fF l i ((t : Int) + 1) = fF l i t + wt (arr l st t) i := by
  unfold fF
  rw [Int.add_assoc, ← wt_add]
  congr 1
  refine wt_congr fun k hk => ?_
  have e : l[k]? = some (l[k]'(by omega)) := List.getElem?_eq_getElem _
  unfold arr
  rw [relB_zero hz hst (by omega) e]
  have e1 : perAt l k = (l[k]'(by omega)).per := by unfold perAt; rw [e]
  rw [← e1, ceil_next (perAt_ok hl k) (by omega), Int.mul_add]
  by_cases h : (t : Int) % perAt l k = 0
  · simp [h]
  · simp [h]
theorem first_tick {l : List Sm} {st : List Int} (h : SOk l st) {i : Nat} (hi : i < l.length) {t : Nat} (hF : First l i t (sendS l st t (runS prioS l st t).1.q)) :
    (fF l i ((t : Int) + 1) = (t : Int) + 1 ∧ (t : Int) + 1 ≤ (runS prioS l st (t + 1)).1.wo i) ∨
    ((∃ k : Int, (runS prioS l st (t + 1)).1.q i = [(0, k)] ∧ 1 ≤ k) ∧ pd (runS prioS l st (t + 1)).1.q (i + 1) = fF l i ((t : Int) + 1) - ((t : Int) + 1)) := by
  have h6 := h.six
  have hg := good_send (st := st) (t := t) h.sm (by omega) (run_good h t)
  obtain ⟨hk, ho⟩ := car_tick l st t (runS prioS l st t).1 (ch := prioS) (by
    rcases prio_spec (sendS l st t (runS prioS l st t).1.q) with ⟨h, _⟩ | ⟨j, h, _, h1, _⟩
    · exact .inl h
    · exact .inr ⟨j, h, h1⟩)
  have hp := prio_tick (n := i + 1) (by omega) hg
  have hps := prio_spec (sendS l st t (runS prioS l st t).1.q)
  show (_ ∧ _ ≤ (carS prioS l st t (runS prioS l st t).1).1.wo i) ∨ ((∃ k : Int, (carS prioS l st t (runS prioS l st t).1).1.q i = [(0, k)] ∧ 1 ≤ k) ∧ pd (carS prioS l st t (runS prioS l st t).1).1.q (i + 1) = _)
  obtain ⟨⟨k, hq, hk1⟩, hsum⟩ := hF
  generalize runS prioS l st t = R at *
  obtain ⟨s0, out⟩ := R
  dsimp only at *
  have hpos : pd (sendS l st t s0.q) (i + 1) ≠ 0 := fun e => by
    have := pd_empty hg e i (by omega)
    rw [hq] at this
    cases this
  rw [if_neg hpos, hsum] at hp
  generalize hc : carS prioS l st t s0 = C at *
  obtain ⟨s1, o1⟩ := C
  dsimp only at *
  cases hk with
  | idle =>
    rcases hps with ⟨_, h2⟩ | ⟨j, h2, _⟩
    · have := h2 i (by omega)
      rw [hq] at this
      cases this
    · omega
  | last j a r e =>
    by_cases hj : i = j
    · subst hj
      rw [hq] at e
      injection e with e1 e2
      injection e1 with e3 e4
      subst e3 e4 e2
      left
      have hempty : pd (upF (sendS l st t s0.q) i []) (i + 1) = 0 := by
        rcases hps with ⟨h2, _⟩ | ⟨j, h2, _, _, h3⟩
        · omega
        · have : i = j := by omega
          subst this
          unfold pd
          rw [wt_congr (g := fun _ => 0), wt_zero]
          intro m hm
          by_cases e : m = i
          · subst e
            rw [upF_same]
            rfl
          · rw [upF_other _ _ e, h3 m (by omega)]
            rfl
      dsimp only at hp
      refine ⟨by omega, ?_⟩
      dsimp only
      rw [upF_same]
      omega
    · right
      exact ⟨⟨k, by dsimp only; rw [upF_other _ _ hj]; exact hq, hk1⟩, by omega⟩
  | more j a n r e hn =>
    right
    by_cases hj : i = j
    · subst hj
      rw [hq] at e
      injection e with e1 e2
      injection e1 with e3 e4
      subst e3 e4 e2
      exact ⟨⟨k - 1, by dsimp only; rw [upF_same], by omega⟩, by omega⟩
    · exact ⟨⟨k, by dsimp only; rw [upF_other _ _ hj]; exact hq, hk1⟩, by omega⟩
theorem first_zero {l : List Sm} {st : List Int} (h : SOk l st) (hz : ∀ a ∈ st, a = 0) {i : Nat} (hi : i < l.length) : First l i 0 (sendS l st 0 (runS prioS l st 0).1.q) := by
  have hr : ∀ k, k < l.length → relB l st 0 k = true := fun k hk => by
    rw [relB_zero hz h.len (Int.le_refl 0) (List.getElem?_eq_getElem hk)]
    simp
  have hl := lenAt_ok (l := l) h.sm (hr i hi)
  refine ⟨⟨lenAt l i, ?_, hl⟩, ?_⟩
  · unfold sendS
    rw [if_pos (hr i hi)]
    rfl
  · rw [pd_send]
    have h1 : pd (runS prioS l st 0).1.q (i + 1) = 0 := by
      exact wt_zero (i + 1)
    have e : ∀ k, k < l.length → arr l st 0 k = lenAt l k := fun k hk => by
      unfold arr
      rw [if_pos (hr k hk)]
    rw [h1, wt, e i hi, wt_congr (g := fun k => lenAt l k * ((((0 : Nat) : Int) + 1 + perAt l k - 1) / perAt l k)) fun k hk => ?_]
    · unfold fF
      omega
    · rw [e k (by omega), show ((0 : Nat) : Int) + 1 + perAt l k - 1 = perAt l k by omega, Int.ediv_self (by have := perAt_ok h.sm k; omega), Int.mul_one]
theorem first_next {l : List Sm} {st : List Int} (h : SOk l st) (hz : ∀ a ∈ st, a = 0) {i : Nat} {s : Sm} (hs : l[i]? = some s) {t : Nat} (ht : (t : Int) + 1 < s.per)
    (hk : ∃ k : Int, (runS prioS l st (t + 1)).1.q i = [(0, k)] ∧ 1 ≤ k) (hsum : pd (runS prioS l st (t + 1)).1.q (i + 1) = fF l i ((t : Int) + 1) - ((t : Int) + 1)) :
    First l i (t + 1) (sendS l st ((t + 1 : Nat) : Int) (runS prioS l st (t + 1)).1.q) := by
  have hi := (List.getElem?_eq_some_iff.1 hs).1
  have hnr : relB l st ((t + 1 : Nat) : Int) i = false := by
    rw [relB_zero hz h.len (by omega) hs]
    have : ((t + 1 : Nat) : Int) % s.per = ((t + 1 : Nat) : Int) := Int.emod_eq_of_lt (by omega) (by omega)
    rw [this]
    simp
    omega
  obtain ⟨k, hk1, hk2⟩ := hk
  refine ⟨⟨k, ?_, hk2⟩, ?_⟩
  · unfold sendS
    rw [hnr]
    simpa using hk1
  · have hai : arr l st ((t + 1 : Nat) : Int) i = 0 := by
      unfold arr
      rw [hnr]
      rfl
    have hnext := fF_next h.sm hz h.len (i := i) (by omega) (t + 1)
    rw [pd_send, hsum, wt, hai, hnext, show ((t + 1 : Nat) : Int) = (t : Int) + 1 by omega]
    omega
/-- All together: some message has the stream's response. -/
theorem together {l : List Sm} {st : List Int} (h : SOk l st) (hz : ∀ a ∈ st, a = 0) {i : Nat} {s : Sm} (hs : l[i]? = some s) {r : Nat} (hr : 1 ≤ r) (hrp : (r : Int) ≤ s.per) (hf : fF l i r = r)
    (hleast : ∀ x : Nat, 1 ≤ x → x < r → fF l i x ≠ x) : (r : Int) ≤ (runS prioS l st r).1.wo i := by
  have hi := (List.getElem?_eq_some_iff.1 hs).1
  have hall : ∀ t : Nat, t < r → First l i t (sendS l st t (runS prioS l st t).1.q) := by
    intro t
    induction t with
    | zero => exact fun _ => first_zero h hz hi
    | succ t ih =>
      intro ht
      rcases first_tick h hi (ih (by omega)) with ⟨h1, _⟩ | ⟨h1, h2⟩
      · exact absurd (by rw [show ((t + 1 : Nat) : Int) = (t : Int) + 1 by omega]; exact h1) (hleast (t + 1) (by omega) ht)
      · exact first_next h hz hs (by omega) h1 h2
  obtain ⟨u, rfl⟩ : ∃ u, r = u + 1 := ⟨r - 1, by omega⟩
  rcases first_tick h hi (hall u (by omega)) with ⟨_, h1⟩ | ⟨⟨k, h1, h2⟩, h3⟩
  · rw [show ((u + 1 : Nat) : Int) = (u : Int) + 1 by omega]
    exact h1
  · exfalso
    rw [show ((u + 1 : Nat) : Int) = (u : Int) + 1 by omega] at hf
    rw [hf] at h3
    have := pd_empty (run_good h (u + 1)) (n := i + 1) (by rw [h3]; omega) i (Nat.lt_succ_self i)
    rw [h1] at this
    cases this
theorem wo_mono {ch : (Nat → List (Int × Int)) → Int} (l : List Sm) (st : List Int) (t : Nat) (i : Nat) : (runS ch l st t).1.wo i ≤ (runS ch l st (t + 1)).1.wo i := by
  show _ ≤ (carS ch l st t (runS ch l st t).1).1.wo i
  unfold carS
  split
  · exact Int.le_refl _
  · split
    · exact Int.le_refl _
    · split
      · unfold upF
        dsimp only
        split
        · rename_i h
          rw [h]
          omega
        · exact Int.le_refl _
      · exact Int.le_refl _
theorem wo_mono_le {ch : (Nat → List (Int × Int)) → Int} (l : List Sm) (st : List Int) (i : Nat) {t u : Nat} (h : t ≤ u) : (runS ch l st t).1.wo i ≤ (runS ch l st u).1.wo i := by
  induction u with
  | zero => rw [show t = 0 by omega]; exact Int.le_refl _
  | succ u ih =>
    by_cases e : t = u + 1
    · rw [e]; exact Int.le_refl _
    · exact Int.le_trans (ih (by omega)) (wo_mono l st u i)
end Go.Proofs.YtdlmkblmljhbfaaDoor
