/-
  Plain laws of senders: what one tick does, how much is sent in a window.
-/
import Derived.Test.YtdlmkblmljhbfaaDoorSend
namespace Go.Proofs.YtdlmkblmljhbfaaDoor
set_option linter.unusedSimpArgs false
set_option linter.unusedVariables false
def wt (m : Nat → Int) : Nat → Int
  | 0 => 0
  | k + 1 => wt m k + m k
theorem wt_congr {f g : Nat → Int} : ∀ {n : Nat}, (∀ k, k < n → f k = g k) → wt f n = wt g n
  | 0, _ => rfl
  | n + 1, h => by rw [wt, wt, wt_congr (n := n) fun k hk => h k (by omega), h n (by omega)]
theorem wt_add (f g : Nat → Int) : ∀ n : Nat, wt (fun k => f k + g k) n = wt f n + wt g n
  | 0 => rfl
  | n + 1 => by
    rw [wt, wt, wt, wt_add f g n]
    omega
theorem wt_sub (f g : Nat → Int) : ∀ n : Nat, wt (fun k => f k - g k) n = wt f n - wt g n
  | 0 => rfl
  | n + 1 => by
    rw [wt, wt, wt, wt_sub f g n]
    omega
theorem wt_le {f g : Nat → Int} : ∀ {n : Nat}, (∀ k, k < n → f k ≤ g k) → wt f n ≤ wt g n
  | 0, _ => Int.le_refl _
  | n + 1, h => by
    rw [wt, wt]
    have := wt_le (n := n) fun k hk => h k (by omega)
    have := h n (by omega)
    omega
theorem wt_zero : ∀ n : Nat, wt (fun _ => 0) n = 0
  | 0 => rfl
  | n + 1 => by rw [wt, wt_zero n]; rfl
theorem wt_nonneg {f : Nat → Int} {n : Nat} (h : ∀ k, k < n → 0 ≤ f k) : 0 ≤ wt f n := by
  have := wt_le h
  rwa [wt_zero] at this
/-- One of them differs. -/
theorem wt_up {f g : Nat → Int} {i : Nat} (h : ∀ k, k ≠ i → f k = g k) : ∀ n : Nat, wt f n = wt g n + if i < n then f i - g i else 0
  | 0 => by simp [wt]
  | n + 1 => by
    rw [wt, wt, wt_up h n]
    by_cases e : n = i
    · subst e
      simp
      omega
    · rw [h n e]
      by_cases hi : i < n
      · rw [if_pos hi, if_pos (by omega)]
        omega
      · rw [if_neg hi, if_neg (by omega)]
        omega
theorem wt_pos {f : Nat → Int} : ∀ {n : Nat}, (∀ k, k < n → 0 ≤ f k) → wt f n = 0 → ∀ k, k < n → f k = 0
  | 0, _, _, k, hk => by omega
  | n + 1, h, h0, k, hk => by
    rw [wt] at h0
    have h1 := wt_nonneg (f := f) (n := n) fun k hk => h k (by omega)
    have h2 := h n (by omega)
    by_cases e : k = n
    · subst e
      omega
    · exact wt_pos (n := n) (fun k hk => h k (by omega)) (by omega) k (by omega)

def sumL : List (Int × Int) → Int
  | [] => 0
  | x :: l => x.2 + sumL l
theorem sumL_app : ∀ a b : List (Int × Int), sumL (a ++ b) = sumL a + sumL b
  | [], b => by simp [sumL]
  | x :: a, b => by
    rw [List.cons_append, sumL, sumL, sumL_app a b]
    omega
theorem sumL_nonneg : ∀ {l : List (Int × Int)}, (∀ x ∈ l, 1 ≤ x.2) → 0 ≤ sumL l
  | [], _ => Int.le_refl _
  | x :: l, h => by
    have := h x (by simp)
    have := sumL_nonneg (l := l) fun y hy => h y (by simp [hy])
    rw [sumL]
    omega
theorem sumL_zero {l : List (Int × Int)} (h : ∀ x ∈ l, 1 ≤ x.2) (h0 : sumL l = 0) : l = [] := by
  cases l with
  | nil => rfl
  | cons x l =>
    have := h x (by simp)
    have := sumL_nonneg (l := l) fun y hy => h y (by simp [hy])
    rw [sumL] at h0
    omega
theorem upF_same {α : Type} (f : Nat → α) (i : Nat) (v : α) : upF f i v i = v := by simp [upF]
theorem upF_other {α : Type} (f : Nat → α) {i j : Nat} (v : α) (h : j ≠ i) : upF f i v j = f j := by simp [upF, h]

theorem prioFrom_spec (q : Nat → List (Int × Int)) : ∀ n i : Nat, (prioFrom q n i = -1 ∧ ∀ k, i ≤ k → k < i + n → q k = []) ∨ ∃ j : Nat, prioFrom q n i = j ∧ i ≤ j ∧ j < i + n ∧ q j ≠ [] ∧ ∀ k, i ≤ k → k < j → q k = []
  | 0, i => .inl ⟨rfl, fun k h1 h2 => by omega⟩
  | n + 1, i => by
    unfold prioFrom
    cases hq : q i with
    | nil =>
      rw [if_pos (by simp)]
      rcases prioFrom_spec q n (i + 1) with ⟨h1, h2⟩ | ⟨j, h1, h2, h3, h4, h5⟩
      · refine .inl ⟨h1, fun k h3 h4 => ?_⟩
        by_cases e : k = i
        · rw [e, hq]
        · exact h2 k (by omega) (by omega)
      · refine .inr ⟨j, h1, by omega, by omega, h4, fun k h6 h7 => ?_⟩
        by_cases e : k = i
        · rw [e, hq]
        · exact h5 k (by omega) h7
    | cons x r =>
      rw [if_neg (by simp)]
      exact .inr ⟨i, rfl, Nat.le_refl _, by omega, by simp [hq], fun k h1 h2 => by omega⟩
theorem prio_spec (q : Nat → List (Int × Int)) : (prioS q = -1 ∧ ∀ k, k < 6 → q k = []) ∨ ∃ j : Nat, prioS q = j ∧ j < 6 ∧ q j ≠ [] ∧ ∀ k, k < j → q k = [] := by
  rcases prioFrom_spec q 6 0 with ⟨h1, h2⟩ | ⟨j, h1, _, h3, h4, h5⟩
  · exact .inl ⟨h1, fun k hk => h2 k (by omega) (by omega)⟩
  · exact .inr ⟨j, h1, by omega, h4, fun k hk => h5 k (by omega) hk⟩

/-- What a tick does to the messages, where some stream is chosen or none. -/
inductive Tick (t : Int) (q : Nat → List (Int × Int)) (wo : Nat → Int) : Ss → Int → Prop
  | idle : Tick t q wo ⟨q, wo⟩ (-1)
  | last (i : Nat) (a : Int) (r : List (Int × Int)) : q i = (a, 1) :: r → Tick t q wo ⟨upF q i r, upF wo i (max (wo i) (t - a + 1))⟩ i
  | more (i : Nat) (a k : Int) (r : List (Int × Int)) : q i = (a, k) :: r → k ≠ 1 → Tick t q wo ⟨upF q i ((a, k - 1) :: r), wo⟩ i
theorem car_tick {ch : (Nat → List (Int × Int)) → Int} (l : List Sm) (st : List Int) (t : Int) (s : Ss)
    (hch : ch (sendS l st t s.q) = -1 ∨ ∃ j : Nat, ch (sendS l st t s.q) = j ∧ sendS l st t s.q j ≠ []) :
    Tick t (sendS l st t s.q) s.wo (carS ch l st t s).1 (carS ch l st t s).2 ∧ (carS ch l st t s).2 = ch (sendS l st t s.q) := by
  unfold carS
  generalize sendS l st t s.q = q at *
  rcases hch with h | ⟨j, h, hq⟩
  · rw [if_pos h]
    exact ⟨.idle, h.symm⟩
  · rw [h, if_neg (by omega), Int.toNat_natCast]
    cases e : q j with
    | nil => exact absurd e hq
    | cons x r =>
      obtain ⟨a, k⟩ := x
      dsimp only
      by_cases hk : k - 1 = 0
      · rw [if_pos hk]
        have : k = 1 := by omega
        subst this
        exact ⟨.last j a r e, rfl⟩
      · rw [if_neg hk]
        exact ⟨.more j a k r e (by omega), rfl⟩
/-- All messages have frames left, and were sent before. -/
def GoodQ (t : Int) (q : Nat → List (Int × Int)) : Prop := ∀ i, ∀ x ∈ q i, 1 ≤ x.2 ∧ 0 ≤ x.1 ∧ x.1 < t
/-- Streams as they are asked for. -/
def OkSm (s : Sm) : Prop := 1 ≤ s.per ∧ s.per ≤ 60 ∧ 1 ≤ s.dl ∧ s.dl ≤ s.per ∧ 1 ≤ s.len ∧ s.len ≤ 20
theorem lenAt_ok {l : List Sm} (hl : ∀ s ∈ l, OkSm s) {st : List Int} {t : Int} {i : Nat} (h : relB l st t i = true) : 1 ≤ lenAt l i := by
  unfold relB at h
  unfold lenAt
  cases e : l[i]? with
  | none => rw [e] at h; cases h
  | some s => exact (hl s (List.mem_of_getElem? e)).2.2.2.2.1
theorem lenAt_nonneg {l : List Sm} (hl : ∀ s ∈ l, OkSm s) (i : Nat) : 0 ≤ lenAt l i := by
  unfold lenAt
  cases e : l[i]? with
  | none => exact Int.le_refl _
  | some s =>
    have := (hl s (List.mem_of_getElem? e)).2.2.2.2.1
    show 0 ≤ s.len
    omega
theorem good_send {l : List Sm} {st : List Int} {t : Int} {q : Nat → List (Int × Int)} (hl : ∀ s ∈ l, OkSm s) (ht : 0 ≤ t) (h : GoodQ t q) : GoodQ (t + 1) (sendS l st t q) := by
  intro i x hx
  unfold sendS at hx
  split at hx
  · rename_i hr
    rcases List.mem_append.1 hx with hx | hx
    · have := h i x hx
      omega
    · have hx := List.mem_singleton.1 hx
      subst hx
      exact ⟨lenAt_ok hl hr, ht, by show t < t + 1; omega⟩
  · have := h i x hx
    omega
theorem good_tick {t u : Int} {q : Nat → List (Int × Int)} {wo : Nat → Int} {s : Ss} {o : Int} (h : GoodQ u q) (hk : Tick t q wo s o) : GoodQ u s.q := by
  cases hk with
  | idle => exact h
  | last i a r e =>
    intro j x hx
    dsimp only at hx
    by_cases hj : j = i
    · subst hj
      rw [upF_same] at hx
      exact h j x (by rw [e]; simp [hx])
    · rw [upF_other _ _ hj] at hx
      exact h j x hx
  | more i a k r e hk1 =>
    intro j x hx
    dsimp only at hx
    by_cases hj : j = i
    · subst hj
      rw [upF_same] at hx
      have h0 := h j (a, k) (by rw [e]; simp)
      rcases List.mem_cons.1 hx with hx | hx
      · subst hx
        dsimp only at h0 ⊢
        omega
      · exact h j x (by rw [e]; simp [hx])
    · rw [upF_other _ _ hj] at hx
      exact h j x hx
/-- How much waits of the first streams. -/
def pd (q : Nat → List (Int × Int)) (n : Nat) : Int := wt (fun k => sumL (q k)) n
def arr (l : List Sm) (st : List Int) (t : Int) (k : Nat) : Int := if relB l st t k then lenAt l k else 0
theorem send_sum (l : List Sm) (st : List Int) (t : Int) (q : Nat → List (Int × Int)) (k : Nat) : sumL (sendS l st t q k) = sumL (q k) + arr l st t k := by
  unfold sendS arr
  split
  · rw [sumL_app]
    simp [sumL]
  · omega
theorem pd_send (l : List Sm) (st : List Int) (t : Int) (q : Nat → List (Int × Int)) (n : Nat) : pd (sendS l st t q) n = pd q n + wt (arr l st t) n := by
  unfold pd
  rw [wt_congr (g := fun k => sumL (q k) + arr l st t k) fun k _ => send_sum l st t q k, wt_add]
theorem good_nonneg {t : Int} {q : Nat → List (Int × Int)} (h : GoodQ t q) (k : Nat) : 0 ≤ sumL (q k) := sumL_nonneg fun x hx => (h k x hx).1
theorem pd_nonneg {t : Int} {q : Nat → List (Int × Int)} (h : GoodQ t q) (n : Nat) : 0 ≤ pd q n := wt_nonneg fun k _ => good_nonneg h k
theorem pd_empty {t : Int} {q : Nat → List (Int × Int)} (h : GoodQ t q) {n : Nat} (h0 : pd q n = 0) : ∀ k, k < n → q k = [] := fun k hk =>
  sumL_zero (fun x hx => (h k x hx).1) (wt_pos (fun k _ => good_nonneg h k) h0 k hk)
theorem sum_tick {t : Int} {q : Nat → List (Int × Int)} {wo : Nat → Int} {s : Ss} {o : Int} (hk : Tick t q wo s o) (n : Nat) : pd s.q n = pd q n - if 0 ≤ o ∧ o < n then 1 else 0 := by
  cases hk with
  | idle =>
    rw [if_neg (by omega)]
    show pd q n = pd q n - 0
    omega
  | last i a r e =>
    unfold pd
    rw [wt_up (f := fun k => sumL (upF q i r k)) (g := fun k => sumL (q k)) (i := i) (fun k hk => by simp [upF, hk]) n]
    simp only [upF_same, e, sumL]
    by_cases h : i < n
    · rw [if_pos h, if_pos (by omega)]
      omega
    · rw [if_neg h, if_neg (by omega)]
      omega
  | more i a k r e hk1 =>
    unfold pd
    rw [wt_up (f := fun j => sumL (upF q i ((a, k - 1) :: r) j)) (g := fun j => sumL (q j)) (i := i) (fun j hj => by simp [upF, hj]) n]
    simp only [upF_same, e, sumL]
    by_cases h : i < n
    · rw [if_pos h, if_pos (by omega)]
      omega
    · rw [if_neg h, if_neg (by omega)]
      omega
/-- By priorities a frame of the first streams is carried as soon as one waits. -/
theorem prio_tick {l : List Sm} {st : List Int} {t u : Int} {s : Ss} {n : Nat} (hn : n ≤ 6) (hg : GoodQ u (sendS l st t s.q)) :
    pd (carS prioS l st t s).1.q n = if pd (sendS l st t s.q) n = 0 then 0 else pd (sendS l st t s.q) n - 1 := by
  obtain ⟨hk, ho⟩ := car_tick l st t s (ch := prioS) (by
    rcases prio_spec (sendS l st t s.q) with ⟨h, _⟩ | ⟨j, h, _, h1, _⟩
    · exact .inl h
    · exact .inr ⟨j, h, h1⟩)
  rw [sum_tick hk n, ho]
  rcases prio_spec (sendS l st t s.q) with ⟨h, h1⟩ | ⟨j, h, h2, h1, h3⟩
  · rw [h, if_neg (by omega)]
    have : pd (sendS l st t s.q) n = 0 := by
      unfold pd
      rw [wt_congr (g := fun _ => 0) fun k hk => by rw [h1 k (by omega)]; rfl, wt_zero]
    rw [if_pos this, this]
    omega
  · rw [h]
    by_cases hj : j < n
    · rw [if_pos (by omega), if_neg]
      intro h0
      exact h1 (pd_empty hg h0 j hj)
    · rw [if_neg (by omega)]
      have : pd (sendS l st t s.q) n = 0 := by
        unfold pd
        rw [wt_congr (g := fun _ => 0) fun k hk => by rw [h3 k (by omega)]; rfl, wt_zero]
      rw [if_pos this, this]
      omega

/-! ### How much is sent in a window. -/
def cum (l : List Sm) (st : List Int) (k : Nat) : Nat → Int
  | 0 => 0
  | t + 1 => cum l st k t + arr l st t k
theorem div_next {y p : Int} (hp : 1 ≤ p) (hy : 0 ≤ y) : (y + 1) / p = y / p + if (y + 1) % p = 0 then 1 else 0 := by
  have h1 := Int.mul_ediv_add_emod y p
  have h2 := Int.emod_nonneg y (show p ≠ 0 by omega)
  have h3 := Int.emod_lt_of_pos y (show 0 < p by omega)
  have h4 := Int.mul_ediv_add_emod (y + 1) p
  have h5 := Int.emod_nonneg (y + 1) (show p ≠ 0 by omega)
  have h6 := Int.emod_lt_of_pos (y + 1) (show 0 < p by omega)
  generalize y / p = a at *
  generalize y % p = b at *
  generalize (y + 1) / p = c at *
  generalize (y + 1) % p = d at *
  have h7 : p * (c - a) = b + 1 - d := by rw [Int.mul_sub]; omega
  by_cases hd : d = 0
  · rw [if_pos hd]
    subst hd
    have : 0 < p * (c - a) := by omega
    have h8 : 0 < c - a := by
      rcases (by omega : 0 < (c - a) ∨ (c - a) ≤ 0) with h | h
      · exact h
      · have := Int.mul_le_mul_of_nonneg_left h (show 0 ≤ p by omega)
        omega
    have h9 : c - a < 2 := by
      rcases (by omega : (c - a) < 2 ∨ 2 ≤ (c - a)) with h | h
      · exact h
      · have := Int.mul_le_mul_of_nonneg_left h (show 0 ≤ p by omega)
        omega
    omega
  · rw [if_neg hd]
    have h8 : -1 < c - a := by
      rcases (by omega : (-1) < (c - a) ∨ (c - a) ≤ (-1)) with h | h
      · exact h
      · have := Int.mul_le_mul_of_nonneg_left h (show 0 ≤ p by omega)
        omega
    have h9 : c - a < 1 := by
      rcases (by omega : (c - a) < 1 ∨ 1 ≤ (c - a)) with h | h
      · exact h
      · have := Int.mul_le_mul_of_nonneg_left h (show 0 ≤ p by omega)
        omega
    omega
/-- How many messages a stream has sent before a tick. -/
def cntS (p a t : Int) : Int := if t ≤ a then 0 else (t - a - 1) / p + 1
theorem cnt_next {p a t : Int} (hp : 1 ≤ p) : cntS p a (t + 1) = cntS p a t + if (decide (a ≤ t) && decide ((t - a) % p = 0)) = true then 1 else 0 := by
  unfold cntS
  by_cases h1 : t + 1 ≤ a
  · rw [if_pos h1, if_pos (by omega), if_neg (by simp; omega)]
    rfl
  · rw [if_neg h1]
    by_cases h2 : t ≤ a
    · have : t = a := by omega
      subst this
      rw [if_pos h2, if_pos (by simp), show t + 1 - t - 1 = (0 : Int) by omega]
      simp
    · rw [if_neg h2]
      have := div_next hp (y := t - a - 1) (by omega)
      rw [show t - a - 1 + 1 = t - a by omega] at this
      rw [show t + 1 - a - 1 = t - a by omega, this]
      by_cases h3 : (t - a) % p = 0
      · rw [if_pos h3, if_pos (by simp [h3]; omega)]
        try omega
      · rw [if_neg h3, if_neg (by simp [h3])]
        try omega
theorem cum_eq {l : List Sm} {st : List Int} {k : Nat} {s : Sm} {a : Int} (hs : l[k]? = some s) (ha : st[k]? = some a) (ha0 : 0 ≤ a) (hp : 1 ≤ s.per) : ∀ t : Nat, cum l st k t = s.len * cntS s.per a t
  | 0 => by
    unfold cum cntS
    rw [if_pos (by simpa using ha0), Int.mul_zero]
  | t + 1 => by
    rw [cum, cum_eq hs ha ha0 hp t, show ((t + 1 : Nat) : Int) = (t : Int) + 1 by omega, cnt_next hp, Int.mul_add]
    unfold arr relB lenAt
    rw [hs, ha]
    dsimp only
    split <;> simp
theorem cnt_win {p a t r : Int} (hp : 1 ≤ p) (hr : 0 ≤ r) : cntS p a (t + r) - cntS p a t ≤ (r + p - 1) / p := by
  have mono : ∀ {x y : Int}, x ≤ y → x / p ≤ y / p := fun h => Int.ediv_le_ediv (by omega) h
  have plus : ∀ x : Int, x / p + 1 = (x + p) / p := fun x => (Int.add_ediv_of_dvd_right (Int.dvd_refl p) |>.trans (by rw [Int.ediv_self (by omega)])).symm
  unfold cntS
  by_cases h2 : t ≤ a
  · rw [if_pos h2]
    by_cases h1 : t + r ≤ a
    · rw [if_pos h1]
      have : 0 / p ≤ (r + p - 1) / p := mono (by omega)
      rw [Int.zero_ediv] at this
      omega
    · rw [if_neg h1, plus]
      have := mono (show t + r - a - 1 + p ≤ r + p - 1 by omega)
      omega
  · rw [if_neg h2, if_neg (by omega)]
    generalize hx : t - a - 1 = x
    rw [show t + r - a - 1 = x + r by omega]
    have h1 := Int.mul_ediv_add_emod x p
    have h3 := Int.emod_lt_of_pos x (show 0 < p by omega)
    have h4 : (x + r) / p ≤ (p * (x / p) + (r + p - 1)) / p := mono (by omega)
    rw [Int.add_comm (p * (x / p)), Int.add_mul_ediv_left _ _ (show p ≠ 0 by omega)] at h4
    omega
theorem cum_none {l : List Sm} {st : List Int} {k : Nat} (h : l[k]? = none) : ∀ t : Nat, cum l st k t = 0
  | 0 => rfl
  | t + 1 => by
    rw [cum, cum_none h t]
    unfold arr relB
    rw [h]
    rfl
def perAt (l : List Sm) (i : Nat) : Int := match l[i]? with
  | some s => s.per
  | none => 1
theorem cum_win {l : List Sm} {st : List Int} (hl : ∀ s ∈ l, OkSm s) (hst : st.length = l.length) (h0 : ∀ a ∈ st, 0 ≤ a) (k t r : Nat) : cum l st k (t + r) - cum l st k t ≤ lenAt l k * (((r : Int) + perAt l k - 1) / perAt l k) := by
  cases e : l[k]? with
  | none =>
    rw [cum_none e, cum_none e]
    unfold lenAt
    rw [e]
    simp
  | some s =>
    have hk := (List.getElem?_eq_some_iff.1 e).1
    have ea : st[k]? = some (st[k]'(by omega)) := List.getElem?_eq_getElem _
    have hs := hl s (List.mem_of_getElem? e)
    rw [cum_eq e ea (h0 _ (List.getElem_mem _)) hs.1, cum_eq e ea (h0 _ (List.getElem_mem _)) hs.1, ← Int.mul_sub]
    unfold lenAt perAt
    rw [e]
    refine Int.mul_le_mul_of_nonneg_left ?_ (by have := hs.2.2.2.2.1; show 0 ≤ s.len; omega)
    have := cnt_win (p := s.per) (a := st[k]'(by omega)) (t := t) (r := r) hs.1 (by omega)
    rw [show ((t + r : Nat) : Int) = (t : Int) + r by omega]
    exact this
end Go.Proofs.YtdlmkblmljhbfaaDoor
