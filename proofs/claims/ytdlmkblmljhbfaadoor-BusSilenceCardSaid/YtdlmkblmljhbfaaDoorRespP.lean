/-
  Plain laws of responses: the iteration meets the least number at which the demand is met.
-/
import Derived.Test.YtdlmkblmljhbfaaDoorNeverP
namespace Go.Proofs.YtdlmkblmljhbfaaDoor
set_option linter.unusedSimpArgs false
set_option linter.unusedVariables false
theorem respTo_skip {f : Int → Int} : ∀ (n : Nat) (r : Int) (d : Nat), d ≤ n → (∀ x, r ≤ x → x < r + d → f x ≠ x) → respTo f n r = respTo f (n - d) (r + d)
  | n, r, 0, _, _ => by simp
  | 0, r, d + 1, h, _ => by omega
  | n + 1, r, d + 1, h, hx => by
    rw [respTo, if_neg (hx r (Int.le_refl _) (by omega)), respTo_skip n (r + 1) d (by omega) fun x h1 h2 => hx x (by omega) (by omega)]
    congr 1
    · omega
    · omega
theorem respTo_none {f : Int → Int} : ∀ (n : Nat) (r : Int), (∀ x, r ≤ x → x < r + n → f x ≠ x) → respTo f n r = none
  | 0, _, _ => rfl
  | n + 1, r, h => by
    rw [respTo, if_neg (h r (Int.le_refl _) (by omega))]
    exact respTo_none n (r + 1) fun x h1 h2 => h x (by omega) (by omega)
/-- One step of the iteration. -/
theorem resp_step {f : Int → Int} (hm : ∀ a b, a ≤ b → f a ≤ f b) {r : Int} (h1 : 1 ≤ r) (h2 : r ≤ 10000) (hr : r ≤ f r) (hne : f r ≠ r) (hb : f r ≤ 1000000000) :
    respTo f (10001 - r).toNat r = respTo f (10001 - f r).toNat (f r) ∧ f r ≤ f (f r) := by
  have hno : ∀ x, r ≤ x → x < f r → f x ≠ x := fun x h3 h4 e => by
    have := hm r x h3
    omega
  refine ⟨?_, hm _ _ hr⟩
  by_cases h : f r ≤ 10000
  · rw [respTo_skip (10001 - r).toNat r (f r - r).toNat (by omega) fun x h3 h4 => hno x h3 (by omega)]
    congr 1
    · omega
    · omega
  · rw [respTo_none _ r fun x h3 h4 => hno x h3 (by omega), show (10001 - f r).toNat = 0 by omega]
    rfl
theorem resp_hit {f : Int → Int} {r : Int} (h2 : r ≤ 10000) (h : f r = r) : respTo f (10001 - r).toNat r = some r := by
  obtain ⟨n, hn⟩ : ∃ n, (10001 - r).toNat = n + 1 := ⟨(10001 - r).toNat - 1, by omega⟩
  rw [hn, respTo, if_pos h]
theorem resp_end {f : Int → Int} {r : Int} (h2 : 10000 < r) : respTo f (10001 - r).toNat r = none := by
  rw [show (10001 - r).toNat = 0 by omega]
  rfl
def gF (l : List Sm) (b r : Int) (j : Nat) : Int := ((l.take j).map fun o => o.len * ((r + o.per - 1) / o.per)).foldl (· + ·) b
theorem gF_eq (l : List Sm) (b r : Int) {j : Nat} (h : j ≤ l.length) : gF l b r j = b + wt (fun k => lenAt l k * ((r + perAt l k - 1) / perAt l k)) j := foldl_wt l r b j h
theorem gF_next {l : List Sm} {b r : Int} {j : Nat} {x : Sm} (h : l[j]? = some x) : gF l b r (j + 1) = gF l b r j + x.len * ((r + x.per - 1) / x.per) := by
  have hj := (List.getElem?_eq_some_iff.1 h).1
  rw [gF_eq l b r (by omega), gF_eq l b r (by omega), wt]
  unfold lenAt perAt
  rw [h]
  dsimp only
  omega
theorem gF_all (l : List Sm) (b r : Int) : gF l b r l.length = respF l b r := by
  unfold gF respF
  rw [List.take_length]
theorem ceil_bd {p r : Int} (hp : 1 ≤ p) (h0 : 0 ≤ r) : 0 ≤ (r + p - 1) / p ∧ (r + p - 1) / p ≤ r + p - 1 := by
  refine ⟨Int.ediv_nonneg (by omega) (by omega), ?_⟩
  exact Int.ediv_le_self _ (by omega)
theorem term_bd {x : Sm} (hx : OkSm x) {r : Int} (h0 : 0 ≤ r) (h1 : r ≤ 10000) : 0 ≤ x.len * ((r + x.per - 1) / x.per) ∧ x.len * ((r + x.per - 1) / x.per) ≤ 300000 := by
  obtain ⟨h2, h3, h4, h5, h6, h7⟩ := hx
  have := ceil_bd h2 h0
  have ha := Int.mul_le_mul_of_nonneg_right h7 this.1
  have hb := Int.mul_nonneg (show 0 ≤ x.len by omega) this.1
  omega
theorem gF_bd {l : List Sm} (hl : ∀ o ∈ l, OkSm o) {b r : Int} (hb : 1 ≤ b) (hb2 : b ≤ 20) (h0 : 0 ≤ r) (h1 : r ≤ 10000) : ∀ j : Nat, j ≤ l.length → 1 ≤ gF l b r j ∧ gF l b r j ≤ 20 + j * 300000
  | 0, _ => by
    unfold gF
    simp
    omega
  | j + 1, h => by
    have e : l[j]? = some (l[j]'(by omega)) := List.getElem?_eq_getElem _
    rw [gF_next e]
    have := gF_bd hl hb hb2 h0 h1 j (by omega)
    have := term_bd (hl _ (List.getElem_mem (by omega : j < l.length))) h0 h1
    omega
theorem respF_mono {l : List Sm} (hl : ∀ o ∈ l, OkSm o) (b : Int) {x y : Int} (h : x ≤ y) : respF l b x ≤ respF l b y := by
  rw [← gF_all, ← gF_all, gF_eq l b x (Nat.le_refl _), gF_eq l b y (Nat.le_refl _)]
  have := wt_le (f := fun k => lenAt l k * ((x + perAt l k - 1) / perAt l k)) (g := fun k => lenAt l k * ((y + perAt l k - 1) / perAt l k)) (n := l.length) fun k _ =>
    Int.mul_le_mul_of_nonneg_left (ceil_mono (perAt_ok hl k) h) (lenAt_nonneg hl k)
  omega
end Go.Proofs.YtdlmkblmljhbfaaDoor
