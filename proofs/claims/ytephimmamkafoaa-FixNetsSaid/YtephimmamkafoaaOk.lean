/-
  Plain laws: what valid nets and readings are.
-/
import Derived.Test.YtephimmamkafoaaAgree
namespace Go.Proofs.Ytephimmamkafoaa
set_option linter.unusedSimpArgs false
set_option linter.unusedVariables false
open Go.RowKit
theorem eachS_zero {α : Type} {err : Nat → α → Int} : ∀ {l : List α} {k : Nat}, (eachS err l k).2 = 0 → ∀ (i : Nat) (x : α), l[i]? = some x → err (k + i) x = 0
  | [], _, _, i, x, h => by simp at h
  | y :: l, k, h0, i, x, h => by
    by_cases e : err k y = 0
    · rw [eachS, if_pos e] at h0
      cases i with
      | zero =>
        simp at h
        subst h
        exact e
      | succ i =>
        have := eachS_zero h0 i x (by simpa using h)
        rw [← this]
        congr 1
        omega
    · rw [eachS, if_neg e] at h0
      exact absurd h0 e
theorem bc_at {n : Nt} (h : netErr n = 0) (k : Nat) (x : Bc) (hx : n.bs[k]? = some x) : x.pl.in 10000 := by
  have h1 := world_zero h
  unfold netErr netChk at h
  rw [if_pos h1] at h
  have h2 := eachS_zero h k x hx
  unfold bcErr at h2
  simp only [fst_cons, unl_zero (show (2 : Int) ≠ 0 by decide), unl_zero (show (4 : Int) ≠ 0 by decide), unl_zero (show (5 : Int) ≠ 0 by decide)] at h2
  have h3 := h2.2.2.1
  unfold Pl.co szd at h3
  simp only [List.any_cons, List.any_nil, Bool.or_false, Bool.not_or, Bool.not_not, Bool.and_eq_true, inR_iff] at h3
  exact ⟨h3.1, h3.2.1, h3.2.2⟩
theorem rd_ok {n : Nt} (h : netErr n = 0) {r : Rd} (hr : rdErr n.bs.length r = 0) : r.ok n.bs := by
  unfold rdErr at hr
  simp only [fst_cons, unl_zero (show (2 : Int) ≠ 0 by decide), unl_zero (show (15 : Int) ≠ 0 by decide), unl_zero (show (6 : Int) ≠ 0 by decide), unl_zero (show (9 : Int) ≠ 0 by decide)] at hr
  obtain ⟨h1, h2, h3, h4, -⟩ := hr
  rw [inR_iff] at h1
  unfold rdErr.insR at h3
  simp only [Bool.and_eq_true, inR_iff] at h3
  refine ⟨?_, fun hk => ?_, fun hk => ?_⟩
  · by_cases hk : r.kind = 1
    · rw [if_pos hk] at h3
      exact ⟨h3.1.1, h3.1.2, h3.2.1, h3.2.2⟩
    · rw [if_neg hk] at h3
      refine ⟨?_, ?_, ?_, ?_⟩ <;> omega
  · rw [if_pos hk, inR_iff] at h2
    omega
  · rw [if_neg hk, inR_iff] at h2
    have hlt : r.idx.toNat < n.bs.length := by omega
    exact ⟨r.idx.toNat, n.bs[r.idx.toNat], by omega, List.getElem?_eq_getElem hlt, bc_at h _ _ (List.getElem?_eq_getElem hlt)⟩
theorem reads_net {n : Nt} {l : List Rd} (h : readsErr n l = 0) : netErr n = 0 ∧ l.length ≤ 8 := by
  unfold readsErr readsChk at h
  by_cases he : readsE n l = 0
  · unfold readsE at he
    simp only [fst_cons, unl_zero (show (8 : Int) ≠ 0 by decide), decide_eq_true_eq] at he
    exact ⟨he.1, by omega⟩
  · rw [if_neg he] at h
    exact absurd h he
theorem reads_ok {n : Nt} {l : List Rd} (h : readsErr n l = 0) : netErr n = 0 ∧ l.length ≤ 8 ∧ ∀ r ∈ l, r.ok n.bs := by
  obtain ⟨h1, h2⟩ := reads_net h
  refine ⟨h1, h2, fun r hr => ?_⟩
  obtain ⟨i, hi, rfl⟩ := List.getElem_of_mem hr
  have he : readsE n l = 0 := by
    unfold readsE
    simp only [fst_cons, unl_zero (show (8 : Int) ≠ 0 by decide), decide_eq_true_eq]
    exact ⟨h1, by omega, rfl⟩
  unfold readsErr readsChk at h
  rw [if_pos he] at h
  exact rd_ok h1 (eachS_zero h i _ (List.getElem?_eq_getElem hi))
theorem agree_ok {n : Nt} {l : List Rd} {p : Pl} (h : agreeE n l p = 0) : l.length ≤ 8 ∧ p.in 10000 ∧ ∀ r ∈ l, r.ok n.bs := by
  unfold agreeE at h
  simp only [fst_cons, unl_zero (show (2 : Int) ≠ 0 by decide)] at h
  obtain ⟨h1, h2, h3, -⟩ := h
  obtain ⟨-, h5, h6⟩ := reads_ok h2
  refine ⟨h5, ?_, h6⟩
  unfold Bx.has at h3
  simp only [Bool.and_eq_true, inR_iff] at h3
  obtain ⟨⟨x1, x2, x3⟩, ⟨y1, y2, y3⟩, ⟨z1, z2, z3⟩⟩ := net_world_ok h1
  refine ⟨⟨?_, ?_⟩, ⟨?_, ?_⟩, ?_, ?_⟩ <;> omega
/-- The vote of a box: errors first. -/
def votedE (n : Nt) (b : Bx) (v : Vt) : Int := fstE [boxErr n b, voteE n v]
theorem voted_ok {n : Nt} {b : Bx} {v : Vt} (h : votedE n b v = 0) : b.ok ∧ v.rs.length ≤ 8 ∧ ∀ r ∈ v.rs, r.ok n.bs := by
  unfold votedE voteE at h
  simp only [fst_cons] at h
  obtain ⟨h1, ⟨h2, -⟩, -⟩ := h
  obtain ⟨-, h5, h6⟩ := reads_ok h2
  exact ⟨box_ok h1, h5, h6⟩
end Go.Proofs.Ytephimmamkafoaa
