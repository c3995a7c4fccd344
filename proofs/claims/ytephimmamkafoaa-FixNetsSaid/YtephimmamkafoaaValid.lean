/-
  What it means that a net, a box, a move have no error.
-/
import Derived.Test.YtephimmamkafoaaCarry
namespace Go.Proofs.Ytephimmamkafoaa
set_option linter.unusedSimpArgs false
set_option linter.unusedVariables false
theorem unl_zero {b : Bool} {e : Int} (he : e ≠ 0) : unl b e = 0 ↔ b = true := by
  cases b <;> simp [unl, he]
theorem fst_cons {e : Int} {l : List Int} : fstE (e :: l) = 0 ↔ e = 0 ∧ fstE l = 0 := by
  by_cases h : e = 0 <;> simp [fstE, h]
theorem fst_nil : fstE [] = 0 := rfl
theorem fst_one (e : Int) : fstE [e] = e := by by_cases h : e = 0 <;> simp [fstE, h]
theorem Bx.ordered_iff {b : Bx} : b.ordered = true ↔ b.x.lo ≤ b.x.hi ∧ b.y.lo ≤ b.y.hi ∧ b.z.lo ≤ b.z.hi := by
  simp [Bx.ordered, Bx.sides]
theorem Bx.sized_iff {b : Bx} {l : Int} : b.sized l = true ↔ b.in l := by
  simp [Bx.sized, Bx.sides, szd, inR, Bx.in, Rg.in]
  constructor <;> intro h <;> omega
theorem Bx.holds_iff {a o : Bx} : a.holds o = true ↔ (a.x.lo ≤ o.x.lo ∧ o.x.hi ≤ a.x.hi) ∧ (a.y.lo ≤ o.y.lo ∧ o.y.hi ≤ a.y.hi) ∧ (a.z.lo ≤ o.z.lo ∧ o.z.hi ≤ a.z.hi) := by
  simp [Bx.holds, and_assoc]
theorem world_zero {n : Nt} (h : netErr n = 0) : worldErr n.world n.bs.length = 0 := by
  unfold netErr netChk at h
  split at h
  · assumption
  · exact h
theorem world_ok {b : Bx} {k : Nat} (h : worldErr b k = 0) : b.ok ∧ 0 ≤ b.z.lo ∧ k ≤ 6 := by
  unfold worldErr at h
  simp only [fst_cons, unl_zero (show (2 : Int) ≠ 0 by decide), unl_zero (show (9 : Int) ≠ 0 by decide), unl_zero (show (8 : Int) ≠ 0 by decide), Bool.and_eq_true, decide_eq_true_eq] at h
  obtain ⟨⟨h1, h2⟩, h3, h4, _⟩ := h
  rw [Bx.sized_iff] at h1
  rw [Bx.ordered_iff] at h3
  obtain ⟨⟨a1, a2, a3, a4⟩, ⟨b1, b2, b3, b4⟩, ⟨c1, c2, c3, c4⟩⟩ := h1
  exact ⟨⟨⟨a1, h3.1, a4⟩, ⟨b1, h3.2.1, b4⟩, ⟨c1, h3.2.2, c4⟩⟩, h2.1, by omega⟩
theorem net_world_ok {n : Nt} (h : netErr n = 0) : n.world.ok := (world_ok (world_zero h)).1
theorem box_zero {n : Nt} {b : Bx} (h : boxErr n b = 0) : netErr n = 0 ∧ b.ordered = true ∧ n.world.holds b = true := by
  unfold boxErr at h
  simp only [fst_cons, unl_zero (show (2 : Int) ≠ 0 by decide), unl_zero (show (9 : Int) ≠ 0 by decide)] at h
  exact ⟨h.1, h.2.1, h.2.2.1⟩
theorem box_ok {n : Nt} {b : Bx} (h : boxErr n b = 0) : b.ok := by
  obtain ⟨h1, h2, h3⟩ := box_zero h
  obtain ⟨⟨x1, x2, x3⟩, ⟨y1, y2, y3⟩, ⟨z1, z2, z3⟩⟩ := net_world_ok h1
  rw [Bx.ordered_iff] at h2
  rw [Bx.holds_iff] at h3
  refine ⟨⟨?_, ?_, ?_⟩, ⟨?_, ?_, ?_⟩, ⟨?_, ?_, ?_⟩⟩ <;> omega
theorem mv_ok {m : Mv} (h : mvErr m = 0) : m.ok := by
  unfold mvErr at h
  simp only [fst_cons, unl_zero (show (2 : Int) ≠ 0 by decide), unl_zero (show (9 : Int) ≠ 0 by decide), Bool.and_eq_true, inR_iff] at h
  exact ⟨h.1.1.1, h.1.1.2, Bx.sized_iff.1 h.1.2⟩
end Go.Proofs.Ytephimmamkafoaa
