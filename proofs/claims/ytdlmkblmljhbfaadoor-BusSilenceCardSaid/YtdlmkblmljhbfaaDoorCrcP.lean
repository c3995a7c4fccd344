/-
  Plain laws of remainders: they are bytes, and the remainder of what is xored is the xor of the remainders.
-/
import Derived.Test.YtdlmkblmljhbfaaDoorPlain
namespace Go.Proofs.YtdlmkblmljhbfaaDoor
set_option linter.unusedSimpArgs false
set_option linter.unusedVariables false
theorem crc1_lt {r : Nat} (h : r < 256) : crc1 r < 256 := by
  have : ∀ r : Fin 256, crc1 r.1 < 256 := by decide +kernel
  exact this ⟨r, h⟩
theorem crcK_lt : ∀ (k : Nat) {r : Nat}, r < 256 → crcK k r < 256
  | 0, _, h => h
  | k + 1, _, h => crcK_lt k (crc1_lt h)
theorem xor_byte {a b : Nat} (ha : a < 256) (hb : b < 256) : a ^^^ b < 256 := Nat.xor_lt_two_pow (n := 8) ha hb
theorem remN_lt : ∀ (l : List Nat) {r : Nat}, r < 256 → (∀ n ∈ l, n < 256) → remN l r < 256
  | [], _, h, _ => h
  | n :: l, _, h, hl => remN_lt l (crcK_lt 8 (xor_byte h (hl n (by simp)))) fun m hm => hl m (by simp [hm])
theorem bytes_ok {l : List Int} (h : bytesE l = 0) : ∀ n ∈ l, 0 ≤ n ∧ n ≤ 255 := fun n hn => by
  obtain ⟨j, hj, rfl⟩ := List.getElem_of_mem hn
  have := eachS_ok _ l 0 h j l[j] (List.getElem?_eq_getElem hj)
  rw [unl_zero (by decide)] at this
  exact inR_iff.1 this
theorem remI_lt {l : List Int} (h : ∀ n ∈ l, 0 ≤ n ∧ n ≤ 255) : remI l < 256 := remN_lt _ (by decide) fun n hn => by
  obtain ⟨m, hm, rfl⟩ := List.mem_map.1 hn
  have := h m hm
  omega
theorem remN_snoc : ∀ (l : List Nat) (n r : Nat), remN (l ++ [n]) r = crcK 8 (remN l r ^^^ n)
  | [], _, _ => rfl
  | _ :: l, n, _ => remN_snoc l n _
theorem bytesE_zero {l : List Int} (h : ∀ n ∈ l, 0 ≤ n ∧ n ≤ 255) : bytesE l = 0 := by
  unfold bytesE
  rw [eachS_zero]
  intro j x hx
  rw [unl_zero (by decide)]
  exact inR_iff.2 (h x (List.mem_of_getElem? hx))
end Go.Proofs.YtdlmkblmljhbfaaDoor
