/-
  The walk of isName: whether a string is a name.
-/
import Derived.Test.YtdlmkblmljhbfaaDoorW1
namespace Go.Proofs.YtdlmkblmljhbfaaDoor
set_option linter.unusedSimpArgs false
set_option linter.unusedVariables false
open Go.RowKit Go.Shelf
attribute [local go_sem] bl_al bl_drew bl_drewN bl_refl
set_option maxRecDepth 20000
theorem letter_in (c : UInt8) : letter c = (inR (c.toNat : Int) 97 122 || inR (c.toNat : Int) 65 90) := by
  rw [Bool.eq_iff_iff, letter_iff, Bool.or_eq_true, inR_iff, inR_iff]
  omega
theorem other_in (c : UInt8) : other c = (inR (c.toNat : Int) 48 57 || ((c.toNat : Int) == 45)) := by
  rw [Bool.eq_iff_iff, other_iff, Bool.or_eq_true, inR_iff, beq_iff_eq]
  omega
set_option maxHeartbeats 1000000 in
theorem c_isName (s : ByteArray) (w : World) (hs : s.size ≤ maxLen) : Calls Tryd.prog 137 #[.string s] w (Same (.bool (nameB s)) w) := by
  unfold maxLen at hs
  have hR : Hid (nameB s = (nameFrom 0 s.data.toList && inR s.size 1 12)) := rfl
  have hend : Hid (nameFrom s.size (s.data.toList.drop s.size) = true) := by
    rw [List.drop_of_length_le (by simp)]
    exact Lib.hid rfl
  have hst : Hid (∀ k (h : k < s.size), nameFrom k (s.data.toList.drop k) = (((inR (s[k].toNat : Int) 97 122 || inR (s[k].toNat : Int) 65 90) || (decide (k ≠ 0) && (inR (s[k].toNat : Int) 48 57 || ((s[k].toNat : Int) == 45)))) && nameFrom (k + 1) (s.data.toList.drop (k + 1)))) := fun k h => by
    have := nameFrom_drop s.data.toList k s[k] (by
      rw [List.getElem?_eq_getElem (by simpa using h)]
      rfl)
    rw [this, letter_in, other_in]
  obtain ⟨nf, hnf⟩ : ∃ nf : Nat → Bool, ∀ k, nameFrom k (s.data.toList.drop k) = nf k := ⟨_, fun _ => rfl⟩
  have h0 : Hid (nameFrom 0 s.data.toList = nf 0) := hnf 0
  simp only [hnf] at hst hend
  clear hnf
  go_enter Tryd.func137, Tryd.ntmps137
  go_wp2
  go_loop [8] (fun i => ∃ k : Nat, k ≤ s.size ∧ i = .int .i64 k ∧ nf 0 = nf k) (fun i => s.size - (intOf i).toNat)
  case atStart => exact ⟨0, Nat.zero_le _, rfl, rfl⟩
  case round =>
    obtain ⟨k, hk, rfl, hi⟩ := hrel
    replace hi := Lib.hid hi
    by_cases hlt : k < s.size
    · have hd := Lib.hid (hst.out k hlt)
      have hm0 : s[k].toNat < 256 := s[k].toNat_lt
      cases h1 : inR (s[k].toNat : Int) 97 122
      case true =>
        rw [h1] at hd
        go_wp2_with (go_at_call 74; (with_reducible refine (c_within _ _ _ _).mono ?_); rintro e w3 ⟨rfl, rfl⟩)
        go_round
        case rel => exact ⟨k + 1, by omega, by go_num, by rw [hi.out, hd.out]; simp⟩
        case measure => simp [intOf]; omega
      cases h2 : inR (s[k].toNat : Int) 65 90
      case true =>
        rw [h1, h2] at hd
        go_wp2_with (go_at_call 74; (with_reducible refine (c_within _ _ _ _).mono ?_); rintro e w3 ⟨rfl, rfl⟩)
        go_round
        case rel => exact ⟨k + 1, by omega, by go_num, by rw [hi.out, hd.out]; simp⟩
        case measure => simp [intOf]; omega
      by_cases hk0 : k = 0
      · subst hk0
        rw [h1, h2] at hd
        go_wp2_with (go_at_call 74; (with_reducible refine (c_within _ _ _ _).mono ?_); rintro e w3 ⟨rfl, rfl⟩)
        go_ret
        exact ⟨by rw [hR.out, h0.out, hd.out]; simp, rfl⟩
      have hk0' : ((k : Int) == 0) = false := by simp; omega
      have hdk : decide (k ≠ 0) = true := by simp; omega
      rw [hdk] at hd
      clear hdk
      cases h3 : ((s[k].toNat : Int) == 45)
      case true =>
        have h3' : ((s[k].toNat : Int) != 45) = false := by simp [bne, h3]
        rw [h1, h2, h3] at hd
        go_wp2_with (go_at_call 74; (with_reducible refine (c_within _ _ _ _).mono ?_); rintro e w3 ⟨rfl, rfl⟩)
        go_round
        case rel => exact ⟨k + 1, by omega, by go_num, by rw [hi.out, hd.out]; simp⟩
        case measure => simp [intOf]; omega
      have h3' : ((s[k].toNat : Int) != 45) = true := by simp [bne, h3]
      cases h4 : inR (s[k].toNat : Int) 48 57
      case true =>
        rw [h1, h2, h3, h4] at hd
        go_wp2_with (go_at_call 74; (with_reducible refine (c_within _ _ _ _).mono ?_); rintro e w3 ⟨rfl, rfl⟩)
        go_round
        case rel => exact ⟨k + 1, by omega, by go_num, by rw [hi.out, hd.out]; simp⟩
        case measure => simp [intOf]; omega
      rw [h1, h2, h3, h4] at hd
      go_wp2_with (go_at_call 74; (with_reducible refine (c_within _ _ _ _).mono ?_); rintro e w3 ⟨rfl, rfl⟩)
      go_ret
      exact ⟨by rw [hR.out, h0.out, hi.out, hd.out]; simp, rfl⟩
    · have hke : k = s.size := by omega
      have h5 : Hid (nf 0 = true) := by rw [hi.out, hke]; exact hend
      go_wp2_with (go_at_call 74; (with_reducible refine (c_within _ _ _ _).mono ?_); rintro e w3 ⟨rfl, rfl⟩)
      go_ret
      exact ⟨by rw [hR.out, h0.out, h5.out] <;> rfl, rfl⟩
end Go.Proofs.YtdlmkblmljhbfaaDoor
