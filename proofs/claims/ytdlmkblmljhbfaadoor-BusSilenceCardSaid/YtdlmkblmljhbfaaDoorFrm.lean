/-
  Walks: the error of bytes, and their remainder.
-/
import Derived.Test.YtdlmkblmljhbfaaDoorW1
import Derived.Test.YtdlmkblmljhbfaaDoorCrcP
namespace Go.Proofs.YtdlmkblmljhbfaaDoor
set_option linter.unusedSimpArgs false
set_option linter.unusedVariables false
open Go.RowKit Go.Shelf
attribute [local go_sem] bl_al bl_drew bl_drewN bl_refl
set_option maxRecDepth 20000
theorem Same.ret {v : Value} {w w' : World} {e : Ending} (h : Same v w e w') : Ret v w e w' := by
  obtain ⟨rfl, rfl⟩ := h
  exact ⟨rfl, bl_refl w⟩
theorem c_bytesErr1 (k x : Int) (w : World) : Calls Tryd.prog 125 #[.int .i64 k, .int .i64 x] w (Same (.int .i64 (unl (byteB x) 2)) w) := by
  go_enter Tryd.func125, Tryd.ntmps125
  go_wp2_with (first | (go_at_call 81; (with_reducible refine (c_isByte _ _).mono ?_); rintro e w3 ⟨rfl, rfl⟩) | (go_at_call 78; (with_reducible refine (c_unless _ _ _).mono ?_); rintro e w3 ⟨rfl, rfl⟩))
  go_ret
  exact ⟨rfl, rfl⟩
theorem c_bytesErr (l : List Int) (A : Option Addr) (c : Nat) (w : World) (hl : l.length ≤ 1000000) (hr : Sl cI 1 w A l) : Calls Tryd.prog 82 #[.slice A l.length c] w (Ret (.int .i64 (bytesE l)) w) := by
  have hcall := Lib.hid (c_eachI 125 #[] (fun _ n => unl (byteB n) 2) A l c w hl (enters_of Tryd.func125 (by kernel_rfl) rfl) (fun k x _ W _ => (c_bytesErr1 k x W).mono fun _ _ h => h.ret) hr)
  have he : Hid ((eachS (fun _ n => unl (byteB n) 2) l 0).2 = bytesE l) := rfl
  clear hr
  generalize l.length = n at *
  go_enter Tryd.func82, Tryd.ntmps82
  go_wp2_with fail
  refine hcall.out.mono ?_
  rintro e w3 ⟨rfl, hb3⟩
  go_wp2
  go_ret
  exact ⟨by rw [he.out] <;> rfl, hb3⟩
theorem i64_xor (a b : Nat) (ha : a < 1024) (hb : b < 1024) : bits .xor .i64 (a : Int) (b : Int) = ((a ^^^ b : Nat) : Int) := by
  have hx : a ^^^ b < 2 ^ 10 := Nat.xor_lt_two_pow ha hb
  have h1 : (BitVec.ofInt 64 (a : Int)).toNat = a := by
    rw [BitVec.ofInt_natCast, BitVec.toNat_ofNat]; exact Nat.mod_eq_of_lt (by omega)
  have h2 : (BitVec.ofInt 64 (b : Int)).toNat = b := by
    rw [BitVec.ofInt_natCast, BitVec.toNat_ofNat]; exact Nat.mod_eq_of_lt (by omega)
  show IntKind.i64.wrap ((BitVec.ofInt 64 (a : Int) ^^^ BitVec.ofInt 64 (b : Int)).toNat : Int) = _
  rw [BitVec.toNat_xor, h1, h2]
  exact IntWalk.i64_in _ (by omega)
theorem crcK_succ : ∀ (k r : Nat), crcK (k + 1) r = crc1 (crcK k r)
  | 0, _ => rfl
  | k + 1, r => crcK_succ k (crc1 r)
theorem crc_hi {s : Nat} (hs : s < 256) (h : 256 ≤ 2 * s) : bits .xor .i64 ((s : Int) * 2) 263 = ((crc1 s : Nat) : Int) := by
  have := i64_xor (2 * s) 263 (by omega) (by omega)
  rw [show ((2 * s : Nat) : Int) = (s : Int) * 2 by omega, show ((263 : Nat) : Int) = 263 from rfl] at this
  rw [this]
  unfold crc1
  rw [if_pos h]
theorem crc_lo {s : Nat} (h : ¬ 256 ≤ 2 * s) : ((s : Int) * 2) = ((crc1 s : Nat) : Int) := by
  unfold crc1
  rw [if_neg h]
  omega
set_option maxHeartbeats 2000000 in
theorem c_remainder (l : List Int) (A : Option Addr) (c : Nat) (w : World) (hl : l.length ≤ 1000000) (hb : ∀ n ∈ l, 0 ≤ n ∧ n ≤ 255) (hr : Sl cI 1 w A l) : Calls Tryd.prog 83 #[.slice A l.length c] w (Same (.int .i64 (remI l : Nat)) w) := by
  have Hr := Lib.hid hr
  clear hr
  have hlast : Hid (remN ((l.map Int.toNat).take l.length) 0 = remI l) := by rw [List.take_of_length_le (by simp)]; exact Lib.hid rfl
  have hstep : Hid (∀ k x, l[k]? = some x → remN ((l.map Int.toNat).take (k + 1)) 0 = crcK 8 (remN ((l.map Int.toNat).take k) 0 ^^^ x.toNat)) := fun k x hx => by
    rw [List.take_add_one, List.getElem?_map, hx]
    exact remN_snoc _ _ _
  have hlt : Hid (∀ k, remN ((l.map Int.toNat).take k) 0 < 256) := fun k => remN_lt _ (by decide) fun n hn => by
    obtain ⟨m, hm, rfl⟩ := List.mem_map.1 (List.mem_of_mem_take hn)
    have := hb m hm
    omega
  have hbd := Lib.hid fun k x (hx : l[k]? = some x) => hb x (List.mem_of_getElem? hx)
  have h0 : Hid (remN ((l.map Int.toNat).take 0) 0 = 0) := rfl
  generalize (fun k => remN ((l.map Int.toNat).take k) 0) = R at *
  obtain ⟨R, hR⟩ : ∃ R : Nat → Nat, ∀ k, remN ((l.map Int.toNat).take k) 0 = R k := ⟨_, fun _ => rfl⟩
  simp only [hR] at hlast hstep hlt h0
  clear hR hb
  obtain ⟨n, Hn⟩ : ∃ n, Hid (l.length = n) := ⟨_, rfl⟩
  rw [Hn.out] at hl hlast ⊢
  go_enter Tryd.func83, Tryd.ntmps83
  go_wp2
  go_loop [3, 8] (fun r i => ∃ k : Nat, k ≤ n ∧ i = .int .i64 k ∧ r = .int .i64 (R k : Nat)) (fun _ i => n - (intOf i).toNat)
  case atStart => exact ⟨0, Nat.zero_le _, rfl, by rw [h0.out]; rfl⟩
  case round =>
    obtain ⟨k, hk, rfl, rfl⟩ := hrel
    by_cases hltn : k < n
    · have hx : l[k]? = some (l[k]'(by rw [Hn.out]; exact hltn)) := List.getElem?_eq_getElem _
      generalize l[k]'(by rw [Hn.out]; exact hltn) = x at hx
      obtain ⟨b, off, rfl, hc⟩ := Hr.out k x hx
      have c0 : w.cell? ⟨b, off + k, none⟩ = some (.int .i64 x) := by simpa using hc 0 _ rfl
      clear hc
      have hbx := hbd.out k x hx
      obtain ⟨m, rfl⟩ : ∃ m : Nat, x = m := ⟨x.toNat, by omega⟩
      have hRk := hlt.out k
      have hxor := i64_xor (R k) m (by omega) (by omega)
      have hs := hstep.out k m hx
      have hb8 := xor_byte hRk (show m < 256 by omega)
      rw [Int.toNat_natCast] at hs
      replace hs := Lib.hid hs
      generalize hy : R k ^^^ m = y at *
      replace hxor := Lib.hid hxor
      clear hy hx
      go_wp2_with (simp only [hxor.out])
      go_loop [3, 15] (fun r i => ∃ j : Nat, j ≤ 8 ∧ i = .int .i64 j ∧ r = .int .i64 (crcK j y : Nat)) (fun _ i => 8 - (intOf i).toNat)
      case atStart => exact ⟨0, by omega, rfl, rfl⟩
      case round =>
        obtain ⟨j, hj, rfl, rfl⟩ := hrel
        by_cases hj8 : j < 8
        · have hs1 := crcK_lt j hb8
          have hsc := Lib.hid (crcK_succ j y)
          generalize hg : crcK j y = s at *
          replace hg := Lib.hid hg
          by_cases h2 : 256 ≤ 2 * s
          · have e := Lib.hid (crc_hi hs1 h2)
            go_wp2_with (simp only [e.out])
            go_round
            case rel => exact ⟨j + 1, by omega, by go_num, by rw [hsc.out]⟩
            case measure => simp [intOf]; omega
          · have e := Lib.hid (crc_lo h2)
            go_wp2
            go_round
            case rel => exact ⟨j + 1, by omega, by go_num, by rw [hsc.out, ← e.out]⟩
            case measure => simp [intOf]; omega
        · have : j = 8 := by omega
          subst this
          go_wp2
          go_round
          case rel => exact ⟨k + 1, by omega, by go_num, by rw [hs.out]⟩
          case measure => simp [intOf]; omega
    · go_wp2
      go_ret
      have : k = n := by omega
      exact ⟨by rw [this, hlast.out] <;> rfl, rfl⟩
end Go.Proofs.YtdlmkblmljhbfaaDoor
