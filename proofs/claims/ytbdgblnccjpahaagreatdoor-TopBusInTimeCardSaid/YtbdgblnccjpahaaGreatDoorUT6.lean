/-
  The walk of isName: whether a string is a name.
  Plain laws of remainders: they are bytes, and the remainder of what is xored is the xor of the remainders.
  Walks: the error of bytes, and their remainder.
  Walks: which streams are valid.
  Walk: streams as a string.
  Walks: the check of names, one after the other; ascending indexes.
  A region that draws its order, in whatever order, of which one operation (m) may turn some old blocks (M) that no other operation looks at; nothing is stored behind it.
  Walks: which nets are valid.
  Walks: which nets are valid, continued.
  Walks: the library's comparison of numbers, and of lists of numbers.
  Walks: which failures stop a function, the smallest of them.
  What a sender computes: messages that wait, by streams; which stream's frame is carried at each tick; the worst responses.
  The queues of a sender: messages at some place in a block of the call's own; one more of them.
  Walks: a sender's tick: what is sent.
-/
import Derived.Test.YtbdgblnccjpahaaGreatDoorUT4
import Derived.Test.YtbdgblnccjpahaaGreatDoorUT3
import Derived.Test.YtbdgblnccjpahaaGreatDoorUT5
import Derived.Maps.OwnSet
import Derived.Carry
import Derived.Laws.EntriesVeiled
import Derived.Deep.AppendLies
import Derived.ArgAppend
set_option linter.unusedSimpArgs false
set_option linter.unusedVariables false
namespace Go.Proofs.YtbdgblnccjpahaaGreatDoor
open Go.RowKit Go.Shelf
attribute [local go_sem] bl_al bl_drew bl_drewN bl_refl
set_option maxRecDepth 20000
theorem letter_in (c : UInt8) : letter c = (inR (c.toNat : Int) 97 122 || inR (c.toNat : Int) 65 90) := by
  rw [Bool.eq_iff_iff, letter_iff, Bool.or_eq_true, inR_iff, inR_iff]
  omega
theorem other_in (c : UInt8) : other c = (inR (c.toNat : Int) 48 57 || ((c.toNat : Int) == 45)) := by
  rw [Bool.eq_iff_iff, other_iff, Bool.or_eq_true, inR_iff, beq_iff_eq]
  omega
set_option maxHeartbeats 1000000 in
theorem c_isName (s : ByteArray) (w : World) (hs : s.size ≤ maxLen) : Calls Tryz.prog 100 #[.string s] w (Same (.bool (nameB s)) w) := by
  unfold maxLen at hs
  have hR : Hid (nameB s = (nameFrom 0 s.data.toList && inR s.size 1 12)) := rfl
  have hend : Hid (nameFrom s.size (s.data.toList.drop s.size) = true) := by
    rw [List.drop_of_length_le (by simp)]
    exact Lib.hid rfl
  have hst : Hid (∀ k (h : k < s.size), nameFrom k (s.data.toList.drop k) = (((inR (s[k].toNat : Int) 97 122 || inR (s[k].toNat : Int) 65 90) || (decide (k ≠ 0) && (inR (s[k].toNat : Int) 48 57 || ((s[k].toNat : Int) == 45)))) && nameFrom (k + 1) (s.data.toList.drop (k + 1)))) := fun k h => by
    have := nameFrom_drop s.data.toList k s[k] (by
      rw [List.getElem?_eq_getElem (by simpa using h)]
      rfl)
    rw [this, letter_in, other_in]
  obtain ⟨nf, hnf⟩ : ∃ nf : Nat → Bool, ∀ k, nameFrom k (s.data.toList.drop k) = nf k := ⟨_, fun _ => rfl⟩
  have h0 : Hid (nameFrom 0 s.data.toList = nf 0) := hnf 0
  simp only [hnf] at hst hend
  clear hnf
  go_enter Tryz.func100, Tryz.ntmps100
  go_wp2
  go_loop [8] (fun i => ∃ k : Nat, k ≤ s.size ∧ i = .int .i64 k ∧ nf 0 = nf k) (fun i => s.size - (intOf i).toNat)
  case atStart => exact ⟨0, Nat.zero_le _, rfl, rfl⟩
  case round =>
    obtain ⟨k, hk, rfl, hi⟩ := hrel
    replace hi := Lib.hid hi
    by_cases hlt : k < s.size
    · have hd := Lib.hid (hst.out k hlt)
      have hm0 : s[k].toNat < 256 := s[k].toNat_lt
      cases h1 : inR (s[k].toNat : Int) 97 122
      case true =>
        rw [h1] at hd
        go_wp2_with (go_at_call 71; (with_reducible refine (c_within _ _ _ _).mono ?_); rintro e w3 ⟨rfl, rfl⟩)
        go_round
        case rel => exact ⟨k + 1, by omega, by go_num, by rw [hi.out, hd.out]; simp⟩
        case measure => simp [intOf]; omega
      cases h2 : inR (s[k].toNat : Int) 65 90
      case true =>
        rw [h1, h2] at hd
        go_wp2_with (go_at_call 71; (with_reducible refine (c_within _ _ _ _).mono ?_); rintro e w3 ⟨rfl, rfl⟩)
        go_round
        case rel => exact ⟨k + 1, by omega, by go_num, by rw [hi.out, hd.out]; simp⟩
        case measure => simp [intOf]; omega
      by_cases hk0 : k = 0
      · subst hk0
        rw [h1, h2] at hd
        go_wp2_with (go_at_call 71; (with_reducible refine (c_within _ _ _ _).mono ?_); rintro e w3 ⟨rfl, rfl⟩)
        go_ret
        exact ⟨by rw [hR.out, h0.out, hd.out]; simp, rfl⟩
      have hk0' : ((k : Int) == 0) = false := by simp; omega
      have hdk : decide (k ≠ 0) = true := by simp; omega
      rw [hdk] at hd
      clear hdk
      cases h3 : ((s[k].toNat : Int) == 45)
      case true =>
        have h3' : ((s[k].toNat : Int) != 45) = false := by simp [bne, h3]
        rw [h1, h2, h3] at hd
        go_wp2_with (go_at_call 71; (with_reducible refine (c_within _ _ _ _).mono ?_); rintro e w3 ⟨rfl, rfl⟩)
        go_round
        case rel => exact ⟨k + 1, by omega, by go_num, by rw [hi.out, hd.out]; simp⟩
        case measure => simp [intOf]; omega
      have h3' : ((s[k].toNat : Int) != 45) = true := by simp [bne, h3]
      cases h4 : inR (s[k].toNat : Int) 48 57
      case true =>
        rw [h1, h2, h3, h4] at hd
        go_wp2_with (go_at_call 71; (with_reducible refine (c_within _ _ _ _).mono ?_); rintro e w3 ⟨rfl, rfl⟩)
        go_round
        case rel => exact ⟨k + 1, by omega, by go_num, by rw [hi.out, hd.out]; simp⟩
        case measure => simp [intOf]; omega
      rw [h1, h2, h3, h4] at hd
      go_wp2_with (go_at_call 71; (with_reducible refine (c_within _ _ _ _).mono ?_); rintro e w3 ⟨rfl, rfl⟩)
      go_ret
      exact ⟨by rw [hR.out, h0.out, hi.out, hd.out]; simp, rfl⟩
    · have hke : k = s.size := by omega
      have h5 : Hid (nf 0 = true) := by rw [hi.out, hke]; exact hend
      go_wp2_with (go_at_call 71; (with_reducible refine (c_within _ _ _ _).mono ?_); rintro e w3 ⟨rfl, rfl⟩)
      go_ret
      exact ⟨by rw [hR.out, h0.out, h5.out] <;> rfl, rfl⟩
end Go.Proofs.YtbdgblnccjpahaaGreatDoor
namespace Go.Proofs.YtbdgblnccjpahaaGreatDoor
theorem crc1_lt {r : Nat} (h : r < 256) : crc1 r < 256 := by
  have : ∀ r : _root_.Fin 256, crc1 r.1 < 256 := by decide +kernel
  exact this ⟨r, h⟩
theorem crcK_lt : ∀ (k : Nat) {r : Nat}, r < 256 → crcK k r < 256
  | 0, _, h => h
  | k + 1, _, h => crcK_lt k (crc1_lt h)
theorem xor_byte {a b : Nat} (ha : a < 256) (hb : b < 256) : a ^^^ b < 256 := Nat.xor_lt_two_pow (n := 8) ha hb
theorem remN_lt : ∀ (l : List Nat) {r : Nat}, r < 256 → (∀ n ∈ l, n < 256) → remN l r < 256
  | [], _, h, _ => h
  | n :: l, _, h, hl => remN_lt l (crcK_lt 8 (xor_byte h (hl n (by simp)))) fun m hm => hl m (by simp [hm])
theorem bytes_ok {l : List Int} (h : bytesE l = 0) : ∀ n ∈ l, 0 ≤ n ∧ n ≤ 255 := fun n hn => by
  obtain ⟨j, hj, rfl⟩ := List.getElem_of_mem hn
  have := eachS_ok _ l 0 h j l[j] (List.getElem?_eq_getElem hj)
  rw [unl_zero (by decide)] at this
  exact inR_iff.1 this
theorem remN_snoc : ∀ (l : List Nat) (n r : Nat), remN (l ++ [n]) r = crcK 8 (remN l r ^^^ n)
  | [], _, _ => rfl
  | _ :: l, n, _ => remN_snoc l n _
end Go.Proofs.YtbdgblnccjpahaaGreatDoor
namespace Go.Proofs.YtbdgblnccjpahaaGreatDoor
open Go.RowKit Go.Shelf
attribute [local go_sem] bl_al bl_drew bl_drewN bl_refl
set_option maxRecDepth 20000
theorem Same.ret {v : Value} {w w' : World} {e : Ending} (h : Same v w e w') : Ret v w e w' := by
  obtain ⟨rfl, rfl⟩ := h
  exact ⟨rfl, bl_refl w⟩
theorem c_bytesErr1 (k x : Int) (w : World) : Calls Tryz.prog 132 #[.int .i64 k, .int .i64 x] w (Same (.int .i64 (unl (byteB x) 2)) w) := by
  go_enter Tryz.func132, Tryz.ntmps132
  go_wp2_with (first | (go_at_call 130; (with_reducible refine (c_isByte _ _).mono ?_); rintro e w3 ⟨rfl, rfl⟩) | (go_at_call 58; (with_reducible refine (c_unless _ _ _).mono ?_); rintro e w3 ⟨rfl, rfl⟩))
  go_ret
  exact ⟨rfl, rfl⟩
theorem c_bytesErr (l : List Int) (A : Option Addr) (c : Nat) (w : World) (hl : l.length ≤ 1000000) (hr : Sl cI 1 w A l) : Calls Tryz.prog 80 #[.slice A l.length c] w (Ret (.int .i64 (bytesE l)) w) := by
  have hcall := Lib.hid (c_eachI 132 #[] (fun _ n => unl (byteB n) 2) A l c w hl (enters_of Tryz.func132 (by kernel_rfl) rfl) (fun k x _ W _ => (c_bytesErr1 k x W).mono fun _ _ h => h.ret) hr)
  have he : Hid ((eachS (fun _ n => unl (byteB n) 2) l 0).2 = bytesE l) := rfl
  clear hr
  generalize l.length = n at *
  go_enter Tryz.func80, Tryz.ntmps80
  go_wp2_with fail
  refine hcall.out.mono ?_
  rintro e w3 ⟨rfl, hb3⟩
  go_wp2
  go_ret
  exact ⟨by rw [he.out] <;> rfl, hb3⟩
theorem i64_xor (a b : Nat) (ha : a < 1024) (hb : b < 1024) : bits .xor .i64 (a : Int) (b : Int) = ((a ^^^ b : Nat) : Int) := by
  have hx : a ^^^ b < 2 ^ 10 := Nat.xor_lt_two_pow ha hb
  have h1 : (BitVec.ofInt 64 (a : Int)).toNat = a := by
    rw [BitVec.ofInt_natCast, BitVec.toNat_ofNat]; exact Nat.mod_eq_of_lt (by omega)
  have h2 : (BitVec.ofInt 64 (b : Int)).toNat = b := by
    rw [BitVec.ofInt_natCast, BitVec.toNat_ofNat]; exact Nat.mod_eq_of_lt (by omega)
  show IntKind.i64.wrap ((BitVec.ofInt 64 (a : Int) ^^^ BitVec.ofInt 64 (b : Int)).toNat : Int) = _
  rw [BitVec.toNat_xor, h1, h2]
  exact IntWalk.i64_in _ (by omega)
theorem crcK_succ : ∀ (k r : Nat), crcK (k + 1) r = crc1 (crcK k r)
  | 0, _ => rfl
  | k + 1, r => crcK_succ k (crc1 r)
theorem crc_hi {s : Nat} (hs : s < 256) (h : 256 ≤ 2 * s) : bits .xor .i64 ((s : Int) * 2) 263 = ((crc1 s : Nat) : Int) := by
  have := i64_xor (2 * s) 263 (by omega) (by omega)
  rw [show ((2 * s : Nat) : Int) = (s : Int) * 2 by omega, show ((263 : Nat) : Int) = 263 from rfl] at this
  rw [this]
  unfold crc1
  rw [if_pos h]
theorem crc_lo {s : Nat} (h : ¬ 256 ≤ 2 * s) : ((s : Int) * 2) = ((crc1 s : Nat) : Int) := by
  unfold crc1
  rw [if_neg h]
  omega
set_option maxHeartbeats 2000000 in
theorem c_remainder (l : List Int) (A : Option Addr) (c : Nat) (w : World) (hl : l.length ≤ 1000000) (hb : ∀ n ∈ l, 0 ≤ n ∧ n ≤ 255) (hr : Sl cI 1 w A l) : Calls Tryz.prog 78 #[.slice A l.length c] w (Same (.int .i64 (remI l : Nat)) w) := by
  have Hr := Lib.hid hr
  clear hr
  have hlast : Hid (remN ((l.map Int.toNat).take l.length) 0 = remI l) := by rw [List.take_of_length_le (by simp)]; exact Lib.hid rfl
  have hstep : Hid (∀ k x, l[k]? = some x → remN ((l.map Int.toNat).take (k + 1)) 0 = crcK 8 (remN ((l.map Int.toNat).take k) 0 ^^^ x.toNat)) := fun k x hx => by
    rw [List.take_add_one, List.getElem?_map, hx]
    exact remN_snoc _ _ _
  have hlt : Hid (∀ k, remN ((l.map Int.toNat).take k) 0 < 256) := fun k => remN_lt _ (by decide) fun n hn => by
    obtain ⟨m, hm, rfl⟩ := List.mem_map.1 (List.mem_of_mem_take hn)
    have := hb m hm
    omega
  have hbd := Lib.hid fun k x (hx : l[k]? = some x) => hb x (List.mem_of_getElem? hx)
  have h0 : Hid (remN ((l.map Int.toNat).take 0) 0 = 0) := rfl
  generalize (fun k => remN ((l.map Int.toNat).take k) 0) = R at *
  obtain ⟨R, hR⟩ : ∃ R : Nat → Nat, ∀ k, remN ((l.map Int.toNat).take k) 0 = R k := ⟨_, fun _ => rfl⟩
  simp only [hR] at hlast hstep hlt h0
  clear hR hb
  obtain ⟨n, Hn⟩ : ∃ n, Hid (l.length = n) := ⟨_, rfl⟩
  rw [Hn.out] at hl hlast ⊢
  go_enter Tryz.func78, Tryz.ntmps78
  go_wp2
  go_loop [3, 8] (fun r i => ∃ k : Nat, k ≤ n ∧ i = .int .i64 k ∧ r = .int .i64 (R k : Nat)) (fun _ i => n - (intOf i).toNat)
  case atStart => exact ⟨0, Nat.zero_le _, rfl, by rw [h0.out]; rfl⟩
  case round =>
    obtain ⟨k, hk, rfl, rfl⟩ := hrel
    by_cases hltn : k < n
    · have hx : l[k]? = some (l[k]'(by rw [Hn.out]; exact hltn)) := List.getElem?_eq_getElem _
      generalize l[k]'(by rw [Hn.out]; exact hltn) = x at hx
      obtain ⟨b, off, rfl, hc⟩ := Hr.out k x hx
      have c0 : w.cell? ⟨b, off + k, none⟩ = some (.int .i64 x) := by simpa using hc 0 _ rfl
      clear hc
      have hbx := hbd.out k x hx
      obtain ⟨m, rfl⟩ : ∃ m : Nat, x = m := ⟨x.toNat, by omega⟩
      have hRk := hlt.out k
      have hxor := i64_xor (R k) m (by omega) (by omega)
      have hs := hstep.out k m hx
      have hb8 := xor_byte hRk (show m < 256 by omega)
      rw [Int.toNat_natCast] at hs
      replace hs := Lib.hid hs
      generalize hy : R k ^^^ m = y at *
      replace hxor := Lib.hid hxor
      clear hy hx
      go_wp2_with (simp only [hxor.out])
      go_loop [3, 15] (fun r i => ∃ j : Nat, j ≤ 8 ∧ i = .int .i64 j ∧ r = .int .i64 (crcK j y : Nat)) (fun _ i => 8 - (intOf i).toNat)
      case atStart => exact ⟨0, by omega, rfl, rfl⟩
      case round =>
        obtain ⟨j, hj, rfl, rfl⟩ := hrel
        by_cases hj8 : j < 8
        · have hs1 := crcK_lt j hb8
          have hsc := Lib.hid (crcK_succ j y)
          generalize hg : crcK j y = s at *
          replace hg := Lib.hid hg
          by_cases h2 : 256 ≤ 2 * s
          · have e := Lib.hid (crc_hi hs1 h2)
            go_wp2_with (simp only [e.out])
            go_round
            case rel => exact ⟨j + 1, by omega, by go_num, by rw [hsc.out]⟩
            case measure => simp [intOf]; omega
          · have e := Lib.hid (crc_lo h2)
            go_wp2
            go_round
            case rel => exact ⟨j + 1, by omega, by go_num, by rw [hsc.out, ← e.out]⟩
            case measure => simp [intOf]; omega
        · have : j = 8 := by omega
          subst this
          go_wp2
          go_round
          case rel => exact ⟨k + 1, by omega, by go_num, by rw [hs.out]⟩
          case measure => simp [intOf]; omega
    · go_wp2
      go_ret
      have : k = n := by omega
      exact ⟨by rw [this, hlast.out] <;> rfl, rfl⟩
end Go.Proofs.YtbdgblnccjpahaaGreatDoor
namespace Go.Proofs.YtbdgblnccjpahaaGreatDoor
open Go.RowKit Go.Shelf
attribute [local go_sem] bl_al bl_drew bl_drewN bl_refl bx_al bx_drew bx_drewN bx_refl
set_option maxRecDepth 20000
/-- Streams lie where the header of their slice says; so many at most. -/
structure SmIn (l : List Sm) (A : Option Addr) (c : Nat) (w : World) : Prop where
  len : l.length ≤ 1000
  cap : l.length ≤ c
  nm : ∀ s ∈ l, s.name.size ≤ maxLen
  sl : Sl cSm 4 w A l
theorem SmIn.below {l : List Sm} {A : Option Addr} {c : Nat} {w w' : World} (h : SmIn l A c w) (hb : Below w.heap.size w w') : SmIn l A c w' := ⟨h.len, h.cap, h.nm, h.sl.below hb⟩
theorem c_smNm (x : Sm) (nm : ByteArray) (B : Nat) (w : World) (hB : w.cell? ⟨B, 0, none⟩ = some (.string nm)) :
    Calls Tryz.prog 99 #[vSm x, .pointer (some ⟨B, 0, none⟩)] w (Ret (.bool (x.name.toList == nm.toList)) w) := by
  have hB' := later hB
  have hlt := World.block_lt_of_cell? w _ hB
  clear hB
  have hn : B ≠ w.heap.size := Nat.ne_of_lt hlt
  go_enter Tryz.func99, Tryz.ntmps99
  go_wp2
  go_ret
  exact ⟨rfl, by solve_by_elim (maxDepth := 60) only [bl_al, bl_drew, bl_drewN, bl_refl, *]⟩
set_option maxHeartbeats 2000000 in
theorem c_smErr (l : List Sm) (A : Option Addr) (c B i : Nat) (x : Sm) (w : World) (hi : l[i]? = some x) (hl : l.length ≤ 1000000) (hcap : l.length ≤ c) (hx : x.name.size ≤ maxLen)
    (hc : w.cell? ⟨B, 0, none⟩ = some (.slice A l.length c)) (hs : Sl cSm 4 w A l) :
    Calls Tryz.prog 97 #[.int .i64 (i : Nat), vSm x, .pointer (some ⟨B, 0, none⟩)] w (Ret (.int .i64 (smErr l i x)) w) := by
  have hlt := World.block_lt_of_cell? w _ hc
  have hc' := later hc
  have hn : B ≠ w.heap.size := Nat.ne_of_lt hlt
  have hil : i < l.length := (List.getElem?_eq_some_iff.1 hi).1
  clear hc
  have Hs := Lib.hid hs
  clear hs
  generalize hnl : l.length = nl at *
  have Hnl := Lib.hid hnl
  clear hnl
  have htake : Hid ((l.take i).length = i) := by rw [List.length_take, Hnl.out]; exact Nat.min_eq_left (by omega)
  have hc1 : Hid (∀ W : World, Below w.heap.size w W → W.cell? ⟨w.heap.size, 0, none⟩ = some (.string x.name) →
      Calls Tryz.prog 98 #[.slice A i c, .func (.func 99) #[] #[.pointer (some ⟨w.heap.size, 0, none⟩)]] W (Ret (.bool (knownB ((l.take i).map (·.name)) x.name)) W)) := by
    intro W hW hcl
    have := c_ContainsFuncS 99 #[.pointer (some ⟨w.heap.size, 0, none⟩)] (fun o => o.name.toList == x.name.toList) A (l.take i) c W (by rw [htake.out]; omega)
      (enters_of Tryz.func99 (by kernel_rfl) rfl) (fun y _ W' hb => c_smNm y _ _ W' (kcell hb hcl)) ((Hs.out.below hW).take i)
    rw [htake.out] at this
    rwa [knownB, List.any_map]
  have hres : Hid (smErr l i x = fstE [unl (nameB x.name) 4, unl (!knownB ((l.take i).map (·.name)) x.name) 5, unl (inR x.per 1 60 && (inR x.dl 1 x.per && inR x.len 1 20)) 2]) := rfl
  generalize knownB ((l.take i).map (·.name)) x.name = kn at *
  cases hA : inR x.per 1 60
  all_goals cases hB : inR x.dl 1 x.per
  all_goals
    rw [hA, hB] at hres
    simp only [Bool.false_and, Bool.true_and, Bool.and_false] at hres
    go_enter Tryz.func97, Tryz.ntmps97
    go_wp2_with fail
    refine (hc1.out _ (bl_al _ (bl_refl _)) (by simp [go_sem])).mono ?_
    rintro e wb ⟨rfl, hb3⟩
    have k0 := ((Blk.new w 43 #[.string x.name, .int .i64 x.per, .int .i64 x.dl, .int .i64 x.len]).below hb3).later
    replace hb3 := bl_tt hb3
    have hcur := bl_refl wb
    go_wp2_with (first | (go_at_call 71; (with_reducible refine (c_within _ _ _ _).mono ?_); rintro e w3 ⟨rfl, rfl⟩) | (go_at_call 100; (with_reducible refine (c_isName x.name _ hx).mono ?_); rintro e w3 ⟨rfl, rfl⟩) | (go_at_call 58; (with_reducible refine (c_unless _ _ _).mono ?_); rintro e w3 ⟨rfl, rfl⟩) | (go_at_call 74; (with_reducible refine (c_first3 (Blk.new _ _ _)).mono ?_); rintro e w3 ⟨rfl, rfl⟩))
    go_ret
    exact ⟨by rw [hres.out] <;> rfl, by solve_by_elim (maxDepth := 60) only [bl_al, bl_drew, bl_drewN, bl_refl, *]⟩
set_option maxHeartbeats 4000000 in
theorem c_CheckStreams (l : List Sm) (A : Option Addr) (c : Nat) (w : World) (hn : SmIn l A c w) :
    Calls Tryz.prog 41 #[.slice A l.length c] w (Ret (.tuple #[.int .i64 (smsChk l).1, .int .i64 (smsChk l).2]) w) := by
  have Hn := Lib.hid hn
  have hlen := hn.len
  clear hn
  have hev := Lib.hid fun (W : World) (hb : Below w.heap.size w W) (hB : W.cell? ⟨w.heap.size, 0, none⟩ = some (.slice A l.length c)) =>
    c_eachS 97 #[.pointer (some ⟨w.heap.size, 0, none⟩)] (smErr l) A l c W (by have := Hn.out.len; omega) (enters_of Tryz.func97 (by kernel_rfl) rfl)
      (fun k x hx W' hb' => c_smErr l A c _ k x W' hx (by have := Hn.out.len; omega) Hn.out.cap (Hn.out.nm x (List.mem_of_getElem? hx)) (kcell hb' hB) ((Hn.out.sl.below hb).below hb'))
      (Hn.out.sl.below hb)
  have hres : Hid ((lenE l.length 6 = 0 → smsChk l = eachS (smErr l) l 0) ∧ (lenE l.length 6 ≠ 0 → smsChk l = (0, lenE l.length 6))) := ⟨fun h => by rw [smsChk, if_pos h], fun h => by rw [smsChk, if_neg h]⟩
  have hwe : Hid (lenE l.length 6 = fstE [unl (decide (0 < l.length)) 10, unl (decide ((l.length : Int) ≤ 6)) 8]) := rfl
  generalize l.length = nl at *
  go_enter Tryz.func41, Tryz.ntmps41
  go_wp2
  first
  | apply absB1 (w0 := w) (g0 := w.heap.size)
  | apply absTB1 (w0 := w) (g0 := w.heap.size)
  | apply absIB1 (w0 := w) (g0 := w.heap.size)
  iterate 2 (focus exact zL)
  try clear hb3
  try clear hb0
  try clear k0
  intro wa hb0 k0
  (try simp only [List.setIfInBounds_toArray, List.set_cons_zero, List.set_cons_succ] at k0)
  have Lk0 := k0.later
  have Fk0 := k0.laterF
  have Qk0 := k0.lt
  refine wp_any (w0 := wa) ⟨[], [], [some 5, some 6, some 7, some 8, some 9, some 10, some 11, some 12, some 13, some 14, some 4], [[], [0], [0, 1], [0, 1, 2], [], [4], [4, 5], [0, 1, 2, 3, 4, 5, 6], [0, 1, 2, 3, 4, 5, 6, 7], [0, 1, 2, 3, 4, 5, 6, 7, 8], [0, 1, 2, 3, 4, 5, 6, 7, 8, 9]], [[], [0], [1], [2], [], [4], [5], [6], [3, 7], [8], [8, 9]]⟩ (fun _ => []) (by kernel_rfl) (by kernel_rfl) (by (exact zE)) (fun u => by simp only [putD, Act.put, List.setIfInBounds_toArray, List.set_cons_zero, List.set_cons_succ, Nat.zero_add, Nat.reduceAdd]; rfl) ?_
  apply RGW.on (i := 0) rfl
  · exact zG
  · intro γ u W hcur hd
    clear hd
    (try dsimp only)
    exact ⟨rfl, zS⟩
  · exact zC
  · rfl
  dsimp only [nA, cA]
  apply RGW.on (i := 1) rfl
  · exact zG
  · intro γ u W hcur hd
    obtain ⟨⟨h0, -, -⟩, -⟩ := hd
    dsimp only at h0
    (try simp only [h0])
    exact ⟨rfl, zS⟩
  · exact zC
  · rfl
  dsimp only [nA, cA]
  apply RGW.on (i := 2) rfl
  · exact zG
  · intro γ u W hcur hd
    obtain ⟨⟨h1, -, -⟩, -⟩ := hd
    dsimp only at h1
    (try simp only [h1])
    exact ⟨rfl, zS⟩
  · exact zC
  · rfl
  dsimp only [nA, cA]
  apply RGW.call (i := 3) rfl
  · exact zG
  · intro γ u W hcur hd
    obtain ⟨⟨h2, -, -⟩, -⟩ := hd
    dsimp only at h2
    (try simp only [h2])
    refine ⟨rfl, fun K hK => ?_⟩
    go_simp
    first
    | (go_at_call 58; (with_reducible refine (c_unless _ _ _).mono ?_); rintro e w3 ⟨rfl, rfl⟩)
    | (go_at_call 74; (with_reducible refine (c_first2 (by (exact zK))).mono ?_); rintro e w3 ⟨rfl, rfl⟩)
    (try dsimp only)
    exact hK.out _ _ rfl (by (exact zE))
  · exact zC
  · rfl
  dsimp only [nA, cA]
  apply RGW.on (i := 4) rfl
  · exact zG
  · intro γ u W hcur hd
    clear hd
    (try dsimp only)
    exact ⟨rfl, zS⟩
  · exact zC
  · rfl
  dsimp only [nA, cA]
  apply RGW.on (i := 5) rfl
  · exact zG
  · intro γ u W hcur hd
    obtain ⟨⟨h4, -, -⟩, -⟩ := hd
    dsimp only at h4
    (try simp only [h4])
    exact ⟨rfl, zS⟩
  · exact zC
  · rfl
  dsimp only [nA, cA]
  apply RGW.on (i := 6) rfl
  · exact zG
  · intro γ u W hcur hd
    obtain ⟨⟨h5, -, -⟩, -⟩ := hd
    dsimp only at h5
    (try simp only [h5])
    exact ⟨rfl, zS⟩
  · exact zC
  · rfl
  dsimp only [nA, cA]
  apply RGW.call (i := 7) rfl
  · exact zG
  · intro γ u W hcur hd
    obtain ⟨⟨h6, -, -⟩, -⟩ := hd
    dsimp only at h6
    (try simp only [h6])
    refine ⟨rfl, fun K hK => ?_⟩
    go_simp
    first
    | (go_at_call 58; (with_reducible refine (c_unless _ _ _).mono ?_); rintro e w3 ⟨rfl, rfl⟩)
    | (go_at_call 74; (with_reducible refine (c_first2 (by (exact zK))).mono ?_); rintro e w3 ⟨rfl, rfl⟩)
    (try dsimp only)
    exact hK.out _ _ rfl (by (exact zE))
  · exact zC
  · rfl
  dsimp only [nA, cA]
  apply RGW.bslice (i := 8) rfl
  · exact zG
  · intro γ u W hcur hd
    obtain ⟨⟨h3, -, -⟩, ⟨h7, -, -⟩, -⟩ := hd
    dsimp only at h3 h7
    (try simp only [h3, h7])
    refine ⟨rfl, fun K hK => ?_⟩
    go_simp
    exact hK.out _ _ rfl rfl
  · exact zC
  · rfl
  · rfl
  dsimp only [nA, cA]
  apply RGW.call (i := 9) rfl
  · exact zG
  · intro γ u W hcur hd
    obtain ⟨⟨h8, r8, -⟩, -⟩ := hd
    dsimp only at h8 r8
    have L8 := r8.cell
    (try simp only [h8])
    refine ⟨rfl, fun K hK => ?_⟩
    go_simp
    first
    | (go_at_call 58; (with_reducible refine (c_unless _ _ _).mono ?_); rintro e w3 ⟨rfl, rfl⟩)
    | (go_at_call 74; (with_reducible refine (c_first2 (by (exact zK))).mono ?_); rintro e w3 ⟨rfl, rfl⟩)
    (try dsimp only)
    exact hK.out _ _ rfl (by (exact zE))
  · first
    | exact zC
    | intro γ γ' hg
      try dsimp only
      have e8 := hg 8 (by decide)
      simp only [e8]
  · rfl
  dsimp only [nA, cA]
  apply RGW.on (i := 10) rfl
  · exact zG
  · intro γ u W hcur hd
    obtain ⟨⟨h8, r8, -⟩, ⟨h9, -, -⟩, -⟩ := hd
    dsimp only at h8 h9 r8
    have L8 := r8.cell
    (try simp only [h8, h9])
    exact ⟨rfl, zS⟩
  · first
    | exact zC
    | intro γ γ' hg
      try dsimp only
      have e8 := hg 8 (by decide)
      simp only [e8]
  · rfl
  dsimp only [nA, cA]
  refine RGW.fin (fun γ u wb hwb hd hdis => ?_)
  obtain ⟨⟨h0, -, -⟩, ⟨h1, -, -⟩, ⟨h2, -, -⟩, ⟨h3, -, -⟩, ⟨h4, -, -⟩, ⟨h5, -, -⟩, ⟨h6, -, -⟩, ⟨h7, -, -⟩, ⟨h8, r8, b8⟩, ⟨h9, -, -⟩, ⟨h10, -, -⟩, -⟩ := hd
  dsimp only at h0 h1 h2 h3 h4 h5 h6 h7 h8 h9 h10 r8 b8
  clear hdis
  simp only [h0, h1, h2, h3, h4, h5, h6, h7, h8, h9, h10]
  clear h10 h9 h8 h7 h6 h5 h4 h3 h2 h1 h0
  replace b8 := b8 _ (List.mem_singleton.2 rfl)
  generalize hγ8 : (γ 8).n = g8 at *
  clear hγ8
  clear u
  simp only [List.map_nil]
  refine PlanW.done ?_
  have hb3 := bl_tt hwb
  rw [← hwe.out]
  have hbw := hb3 _ hb0
  generalize lenE nl 6 = we at *
  by_cases h0 : we = 0
  · have h0' : (we != 0) = false := by simp [h0]
    replace h0 := Lib.hid h0
    go_wp2_with fail
    refine Calls.mono (hev.out _ ?_ ?_) ?_
    · (exact zE)
    · exact Lk0 _ (by (exact zE)) 0
    rintro e w3 ⟨rfl, hb3⟩
    replace hb3 := bl_tt hb3
    go_wp2
    go_ret2
    exact ⟨by rw [hres.out.1 h0.out] <;> rfl, hb3 _ hbw⟩
  · have h0' : (we != 0) = true := by simp [h0]
    replace h0 := Lib.hid h0
    go_wp2
    go_ret2
    exact ⟨by rw [hres.out.2 h0.out] <;> rfl, hbw⟩
theorem c_streamsErr (l : List Sm) (A : Option Addr) (c : Nat) (w : World) (hn : SmIn l A c w) : Calls Tryz.prog 56 #[.slice A l.length c] w (Ret (.int .i64 (smsErr l)) w) := by
  have hcall := Lib.hid (c_CheckStreams l A c w hn)
  have he : Hid ((smsChk l).2 = smsErr l) := rfl
  clear hn
  generalize l.length = n at *
  go_enter Tryz.func56, Tryz.ntmps56
  go_wp2_with fail
  refine hcall.out.mono ?_
  rintro e w3 ⟨rfl, hb3⟩
  go_wp2
  go_ret
  exact ⟨by rw [he.out] <;> rfl, hb3⟩
end Go.Proofs.YtbdgblnccjpahaaGreatDoor
namespace Go.Proofs.YtbdgblnccjpahaaGreatDoor
open Go.RowKit Go.Shelf
attribute [local go_sem] bl_al bl_drew bl_drewN bl_refl bx_al bx_drew bx_drewN bx_refl
set_option maxRecDepth 20000
theorem ba_app (a b : ByteArray) : a ++ b = ⟨(a.data.toList ++ b.data.toList).toArray⟩ := by
  apply ByteArray.ext
  simp
/-- A stream as a string, and streams. -/
def fmtSm (s : Sm) : List UInt8 := s.name.data.toList ++ [32] ++ Lib.join (itoas [s.per, s.dl, s.len]) [32]
def fmtSms (l : List Sm) : List UInt8 := Lib.join (l.map fmtSm) [59]
theorem fmtSm_len (s : Sm) (h : s.name.size ≤ 1000) (h1 : Fits s.per) (h2 : Fits s.dl) (h3 : Fits s.len) : (fmtSm s).length ≤ 2000 := by
  have := join_len (itoas [s.per, s.dl, s.len]) [32] 21 (fun x hx => by
    simp [itoas] at hx
    rcases hx with rfl | rfl | rfl
    · exact Lib.itoa_length_le _ h1.1 h1.2
    · exact Lib.itoa_length_le _ h2.1 h2.2
    · exact Lib.itoa_length_le _ h3.1 h3.2)
  have hn : s.name.data.toList.length = s.name.size := rfl
  simp [fmtSm, itoas] at this ⊢
  omega
set_option maxHeartbeats 4000000 in
theorem c_FormatStreams (l : List Sm) (A : Option Addr) (c : Nat) (w : World) (hs : Sl cSm 4 w A l) (hl : l.length ≤ 1000) (hn : ∀ s ∈ l, s.name.size ≤ 1000 ∧ Fits s.per ∧ Fits s.dl ∧ Fits s.len) (hE : Env w) :
    Calls Tryz.prog 16 #[.slice A l.length c] w (Ret (.string ⟨(fmtSms l).toArray⟩) w) := by
  obtain ⟨i0, hi, hz0, hz1, hz2⟩ := info_parts infoStr
  have Hs := Lib.hid hs
  have HE := Lib.hid fun W (hb : Below w.heap.size w W) => hE.below hb
  have hjl : (fmtSms l).length ≤ 140737488355328 := by
    have := join_len (l.map fmtSm) [59] 2000 (fun x hx => by
      obtain ⟨s, hs, rfl⟩ := List.mem_map.1 hx
      obtain ⟨h0, h1, h2, h3⟩ := hn s hs
      exact fmtSm_len s h0 h1 h2 h3)
    simp at this
    unfold fmtSms
    omega
  have hJ := Lib.hid fun A' c' W h hc => c_JoinB (l.map fmtSm) [59] A' c' W h hc (by simp; omega) hjl
  have hjo := Lib.hid fun (s : Sm) (hm : s ∈ l) A' c' W (h : Sl cI 1 W A' [s.per, s.dl, s.len]) (hW : Env W) => c_joined [s.per, s.dl, s.len] 32 A' c' W h (by simp) (fun n hx => by
    obtain ⟨h0, h1, h2, h3⟩ := hn s hm
    simp at hx
    rcases hx with rfl | rfl | rfl
    · exact h1
    · exact h2
    · exact h3) hW
  have h0 : Hid ((l.take 0).map fmtSm = []) := rfl
  have hst := Lib.hid fun k s (h : l[k]? = some s) => (show (l.take (k + 1)).map fmtSm = (l.take k).map fmtSm ++ [s.name.data.toList ++ [32] ++ Lib.join (itoas [s.per, s.dl, s.len]) [32]] by rw [List.take_add_one, h]; simp [fmtSm])
  have hend : Hid ((l.take l.length).map fmtSm = l.map fmtSm) := Lib.hid (by rw [List.take_length])
  have hlen : Hid ((l.map fmtSm).length = l.length) := Lib.hid (by simp)
  clear hs hE hjl
  obtain ⟨g, hg⟩ : ∃ g : Nat → List (List UInt8), ∀ k, (l.take k).map fmtSm = g k := ⟨_, fun _ => rfl⟩
  simp only [hg] at h0 hst hend
  clear hg
  have hF : Hid (Lib.join (l.map fmtSm) [59] = fmtSms l) := rfl
  rw [hF.out] at hJ
  clear hF
  generalize fmtSms l = J at *
  generalize l.map fmtSm = S at *
  obtain ⟨n, Hn⟩ : ∃ n, Hid (l.length = n) := ⟨_, rfl⟩
  rw [Hn.out] at hl hend hlen ⊢
  rw [hlen.out] at hJ
  go_enter Tryz.func16, Tryz.ntmps16
  go_wp2
  go_loopw [3, 8] (fun v i wr => ∃ k : Nat, k ≤ n ∧ i = .int .i64 k ∧ Below w.heap.size w wr ∧ wr.ownsRow w.heap.size 9 1 v k ((g k).flatMap cB)) (fun _ i _ => n - (intOf i).toNat)
  case atStart => exact ⟨0, Nat.zero_le _, rfl, bl_refl _, by rw [h0.out]; exact World.ownsRow_nil _ _ _ _⟩
  case round =>
    obtain ⟨k, hk, rfl, hb0, ho⟩ := hrel
    obtain ⟨vA, vc, rfl⟩ := own_slice ho
    replace ho := Lib.hid ho
    by_cases hkn : k < n
    rotate_left
    · obtain rfl : n = k := by omega
      rw [hend.out] at ho
      have hsl : Sl cB 1 wr vA S := own_slC (cs := cB) (fun _ => rfl) (by decide) (by rw [hlen.out]; exact ho.out)
      have hcap : n ≤ vc := by
        rcases ho.out.2 with ⟨h, -⟩ | ⟨_, _, _, e, _, _, h, _⟩
        · injection h with _ h1 h2
          omega
        · injection e with _ _ e
          omega
      go_wp2_with fail
      refine (hJ.out _ _ _ hsl hcap).mono ?_
      rintro e w1 ⟨rfl, hb1⟩
      go_wp2
      go_ret
      exact ⟨rfl, bl_tr hb0 hb1⟩
    have hx : l[k]? = some (l[k]'(by rw [Hn.out]; exact hkn)) := List.getElem?_eq_getElem _
    generalize l[k]'(by rw [Hn.out]; exact hkn) = x at hx
    have hgn := Lib.hid (hst.out k x hx)
    have hjx := Lib.hid (hjo.out x (List.mem_of_getElem? hx))
    have hjx2 := Lib.hid (hn x (List.mem_of_getElem? hx)).1
    have hjx3 := Lib.hid (by obtain ⟨q0, q1, q2, q3⟩ := hn x (List.mem_of_getElem? hx); exact fmtSm_len x q0 q1 q2 q3)
    obtain ⟨b, off, rfl, hc⟩ := Hs.out k x hx
    obtain ⟨nm, per, dl, ln⟩ := x
    dsimp only at hgn hjx hjx2
    change Hid ((nm.data.toList ++ [32] ++ Lib.join (itoas [per, dl, ln]) [32]).length ≤ 2000) at hjx3
    have c0 : wr.cell? ⟨b, off + k * 4, none⟩ = some (.string nm) := by simpa using kcell hb0 (hc 0 _ rfl)
    have c1 := kcell hb0 (hc 1 _ rfl)
    have c2 := kcell hb0 (hc 2 _ rfl)
    have c3 := kcell hb0 (hc 3 _ rfl)
    have hkn2 : (k : Int) < n := by omega
    clear hc hx
    go_upto_region 5 with fail
    have k5 := Blk.new wr 43 #[.string nm, .int .i64 per, .int .i64 dl, .int .i64 ln]
    have hbA := bl_al (.cells #[.string nm, .int .i64 per, .int .i64 dl, .int .i64 ln] 43) (bl_refl wr)
    replace hb0 := bl_tr hb0 hbA
    replace ho := Lib.hid (own_below ho.out hbA)
    generalize hg5 : wr.heap.size = g5 at *
    generalize wr.alloc (.cells #[.string nm, .int .i64 per, .int .i64 dl, .int .i64 ln] 43) = wA at *
    clear hbA hg5 c0 c1 c2 c3
    have HEA := Lib.hid fun W (h : Below wA.heap.size wA W) => HE.out W (bl_tr hb0 h)
    obtain ⟨J5, HJ5⟩ : ∃ z, Hid (Lib.join (itoas [per, dl, ln]) [32] = z) := ⟨_, rfl⟩
    rw [HJ5.out] at hgn hjx3
    have hs1 : ¬ 9223372036854775807 < nm.size + 1 := by have := hjx2.out; omega
    have hs2 : ¬ 9223372036854775807 < nm.size + 1 + J5.length := by have := hjx2.out; have h3 := hjx3.out; simp only [List.length_append] at h3; omega
    have hjx' : Hid (∀ (A' : Option Addr) (c' : Nat) (W : World), Sl cI 1 W A' [per, dl, ln] → Env W → Calls Tryz.prog 62 #[.slice A' 3 c', .string ⟨#[32]⟩] W (Ret (.string ⟨J5.toArray⟩) W)) := fun A' c' W h1 h2 => by
      have := hjx.out A' c' W h1 h2
      rw [HJ5.out] at this
      exact this
    clear hjx
    have hL5 := k5.later
    have hszA := hb0.size
    have hDx : w.heap.size ≤ wA.heap.size := hb0.size
    refine wp_any (w0 := wA) ⟨[14, 15], [], [some 12, some 13, some 14, some 15, some 16, some 17, some 18, some 19, some 20, some 21, some 22, some 23, some 24, some 25, none, none], [[], [], [1], [1, 2], [], [4], [], [6], [], [8], [4, 5, 6, 7, 8, 9], [4, 5, 6, 7, 8, 9, 10], [1, 2, 3, 4, 5, 6, 7, 8, 9, 10, 11], [1, 2, 3, 4, 5, 6, 7, 8, 9, 10, 11, 12], [0, 1, 2, 3, 4, 5, 6, 7, 8, 9, 10, 11, 12, 13], [0, 1, 2, 3, 4, 5, 6, 7, 8, 9, 10, 11, 12, 13, 14]], [[], [], [1], [2], [], [4], [], [6], [], [8], [5, 7, 9], [10], [3, 10, 11], [10, 12], [], []]⟩ (fun _ => ownL (.slice vA k vc)) (by kernel_rfl) (by kernel_rfl) (by (exact zE)) (fun u => by simp only [putD, Act.put, List.setIfInBounds_toArray, List.set_cons_zero, List.set_cons_succ, Nat.zero_add, Nat.reduceAdd]; rfl) ?_
    apply RGW.on (i := 0) rfl
    · exact zG
    · intro γ u W hcur hd
      clear hd
      (try dsimp only)
      exact ⟨rfl, zS⟩
    · exact zC
    · rfl
    dsimp only [nA, cA]
    apply RGW.on (i := 1) rfl
    · exact zG
    · intro γ u W hcur hd
      clear hd
      (try dsimp only)
      exact ⟨rfl, zS⟩
    · exact zC
    · rfl
    dsimp only [nA, cA]
    apply RGW.on (i := 2) rfl
    · exact zG
    · intro γ u W hcur hd
      obtain ⟨⟨h1, -, -⟩, -⟩ := hd
      dsimp only at h1
      (try simp only [h1])
      exact ⟨rfl, zS⟩
    · exact zC
    · rfl
    dsimp only [nA, cA]
    apply RGW.on (i := 3) rfl
    · exact zG
    · intro γ u W hcur hd
      obtain ⟨⟨h2, -, -⟩, -⟩ := hd
      dsimp only at h2
      (try simp only [h2])
      exact ⟨rfl, zS⟩
    · exact zC
    · rfl
    dsimp only [nA, cA]
    apply RGW.on (i := 4) rfl
    · exact zG
    · intro γ u W hcur hd
      clear hd
      (try dsimp only)
      exact ⟨rfl, zS⟩
    · exact zC
    · rfl
    dsimp only [nA, cA]
    apply RGW.on (i := 5) rfl
    · exact zG
    · intro γ u W hcur hd
      obtain ⟨⟨h4, -, -⟩, -⟩ := hd
      dsimp only at h4
      (try simp only [h4])
      exact ⟨rfl, zS⟩
    · exact zC
    · rfl
    dsimp only [nA, cA]
    apply RGW.on (i := 6) rfl
    · exact zG
    · intro γ u W hcur hd
      clear hd
      (try dsimp only)
      exact ⟨rfl, zS⟩
    · exact zC
    · rfl
    dsimp only [nA, cA]
    apply RGW.on (i := 7) rfl
    · exact zG
    · intro γ u W hcur hd
      obtain ⟨⟨h6, -, -⟩, -⟩ := hd
      dsimp only at h6
      (try simp only [h6])
      exact ⟨rfl, zS⟩
    · exact zC
    · rfl
    dsimp only [nA, cA]
    apply RGW.on (i := 8) rfl
    · exact zG
    · intro γ u W hcur hd
      clear hd
      (try dsimp only)
      exact ⟨rfl, zS⟩
    · exact zC
    · rfl
    dsimp only [nA, cA]
    apply RGW.on (i := 9) rfl
    · exact zG
    · intro γ u W hcur hd
      obtain ⟨⟨h8, -, -⟩, -⟩ := hd
      dsimp only at h8
      (try simp only [h8])
      exact ⟨rfl, zS⟩
    · exact zC
    · rfl
    dsimp only [nA, cA]
    apply RGW.bslice (i := 10) rfl
    · exact zG
    · intro γ u W hcur hd
      obtain ⟨⟨h5, -, -⟩, ⟨h7, -, -⟩, ⟨h9, -, -⟩, -⟩ := hd
      dsimp only at h5 h7 h9
      (try simp only [h5, h7, h9])
      refine ⟨rfl, fun K hK => ?_⟩
      go_simp
      exact hK.out _ _ rfl rfl
    · exact zC
    · rfl
    · rfl
    dsimp only [nA, cA]
    apply RGW.call (i := 11) rfl
    · exact zG
    · intro γ u W hcur hd
      obtain ⟨⟨h10, r10, -⟩, -⟩ := hd
      dsimp only at h10 r10
      have L10 := r10.cell
      (try simp only [h10])
      refine ⟨rfl, fun K hK => ?_⟩
      go_simp
      first
      | (go_at_call 62; (with_reducible refine (hjx'.out _ _ _ (Blk.ints (l := [per, dl, ln]) r10) (HEA.out _ hcur)).mono ?_); rintro e w3 ⟨rfl, hb3⟩; replace hb3 := bl_tt hb3)
      | (refine wp_appT _ _ rfl Tryz.underlying54 hi hz0 hz1 hz2 rfl (by decide) (.slice vA k vc) k _ _ rfl rfl (own_below ho.out hwd) r13 rfl (by simp [Value.oneCell']) (by unfold maxLen; omega) (by omega) (Nat.le_trans hDx hwd.size) ?_; intro v' w' hown' hbx' hnew'; refine hK.out _ _ hbx' (fun hcur => ?_))
      (try dsimp only)
      exact hK.out _ _ rfl (by (exact zE))
    · first
      | exact zC
      | intro γ γ' hg
        try dsimp only
        have e10 := hg 10 (by decide)
        simp only [e10]
    · rfl
    dsimp only [nA, cA]
    apply RGW.on (i := 12) rfl
    · exact zG
    · intro γ u W hcur hd
      obtain ⟨⟨h3, -, -⟩, ⟨h10, r10, -⟩, ⟨h11, -, -⟩, -⟩ := hd
      dsimp only at h3 h10 h11 r10
      have L10 := r10.cell
      (try simp only [h3, h10, h11])
      exact ⟨rfl, zS⟩
    · first
      | exact zC
      | intro γ γ' hg
        try dsimp only
        have e10 := hg 10 (by decide)
        simp only [e10]
    · rfl
    dsimp only [nA, cA]
    apply RGW.bslice (i := 13) rfl
    · exact zG
    · intro γ u W hcur hd
      obtain ⟨⟨h10, r10, -⟩, ⟨h12, -, -⟩, -⟩ := hd
      dsimp only at h10 h12 r10
      have L10 := r10.cell
      (try simp only [h10, h12])
      refine ⟨rfl, fun K hK => ?_⟩
      go_simp
      exact hK.out _ _ rfl rfl
    · first
      | exact zC
      | intro γ γ' hg
        try dsimp only
        have e10 := hg 10 (by decide) (by decide)
        simp only [e10]
    · rfl
    · rfl
    dsimp only [nA, cA]
    refine RGW.skip (i := 14) rfl rfl ?_
    dsimp only [nA, cA]
    refine RGW.skip (i := 15) rfl rfl ?_
    dsimp only [nA, cA]
    refine RGW.fin (fun γ u wd hwd hd hdis => ?_)
    obtain ⟨⟨h0, -, -⟩, ⟨h1, -, -⟩, ⟨h2, -, -⟩, ⟨h3, -, -⟩, ⟨h4, -, -⟩, ⟨h5, -, -⟩, ⟨h6, -, -⟩, ⟨h7, -, -⟩, ⟨h8, -, -⟩, ⟨h9, -, -⟩, ⟨h10, r10, b10⟩, ⟨h11, -, -⟩, ⟨h12, -, -⟩, ⟨h13, r13, b13⟩, -⟩ := hd
    dsimp only at h0 h1 h2 h3 h4 h5 h6 h7 h8 h9 h10 h11 h12 h13 r10 r13 b10 b13
    have n10_13 := hdis 10 13 rfl rfl (Nat.lt_of_lt_of_eq (by decide : 10 < 16) (by kernel_rfl)) (Nat.lt_of_lt_of_eq (by decide : 13 < 16) (by kernel_rfl)) (by decide) _ (List.mem_singleton.2 rfl) _ (List.mem_singleton.2 rfl)
    clear hdis
    simp only [h0, h1, h2, h3, h4, h5, h6, h7, h8, h9, h10, h11, h12, h13]
    clear h13 h12 h11 h10 h9 h8 h7 h6 h5 h4 h3 h2 h1 h0
    replace b10 := b10 _ (List.mem_singleton.2 rfl)
    generalize hγ10 : (γ 10).n = g10 at *
    clear hγ10
    replace b13 := b13 _ (List.mem_singleton.2 rfl)
    generalize hγ13 : (γ 13).n = g13 at *
    clear hγ13
    clear u
    simp only [List.map_cons, List.map_nil]
    apply PlanW.step
    · exact zG
    · rfl
    intro K hK
    first
    | (go_at_call 62; (with_reducible refine (hjx'.out _ _ _ (Blk.ints (l := [per, dl, ln]) r10) (HEA.out _ hcur)).mono ?_); rintro e w3 ⟨rfl, hb3⟩; replace hb3 := bl_tt hb3)
    | (refine wp_appT _ _ rfl Tryz.underlying54 hi hz0 hz1 hz2 rfl (by decide) (.slice vA k vc) k _ _ rfl rfl (own_below ho.out hwd) r13 rfl (by simp [Value.oneCell']) (by unfold maxLen; omega) (by omega) (Nat.le_trans hDx hwd.size) ?_; intro v' w' hown' hbx' hnew'; refine hK.out _ _ hbx' (fun hcur => ?_))
    clear hK K
    try simp only [Act.put, List.setIfInBounds_toArray, List.set_cons_zero, List.set_cons_succ]
    apply PlanW.step
    · exact zG
    · rfl
    intro K hK
    go_simp
    refine hK.out _ _ (by with_reducible first | assumption | exact bx_refl _ _) (fun hcur => ?_)
    clear hK K
    try simp only [Act.put, List.setIfInBounds_toArray, List.set_cons_zero, List.set_cons_succ]
    refine PlanW.done ?_
    have hb3 := bl_tt hwd
    have hown9 : w'.ownsRow w.heap.size 9 1 v' (k + 1) ((g (k + 1)).flatMap cB) := by
      rw [hgn.out, List.flatMap_append]
      have e : (nm ++ (⟨#[32]⟩ : ByteArray)) ++ ⟨J5.toArray⟩ = ⟨(nm.data.toList ++ [32] ++ J5).toArray⟩ := by
        rw [ba_app, ba_app]
      rw [e] at hown'
      exact hown'
    replace hown9 := Lib.hid hown9
    have hb9 := bx_below (bl_tr hb0 hwd) hbx' (fun x hx => ownL_ge ho.out x hx)
    clear hown' hnew' hbx' hcur hb3
    go_wp2
    go_roundw
    case rel => exact ⟨k + 1, by omega, by go_num, hb9, hown9.out⟩
    case measure => simp [intOf]; omega
end Go.Proofs.YtbdgblnccjpahaaGreatDoor
namespace Go.Proofs.YtbdgblnccjpahaaGreatDoor
open Go.RowKit Go.Shelf Go.MapKept Go.ChangeMaps Go.WideMaps
attribute [local go_sem] bl_al bl_drew bl_drewN bl_refl bx_al bx_drew bx_drewN bx_refl
set_option maxRecDepth 20000
def setD (L : List ByteArray) : DataW Unit := Maps.setOf (.agg []) (L.map fun s => Lit.string s.data.toList)
/-- The names that were met so far. -/
structure Seen (L : List ByteArray) (g m : Nat) (w : World) : Prop where
  blk : Blk w g 255 #[.map (some m)]
  map : w.ownsMap Tryz.prog 9 unitElem m L.length (setD L)
theorem map_bx {L : List ByteArray} {m n : Nat} {X : List Nat} {w w' : World} (h : w.ownsMap Tryz.prog 9 unitElem m n (setD L)) (hb : BX X w w') (hX : m ∉ X) : w'.ownsMap Tryz.prog 9 unitElem m n (setD L) := by
  obtain ⟨es, clock, h1, F, hs, hD⟩ := h
  exact ⟨es, clock, (hb.block m (Array.getElem?_eq_some_iff.1 h1).1 hX).trans h1, F, hs, hD⟩
theorem map_below {L : List ByteArray} {m n : Nat} {w w' : World} (h : w.ownsMap Tryz.prog 9 unitElem m n (setD L)) (hb : Below w.heap.size w w') : w'.ownsMap Tryz.prog 9 unitElem m n (setD L) := map_bx (X := []) h (bx_bl [] hb) (by simp)
theorem Seen.below {L : List ByteArray} {g m : Nat} {w w' : World} (h : Seen L g m w) (hb : Below w.heap.size w w') : Seen L g m w' := ⟨h.blk.below hb, map_below h.map hb⟩
theorem Seen.apart {L : List ByteArray} {g m : Nat} {w : World} (h : Seen L g m w) {b o : Nat} {v : Value} (hc : w.cell? ⟨b, o, none⟩ = some v) : b ≠ m := fun e => by
  subst e
  obtain ⟨es, clock, h1, _⟩ := h.map
  simp [World.cell?, h1] at hc
theorem Seen.lt {L : List ByteArray} {g m : Nat} {w : World} (h : Seen L g m w) : m < w.heap.size := by
  obtain ⟨es, clock, h1, _⟩ := h.map
  exact (Array.getElem?_eq_some_iff.1 h1).1
/-- Slices lie where they lay: a map is no part of them. -/
theorem sl_map {α : Type} {cs : α → List Value} {sz : Nat} {A : Option Addr} {l : List α} {L : List ByteArray} {g m : Nat} {w w' : World} (h : Sl cs sz w A l) (hs : Seen L g m w) (hb : BX [m] w w') : Sl cs sz w' A l := fun k x hx => by
  obtain ⟨b, off, e, hc⟩ := h k x hx
  refine ⟨b, off, e, fun j v hv => ?_⟩
  have h1 := hc j v hv
  have hlt := World.block_lt_of_cell? w _ h1
  have hne := hs.apart h1
  have : w'.heap[b]? = w.heap[b]? := hb.block b hlt (by simpa using hne)
  simp only [World.cell?] at h1 ⊢
  rw [this]
  exact h1
end Go.Proofs.YtbdgblnccjpahaaGreatDoor
namespace Go.Proofs.YtbdgblnccjpahaaGreatDoor
open Go.RowKit
section
variable {P : Program} {ops : Array Oper} {Q : Exit → Act → World → Prop} {m : Nat} {M : List Nat}
def StM (m : Nat) (M : List Nat) (i : Nat) (W W' : World) : Prop := if i = m then BX M W W' else Below W.heap.size W W'
def PreM (m : Nat) (M : List Nat) (i : Nat) (w0 W : World) : Prop := if i = m then Below w0.heap.size w0 W else BX M w0 W
def OpWM (P : Program) (ops : Array Oper) (Q : Exit → Act → World → Prop) (m : Nat) (M : List Nat) (i : Nat) (o : Oper) (s : Sp) (γ : Nat → Gh) (a : Act) (W : World) : Prop :=
  wpOp P ops Q i (fun a' W' => ∃ g, a' = a.put o.dst (s.val (up γ i g)) ∧ StM m M i W W' ∧ s.R (up γ i g) W' ∧ ∀ x ∈ s.bl g, W.heap.size ≤ x ∧ x < W'.heap.size) a W
def OpOKM (P : Program) (ops : Array Oper) (Q : Exit → Act → World → Prop) (m : Nat) (M : List Nat) (w0 : World) (A : (Nat → Value) → Act) (p : Parts) (h : List Sp) (i : Nat) (s : Sp) : Prop :=
  Cong (p.C.getD i []) i s ∧ (∀ γ W W', Below W.heap.size W W' → s.R γ W → s.R γ W') ∧
  (i ≠ m → ∀ γ W W', (∀ x ∈ s.bl (γ i), w0.heap.size ≤ x ∧ x < W.heap.size) → BX M W W' → s.R γ W → s.R γ W') ∧
  (∀ γ u W, PreM m M i w0 W → Known h γ u w0 W (p.D.getD i []) → ∃ o, ops[i]? = some o ∧ OpWM P ops Q m M i o s γ (A u) W)
def FinM (ops : Array Oper) (Q : Exit → Act → World → Prop) (M : List Nat) (w0 : World) (A : (Nat → Value) → Act) (h : List Sp) : Prop :=
  ∀ γ u W, BX M w0 W → Known h γ u w0 W (List.range ops.size) → Q .normal (A u) W
def RGM (P : Program) (ops : Array Oper) (Q : Exit → Act → World → Prop) (m : Nat) (M : List Nat) (w0 : World) (A : (Nat → Value) → Act) (p : Parts) : Nat → List Sp → Prop
  | 0, h => FinM ops Q M w0 A h
  | k + 1, h => ∃ s, OpOKM P ops Q m M w0 A p h h.length s ∧ RGM P ops Q m M w0 A p k (h ++ [s])
end
section
variable {P : Program} {ops : Array Oper} {Q : Exit → Act → World → Prop} {m : Nat} {M : List Nat} {w0 : World} {A : (Nat → Value) → Act} {p : Parts} {k i : Nat} {h : List Sp} {o : Oper} {val : (Nat → Gh) → Value}
theorem RGM.fin (H : ∀ γ u W, BX M w0 W → KnownL h γ u w0 W (List.range ops.size) → Q .normal (A u) W) : RGM P ops (NoPanic Q) m M w0 A p 0 h := fun γ u W hb hk => H γ u W hb hk.toL
end
end Go.Proofs.YtbdgblnccjpahaaGreatDoor
namespace Go.Proofs.YtbdgblnccjpahaaGreatDoor
open Go.RowKit Go.Shelf
attribute [local go_sem] bl_al bl_drew bl_drewN bl_refl bx_al bx_drew bx_drewN bx_refl
set_option maxRecDepth 20000
structure RwIn (r : Rw) (w : World) : Prop where
  len : r.l.length ≤ 1000
  cap : r.l.length ≤ r.c
  sl : Sl cI 1 w r.A r.l
structure FuIn (f : Fu) (w : World) : Prop where
  nm : f.name.size ≤ maxLen
  len : f.ws.length ≤ 1000
  cap : f.ws.length ≤ f.c
  sl : Sl cRw 1 w f.A f.ws
  rows : ∀ r ∈ f.ws, RwIn r w
structure MdIn (m : Md) (w : World) : Prop where
  nm : m.name.size ≤ maxLen
  row : RwIn m.r w
/-- A net lies where the headers of its slices say. -/
structure NtIn (n : Nt) (Ap Af Am : Option Addr) (cp cf cm : Nat) (w : World) : Prop where
  plen : n.ps.length ≤ 1000
  flen : n.fs.length ≤ 1000
  mlen : n.ms.length ≤ 1000
  pcap : n.ps.length ≤ cp
  fcap : n.fs.length ≤ cf
  mcap : n.ms.length ≤ cm
  psl : Sl cS 1 w Ap n.ps
  fsl : Sl cFu 2 w Af n.fs
  msl : Sl cMd 2 w Am n.ms
  pnm : ∀ s ∈ n.ps, s.size ≤ maxLen
  fin : ∀ f ∈ n.fs, FuIn f w
  min : ∀ m ∈ n.ms, MdIn m w
theorem RwIn.below {r : Rw} {w w' : World} (h : RwIn r w) (hb : Below w.heap.size w w') : RwIn r w' := ⟨h.len, h.cap, h.sl.below hb⟩
theorem FuIn.below {f : Fu} {w w' : World} (h : FuIn f w) (hb : Below w.heap.size w w') : FuIn f w' := ⟨h.nm, h.len, h.cap, h.sl.below hb, fun r hr => (h.rows r hr).below hb⟩
theorem MdIn.below {m : Md} {w w' : World} (h : MdIn m w) (hb : Below w.heap.size w w') : MdIn m w' := ⟨h.nm, h.row.below hb⟩
theorem NtIn.below {n : Nt} {Ap Af Am : Option Addr} {cp cf cm : Nat} {w w' : World} (h : NtIn n Ap Af Am cp cf cm w) (hb : Below w.heap.size w w') : NtIn n Ap Af Am cp cf cm w' :=
  ⟨h.plen, h.flen, h.mlen, h.pcap, h.fcap, h.mcap, h.psl.below hb, h.fsl.below hb, h.msl.below hb, h.pnm, fun f hf => (h.fin f hf).below hb, fun m hm => (h.min m hm).below hb⟩
theorem RwIn.map {r : Rw} {L : List ByteArray} {g m : Nat} {w w' : World} (h : RwIn r w) (hs : Seen L g m w) (hb : BX [m] w w') : RwIn r w' := ⟨h.len, h.cap, sl_map h.sl hs hb⟩
theorem FuIn.map {f : Fu} {L : List ByteArray} {g m : Nat} {w w' : World} (h : FuIn f w) (hs : Seen L g m w) (hb : BX [m] w w') : FuIn f w' := ⟨h.nm, h.len, h.cap, sl_map h.sl hs hb, fun r hr => (h.rows r hr).map hs hb⟩
theorem MdIn.map {d : Md} {L : List ByteArray} {g m : Nat} {w w' : World} (h : MdIn d w) (hs : Seen L g m w) (hb : BX [m] w w') : MdIn d w' := ⟨h.nm, h.row.map hs hb⟩
end Go.Proofs.YtbdgblnccjpahaaGreatDoor
namespace Go.Proofs.YtbdgblnccjpahaaGreatDoor
open Go.RowKit Go.Shelf
attribute [local go_sem] bl_al bl_drew bl_drewN bl_refl bx_al bx_drew bx_drewN bx_refl
set_option maxRecDepth 20000
end Go.Proofs.YtbdgblnccjpahaaGreatDoor
namespace Go.Proofs.YtbdgblnccjpahaaGreatDoor
open Go.RowKit
attribute [local go_sem] bl_al bl_drew bl_drewN bl_refl
set_option maxRecDepth 20000
end Go.Proofs.YtbdgblnccjpahaaGreatDoor
namespace Go.Proofs.YtbdgblnccjpahaaGreatDoor
open Go.RowKit Go.Shelf
attribute [local go_sem] bl_al bl_drew bl_drewN bl_refl bx_al bx_drew bx_drewN bx_refl
set_option maxRecDepth 20000
end Go.Proofs.YtbdgblnccjpahaaGreatDoor
namespace Go.Proofs.YtbdgblnccjpahaaGreatDoor
def upF {α : Type} (f : Nat → α) (i : Nat) (v : α) : Nat → α := fun j => if j = i then v else f j
/-- The messages that wait (when sent, how many frames are left), the worst responses. -/
structure Ss where
  q : Nat → List (Int × Int)
  wo : Nat → Int
def ss0 : Ss := ⟨fun _ => [], fun _ => 0⟩
/-- Whether a stream sends a message at a tick. -/
def relB (l : List Sm) (st : List Int) (t : Int) (i : Nat) : Bool :=
  match l[i]?, st[i]? with
  | some s, some a => decide (a ≤ t) && decide ((t - a) % s.per = 0)
  | _, _ => false
def lenAt (l : List Sm) (i : Nat) : Int := match l[i]? with
  | some s => s.len
  | none => 0
def dlAt (l : List Sm) (i : Nat) : Int := match l[i]? with
  | some s => s.dl
  | none => 0
def sendS (l : List Sm) (st : List Int) (t : Int) (q : Nat → List (Int × Int)) : Nat → List (Int × Int) := fun i => if relB l st t i then q i ++ [(t, lenAt l i)] else q i
/-- The first of so many streams that has frames left, from a number on. -/
def prioFrom (q : Nat → List (Int × Int)) : Nat → Nat → Int
  | 0, _ => -1
  | n + 1, i => if (q i).isEmpty then prioFrom q n (i + 1) else (i : Int)
def prioS (q : Nat → List (Int × Int)) : Int := prioFrom q 6 0
/-- One tick: what is sent, and what is carried. -/
def carS (ch : (Nat → List (Int × Int)) → Int) (l : List Sm) (st : List Int) (t : Int) (s : Ss) : Ss × Int :=
  if ch (sendS l st t s.q) = -1 then (⟨sendS l st t s.q, s.wo⟩, -1) else
    match sendS l st t s.q (ch (sendS l st t s.q)).toNat with
    | [] => (⟨sendS l st t s.q, s.wo⟩, ch (sendS l st t s.q))
    | (a, k) :: r =>
      if k - 1 = 0 then (⟨upF (sendS l st t s.q) (ch (sendS l st t s.q)).toNat r, upF s.wo (ch (sendS l st t s.q)).toNat (max (s.wo (ch (sendS l st t s.q)).toNat) (t - a + 1))⟩, ch (sendS l st t s.q))
      else (⟨upF (sendS l st t s.q) (ch (sendS l st t s.q)).toNat ((a, k - 1) :: r), s.wo⟩, ch (sendS l st t s.q))
def runS (ch : (Nat → List (Int × Int)) → Int) (l : List Sm) (st : List Int) : Nat → Ss × List Int
  | 0 => (ss0, [])
  | t + 1 => ((carS ch l st t (runS ch l st t).1).1, (runS ch l st t).2 ++ [(carS ch l st t (runS ch l st t).1).2])
/-- The error of starts and ticks. -/
def stE (l : List Sm) (st : List Int) (t : Int) : Int :=
  fstE [(if fstE [smsErr l, unl (decide ((st.length : Int) = l.length)) 10] = 0 then (eachS (fun _ n => unl (inR n 0 400) 2) st 0).2 else fstE [smsErr l, unl (decide ((st.length : Int) = l.length)) 10]), unl (inR t 0 400) 2]
/-- A stream's response: the least number at which the demand is met. -/
def respTo (f : Int → Int) : Nat → Int → Option Int
  | 0, _ => none
  | n + 1, r => if f r = r then some r else respTo f n (r + 1)
def respS (before : List Sm) (s : Sm) : Option Int := respTo (respF before s.len) 10000 1
def respV : Option Int → Int × Bool
  | some r => (r, true)
  | none => (0, false)
end Go.Proofs.YtbdgblnccjpahaaGreatDoor
namespace Go.Proofs.YtbdgblnccjpahaaGreatDoor
open Go.RowKit Go.Shelf
set_option maxRecDepth 20000
def cMg (i : Nat) (x : Int × Int) : List Value := [.int .i64 i, .int .i64 x.1, .int .i64 x.2]
def blA : Option Addr → List Nat
  | none => []
  | some a => [a.block]
abbrev tMg : TypeId := 225
abbrev tMgs : TypeId := 122
def Qu (w : World) (b i : Nat) (A : Option Addr) (c : Nat) (L : List (Int × Int)) : Prop :=
  (A = none ∧ c = 0 ∧ L = []) ∨ ∃ g off cs, A = some ⟨g, off, none⟩ ∧ b ≤ g ∧ Blk w g tMg cs ∧ L.length ≤ c ∧ off + c * 3 ≤ cs.size ∧ ∀ j u, (L.flatMap (cMg i))[j]? = some u → cs[off + j]? = some u
theorem flat_len3 (i : Nat) (L : List (Int × Int)) : (L.flatMap (cMg i)).length = L.length * 3 := flat_len (cMg i) 3 (fun _ => rfl) L
theorem Qu.nil (w : World) (b i : Nat) : Qu w b i none 0 [] := .inl ⟨rfl, rfl, rfl⟩
theorem Qu.keep {w w' : World} {b i c : Nat} {A : Option Addr} {L : List (Int × Int)} {X : List Nat} (h : Qu w b i A c L) (hb : BX X w w') (hX : ∀ g ∈ blA A, g ∉ X) : Qu w' b i A c L := by
  rcases h with h | ⟨g, off, cs, rfl, h1, h2, h3, h4, h5⟩
  · exact .inl h
  · exact .inr ⟨g, off, cs, rfl, h1, h2.keep (hX g (by simp [blA])) hb, h3, h4, h5⟩
theorem Qu.below {w w' : World} {b i c : Nat} {A : Option Addr} {L : List (Int × Int)} (h : Qu w b i A c L) (hb : Below w.heap.size w w') : Qu w' b i A c L := h.keep (bx_bl [] hb) (by simp)
theorem Qu.ge {w : World} {b i c : Nat} {A : Option Addr} {L : List (Int × Int)} (h : Qu w b i A c L) : ∀ g ∈ blA A, b ≤ g ∧ g < w.heap.size := by
  rcases h with ⟨rfl, _⟩ | ⟨g, off, cs, rfl, h1, h2, _⟩
  · simp [blA]
  · intro g' hg'
    simp [blA] at hg'
    subst hg'
    exact ⟨h1, h2.lt⟩
theorem Qu.of {w : World} {b b' i c : Nat} {A : Option Addr} {L : List (Int × Int)} (h : w.ownsRow b' tMg 3 (.slice A L.length c) L.length (L.flatMap (cMg i))) (hb : b ≤ b') : Qu w b i A c L := by
  rcases h.2 with ⟨e, e0⟩ | ⟨g, cap, cur, e1, e2, e3, e4, e5, e6, e7⟩
  · injection e with e1 e2 e3
    subst e1 e3
    exact .inl ⟨rfl, rfl, List.eq_nil_of_length_eq_zero e0⟩
  · injection e1 with e1 _ e8
    subst e1 e8
    refine .inr ⟨g, 0, cur, rfl, by omega, e3, e4, by omega, fun j u hj => ?_⟩
    rw [Nat.zero_add]
    rw [← e7, List.getElem?_take] at hj
    split at hj
    · simpa using hj
    · cases hj
theorem infoMg : (Tryz.prog.info? tMg).map (fun i => (i.zero, i.size, i.bytes)) = some (some (.agg #[.int .i64 0, .int .i64 0, .int .i64 0]), 3, 24) := by kernel_rfl
theorem qu_append {w : World} {b i c : Nat} {A : Option Addr} {L : List (Int × Int)} (h : Qu w b i A c L) (hb : b ≤ w.heap.size) (t n : Int) {ag : Nat}
    (ka : Blk w ag tMg #[.int .i64 i, .int .i64 t, .int .i64 n]) (hL : L.length ≤ 1000) :
    ∃ A' c' w', (Builtin.append_ #[tMgs, tMgs] tMgs #[.slice A L.length c, .slice (some ⟨ag, 0, none⟩) 1 1]).run Tryz.prog w = .ok (.slice A' (L.length + 1) c') w' ∧ Qu w' b i A' c' (L ++ [(t, n)]) ∧ BX (blA A) w w' ∧
      (blA A' = blA A ∨ ∃ g, blA A' = [g] ∧ w.heap.size ≤ g) := by
  obtain ⟨i0, hi, hz0, hz1, hz2⟩ := info_parts infoMg
  have hnews : ∀ j u, (cMg i (t, n))[j]? = some u → w.cell? ((⟨ag, 0, none⟩ : Addr).add j) = some u := by
    intro j u hj
    have hadd : (⟨ag, 0, none⟩ : Addr).add j = ⟨ag, j, none⟩ := by unfold Addr.add; split <;> simp_all
    rw [hadd, ka.cell]
    simpa [cMg] using hj
  have h1 : ∀ u ∈ cMg i (t, n), u.oneCell' = true := by
    intro u hu
    simp [cMg] at hu
    rcases hu with rfl | rfl | rfl <;> rfl
  have hflat : (L ++ [(t, n)]).flatMap (cMg i) = L.flatMap (cMg i) ++ cMg i (t, n) := by simp
  have hlen : (L ++ [(t, n)]).length = L.length + 1 := by simp
  rcases h with ⟨rfl, rfl, rfl⟩ | ⟨g, off, cs, rfl, q1, q2, q3, q4, q5⟩
  · obtain ⟨g, cap, w', r1, r2, r3, r4, r5⟩ := run_append_lies (P := Tryz.prog) w tMgs tMgs b tMg i0 _ 3 24 Tryz.underlying122 hi hz0 hz1 hz2 rfl (by decide) (.slice none 0 0) 0 [] (World.ownsRow_nil w b tMg 3)
      ⟨ag, 0, none⟩ 1 1 (cMg i (t, n)) rfl hnews h1 (by decide) (by unfold maxLen; omega) (by decide) hb _ rfl
    refine ⟨_, _, w', by simpa using r1, ?_, ⟨r3.os, r3.tape, r3.output, r3.size, fun k hk _ => r3.block k hk (by simp [Value.ownBlock]), fun g hg => by simp [blA] at hg⟩, .inr ⟨g, rfl, ?_⟩⟩
    · exact Qu.of (by simpa [hflat] using r2) (Nat.le_refl _)
    · rcases r4 with r4 | r4
      · simp [Value.ownBlock] at r4
      · omega
  · by_cases hroom : L.length + 1 ≤ c
    · have hcell : ∀ j, j < 3 → (w.cell? ⟨g, off + L.length * 3 + j, none⟩).isSome = true := fun j hj => by
        rw [q2.cell]
        have : off + L.length * 3 + j < cs.size := by omega
        simp [this]
      have hr := run_append_room_cells (P := Tryz.prog) w tMgs tMgs tMg i0 Tryz.underlying122 hi g off L.length c ⟨ag, 0, none⟩ 1 1 (cMg i (t, n)) (by rw [hz1]; rfl) hnews h1 hroom
        (fun j hj => by rw [hz1]; exact hcell j hj) (fun j hj => q2.frozen _)
      rw [hz1] at hr
      refine ⟨_, _, _, hr, .inr ⟨g, off, ((cs.setIfInBounds (off + L.length * 3) (.int .i64 i)).setIfInBounds (off + L.length * 3 + 1) (.int .i64 t)).setIfInBounds (off + L.length * 3 + 1 + 1) (.int .i64 n), rfl, q1, ?_, by omega, by simpa using q4, ?_⟩, ?_, .inl rfl⟩
      · exact ((q2.set _ _).set _ _).set _ _
      · intro j u hj
        rw [hflat] at hj
        by_cases hlt : j < L.length * 3
        · rw [List.getElem?_append_left (by rw [flat_len3]; exact hlt)] at hj
          rw [Array.getElem?_setIfInBounds_ne (by omega), Array.getElem?_setIfInBounds_ne (by omega), Array.getElem?_setIfInBounds_ne (by omega)]
          exact q5 j u hj
        · rw [List.getElem?_append_right (by rw [flat_len3]; omega), flat_len3] at hj
          obtain ⟨k, rfl⟩ : ∃ k, j = L.length * 3 + k := ⟨j - L.length * 3, by omega⟩
          rw [Nat.add_sub_cancel_left] at hj
          have hk : k < 3 := (List.getElem?_eq_some_iff.1 hj).1
          have hs : off + L.length * 3 + k < cs.size := by omega
          match k, hk, hj with
          | 0, _, hj => simp [cMg] at hj; subst hj; rw [Array.getElem?_setIfInBounds_ne (by omega), Array.getElem?_setIfInBounds_ne (by omega)]; rw [← Nat.add_assoc, Nat.add_zero, Array.getElem?_setIfInBounds_self_of_lt (by omega)]
          | 1, _, hj => simp [cMg] at hj; subst hj; rw [Array.getElem?_setIfInBounds_ne (by omega)]; rw [← Nat.add_assoc, Array.getElem?_setIfInBounds_self_of_lt (by simp; omega)]
          | 2, _, hj => simp [cMg] at hj; subst hj; rw [← Nat.add_assoc]; exact Array.getElem?_setIfInBounds_self_of_lt (by simp; omega)
      · exact bx_set (.inl (by simp [blA])) _ (bx_set (.inl (by simp [blA])) _ (bx_set (.inl (by simp [blA])) _ (bx_refl _ _)))
    · obtain ⟨v', w', r1, r2, r3⟩ := run_append_arg_grows (P := Tryz.prog) w tMgs tMgs tMg i0 _ 3 24 Tryz.underlying122 hi hz0 hz1 hz2 rfl (by decide) ⟨g, off, none⟩ L.length c (L.flatMap (cMg i)) (flat_len3 i L)
        (fun j u hj => by
          have hadd : (⟨g, off, none⟩ : Addr).add j = ⟨g, off + j, none⟩ := by unfold Addr.add; split <;> simp_all
          rw [hadd, q2.cell]
          exact q5 j u hj) ⟨ag, 0, none⟩ 1 1 (cMg i (t, n)) rfl hnews (by omega) (by unfold maxLen; omega) (by omega)
      obtain ⟨g2, cap, rfl, e2, e3⟩ := r2.form (by omega)
      refine ⟨_, _, w', r1, Qu.of (by simpa [hflat] using r2) hb, bx_bl _ ⟨r3.os, r3.tape, r3.output, r3.size, fun k hk => r3.block k hk (by simp)⟩, .inr ⟨g2, rfl, e2⟩⟩
end Go.Proofs.YtbdgblnccjpahaaGreatDoor
namespace Go.Proofs.YtbdgblnccjpahaaGreatDoor
open Go.RowKit Go.Shelf
attribute [local go_sem] bl_al bl_drew bl_drewN bl_refl bx_al bx_drew bx_drewN bx_refl
set_option maxRecDepth 20000
theorem bx_sub {X Y : List Nat} {w W : World} (h : BX X w W) (hs : ∀ g ∈ X, g ∈ Y) : BX Y w W :=
  ⟨h.os, h.tape, h.output, h.size, fun i hi hY => h.block i hi fun hX => hY (hs i hX), fun g hg t cs hk => by
    by_cases hX : g ∈ X
    · exact h.shape g hX t cs hk
    · exact ⟨cs, hk.keep hX h, rfl⟩⟩
theorem wp_qu {o : Oper} {a : Act} {K : Act → World → Prop} {Q : Exit → Act → World → Prop} {w : World} {b i c : Nat} {A : Option Addr} {L : List (Int × Int)} {t n : Int} {ag : Nat} (s x : Operand)
    (ho : o.op = .call { callee := .builtin .append, args := #[s, x], argTypes := #[tMgs, tMgs] }) (hty : o.type = tMgs) (hs : a.eval s = .slice A L.length c) (hx : a.eval x = .slice (some ⟨ag, 0, none⟩) 1 1)
    (h : Qu w b i A c L) (hb : b ≤ w.heap.size) (ka : Blk w ag tMg #[.int .i64 i, .int .i64 t, .int .i64 n]) (hL : L.length ≤ 1000)
    (H : ∀ A' c' w', Qu w' b i A' c' (L ++ [(t, n)]) → BX (blA A) w w' → (blA A' = blA A ∨ ∃ g, blA A' = [g] ∧ w.heap.size ≤ g) → K (a.put o.dst (.slice A' (L.length + 1) c')) w') : o.wp Tryz.prog a w K Q := by
  obtain ⟨A', c', w', hr, h2, h3, h4⟩ := qu_append h hb t n ka hL
  unfold Oper.wp execOp
  simp only [ho, hty, resolve, invoke, builtin, Sem.run_bind, Sem.run_pure, Result.andThen_ok, List.map_toArray, List.map_cons, List.map_nil, hs, hx, hr]
  exact H _ _ _ h2 h3 h4
/-- Where the queues lie. -/
structure QS where
  A : Nat → Option Addr
  c : Nat → Nat
def vQ (Q : QS) (q : Nat → List (Int × Int)) (i : Nat) : Value := .slice (Q.A i) (q i).length (Q.c i)
abbrev tSnd : TypeId := 125
def cSnd (vl vs : Value) (q : Nat → Value) (vw : Value) : Array Value := #[vl, vs, q 0, q 1, q 2, q 3, q 4, q 5, vw]
theorem cSnd_at (vl vs vw : Value) (q : Nat → Value) (i : Nat) (hi : i < 6) : (cSnd vl vs q vw)[2 + i]? = some (q i) := by
  match i, hi with
  | 0, _ => rfl
  | 1, _ => rfl
  | 2, _ => rfl
  | 3, _ => rfl
  | 4, _ => rfl
  | 5, _ => rfl
theorem cSnd_set (vl vs vw v : Value) (q : Nat → Value) (i : Nat) (hi : i < 6) : (cSnd vl vs q vw).setIfInBounds (2 + i) v = cSnd vl vs (upF q i v) vw := by
  match i, hi with
  | 0, _ => rfl
  | 1, _ => rfl
  | 2, _ => rfl
  | 3, _ => rfl
  | 4, _ => rfl
  | 5, _ => rfl
/-- A sender lies in the world: its block, its queues, its worst responses. -/
structure Snd (b S Bw : Nat) (vl vs : Value) (n : Nat) (Q : QS) (s : Ss) (w : World) : Prop where
  blk : Blk w S tSnd (cSnd vl vs (vQ Q s.q) (.slice (some ⟨Bw, 0, none⟩) n n))
  wor : Blk w Bw 3 ((List.range n).map fun i => Value.int .i64 (s.wo i)).toArray
  que : ∀ i, i < 6 → Qu w b i (Q.A i) (Q.c i) (s.q i)
  bS : b ≤ S
  bW : b ≤ Bw
  SW : S ≠ Bw
  dis : ∀ i j, i < 6 → j < 6 → i ≠ j → ∀ g ∈ blA (Q.A i), g ∉ blA (Q.A j)
  dS : ∀ i, i < 6 → S ∉ blA (Q.A i)
  dW : ∀ i, i < 6 → Bw ∉ blA (Q.A i)
theorem Snd.below {b S Bw n : Nat} {vl vs : Value} {Q : QS} {s : Ss} {w w' : World} (h : Snd b S Bw vl vs n Q s w) (hb : Below w.heap.size w w') : Snd b S Bw vl vs n Q s w' :=
  ⟨h.blk.below hb, h.wor.below hb, fun i hi => (h.que i hi).below hb, h.bS, h.bW, h.SW, h.dis, h.dS, h.dW⟩
/-- The blocks of a sender that change. -/
def foot (S Bw : Nat) (Q : QS) : List Nat := S :: Bw :: (List.range 6).flatMap fun i => blA (Q.A i)
theorem foot_q {S Bw : Nat} {Q : QS} {i g : Nat} (hi : i < 6) (h : g ∈ blA (Q.A i)) : g ∈ foot S Bw Q := by
  simp only [foot, List.mem_cons, List.mem_flatMap, List.mem_range]
  exact .inr (.inr ⟨i, hi, h⟩)
/-- A queue that took one message more, and the sender's block that names it. -/
theorem Snd.put {b S Bw n : Nat} {vl vs : Value} {Q : QS} {s : Ss} {w w1 w2 : World} (h : Snd b S Bw vl vs n Q s w) {i : Nat} (hi : i < 6) {A' : Option Addr} {c' : Nat} {L : List (Int × Int)}
    (hq : Qu w1 b i A' c' L) (hb1 : BX (blA (Q.A i)) w w1) (hA : blA A' = blA (Q.A i) ∨ ∃ g, blA A' = [g] ∧ w.heap.size ≤ g) (hw2 : w2 = w1.setCell ⟨S, 2 + i, none⟩ (.slice A' L.length c')) :
    Snd b S Bw vl vs n ⟨upF Q.A i A', upF Q.c i c'⟩ ⟨upF s.q i L, s.wo⟩ w2 ∧ BX (S :: blA (Q.A i)) w w2 := by
  subst hw2
  have hSl := h.blk.lt
  have hWl := h.wor.lt
  have hnew : ∀ g ∈ blA A', g ∈ blA (Q.A i) ∨ w.heap.size ≤ g := fun g hg => by
    rcases hA with e | ⟨g', e, hg'⟩
    · rw [e] at hg; exact .inl hg
    · rw [e] at hg; simp at hg; subst hg; exact .inr hg'
  have hx : BX [S] w1 (w1.setCell ⟨S, 2 + i, none⟩ (.slice A' L.length c')) := bx_set (.inl (by simp)) _ (bx_refl _ _)
  have kS := h.blk.keep (h.dS i hi) hb1
  have hSA' : S ∉ blA A' := fun hm => by
    rcases hnew S hm with hm | hm
    · exact h.dS i hi hm
    · omega
  have hWA' : Bw ∉ blA A' := fun hm => by
    rcases hnew Bw hm with hm | hm
    · exact h.dW i hi hm
    · omega
  refine ⟨⟨?_, (h.wor.keep (h.dW i hi) hb1).keep (by simpa using fun e => h.SW e.symm) hx, fun j hj => ?_, h.bS, h.bW, h.SW, fun j k hj hk hjk g hg => ?_, fun j hj => ?_, fun j hj => ?_⟩, ?_⟩
  · have := kS.set (2 + i) (.slice A' L.length c')
    rw [cSnd_set _ _ _ _ _ i hi] at this
    have e : upF (vQ Q s.q) i (.slice A' L.length c') = vQ ⟨upF Q.A i A', upF Q.c i c'⟩ (upF s.q i L) := by
      funext j
      unfold upF vQ
      split <;> simp_all
    rw [e] at this
    exact this
  · by_cases hji : j = i
    · subst hji
      simp only [upF, if_true]
      exact hq.keep hx (fun g hg => by simp only [List.mem_singleton]; exact fun e => hSA' (e ▸ hg))
    · simp only [upF, if_neg hji]
      exact ((h.que j hj).keep hb1 (fun g hg => h.dis j i hj hi hji g hg)).keep hx (fun g hg => by simp only [List.mem_singleton]; exact fun e => h.dS j hj (e ▸ hg))
  · simp only [upF] at hg ⊢
    have hlt := fun m (hm : m < 6) g hg => ((h.que m hm).ge g hg).2
    by_cases e1 : j = i
    · subst e1
      rw [if_pos rfl] at hg
      rw [if_neg (Ne.symm hjk)]
      intro hm
      rcases hnew g hg with h' | h'
      · exact h.dis _ _ hj hk hjk g h' hm
      · have := hlt k hk g hm; omega
    · rw [if_neg e1] at hg
      by_cases e2 : k = i
      · subst e2
        rw [if_pos rfl]
        intro hm
        rcases hnew g hm with h' | h'
        · exact h.dis _ _ hj hk hjk g hg h'
        · have := hlt j hj g hg; omega
      · rw [if_neg e2]
        exact h.dis j k hj hk hjk g hg
  · simp only [upF]
    split
    · exact hSA'
    · exact h.dS j hj
  · simp only [upF]
    split
    · exact hWA'
    · exact h.dW j hj
  · exact (bx_sub hb1 (fun g hg => by simp [hg])).trans (bx_sub hx (by simp))
end Go.Proofs.YtbdgblnccjpahaaGreatDoor
