/-
  Walks: the error of bytes, and their remainder.
  Walks: which streams are valid.
  Walk: streams as a string.
  Walks: the check of names, one after the other; ascending indexes.
  A region that draws its order, in whatever order, of which one operation (m) may turn some old blocks (M) that no other operation looks at; nothing is stored behind it.
-/
import Derived.Test.YtbdgblnccjpahaaGreatDoorU5
import Derived.Test.YtbdgblnccjpahaaGreatDoorU6
import Derived.Maps.OwnSet
import Derived.Carry
import Derived.Laws.EntriesVeiled
import Derived.Test.YtbdgblnccjpahaaGreatDoorU4
set_option linter.unusedSimpArgs false
set_option linter.unusedVariables false
namespace Go.Proofs.YtbdgblnccjpahaaGreatDoor
open Go.RowKit Go.Shelf
attribute [local go_sem] bl_al bl_drew bl_drewN bl_refl
set_option maxRecDepth 20000
theorem Same.ret {v : Value} {w w' : World} {e : Ending} (h : Same v w e w') : Ret v w e w' := by
  obtain ⟨rfl, rfl⟩ := h
  exact ⟨rfl, bl_refl w⟩
theorem c_bytesErr1 (k x : Int) (w : World) : Calls Tryz.prog 132 #[.int .i64 k, .int .i64 x] w (Same (.int .i64 (unl (byteB x) 2)) w) := by
  go_enter Tryz.func132, Tryz.ntmps132
  go_wp2_with (first | (go_at_call 130; (with_reducible refine (c_isByte _ _).mono ?_); rintro e w3 ⟨rfl, rfl⟩) | (go_at_call 58; (with_reducible refine (c_unless _ _ _).mono ?_); rintro e w3 ⟨rfl, rfl⟩))
  go_ret
  exact ⟨rfl, rfl⟩
theorem c_bytesErr (l : List Int) (A : Option Addr) (c : Nat) (w : World) (hl : l.length ≤ 1000000) (hr : Sl cI 1 w A l) : Calls Tryz.prog 80 #[.slice A l.length c] w (Ret (.int .i64 (bytesE l)) w) := by
  have hcall := Lib.hid (c_eachI 132 #[] (fun _ n => unl (byteB n) 2) A l c w hl (enters_of Tryz.func132 (by kernel_rfl) rfl) (fun k x _ W _ => (c_bytesErr1 k x W).mono fun _ _ h => h.ret) hr)
  have he : Hid ((eachS (fun _ n => unl (byteB n) 2) l 0).2 = bytesE l) := rfl
  clear hr
  generalize l.length = n at *
  go_enter Tryz.func80, Tryz.ntmps80
  go_wp2_with fail
  refine hcall.out.mono ?_
  rintro e w3 ⟨rfl, hb3⟩
  go_wp2
  go_ret
  exact ⟨by rw [he.out] <;> rfl, hb3⟩
theorem i64_xor (a b : Nat) (ha : a < 1024) (hb : b < 1024) : bits .xor .i64 (a : Int) (b : Int) = ((a ^^^ b : Nat) : Int) := by
  have hx : a ^^^ b < 2 ^ 10 := Nat.xor_lt_two_pow ha hb
  have h1 : (BitVec.ofInt 64 (a : Int)).toNat = a := by
    rw [BitVec.ofInt_natCast, BitVec.toNat_ofNat]; exact Nat.mod_eq_of_lt (by omega)
  have h2 : (BitVec.ofInt 64 (b : Int)).toNat = b := by
    rw [BitVec.ofInt_natCast, BitVec.toNat_ofNat]; exact Nat.mod_eq_of_lt (by omega)
  show IntKind.i64.wrap ((BitVec.ofInt 64 (a : Int) ^^^ BitVec.ofInt 64 (b : Int)).toNat : Int) = _
  rw [BitVec.toNat_xor, h1, h2]
  exact IntWalk.i64_in _ (by omega)
theorem crcK_succ : ∀ (k r : Nat), crcK (k + 1) r = crc1 (crcK k r)
  | 0, _ => rfl
  | k + 1, r => crcK_succ k (crc1 r)
theorem crc_hi {s : Nat} (hs : s < 256) (h : 256 ≤ 2 * s) : bits .xor .i64 ((s : Int) * 2) 263 = ((crc1 s : Nat) : Int) := by
  have := i64_xor (2 * s) 263 (by omega) (by omega)
  rw [show ((2 * s : Nat) : Int) = (s : Int) * 2 by omega, show ((263 : Nat) : Int) = 263 from rfl] at this
  rw [this]
  unfold crc1
  rw [if_pos h]
theorem crc_lo {s : Nat} (h : ¬ 256 ≤ 2 * s) : ((s : Int) * 2) = ((crc1 s : Nat) : Int) := by
  unfold crc1
  rw [if_neg h]
  omega
set_option maxHeartbeats 2000000 in
theorem c_remainder (l : List Int) (A : Option Addr) (c : Nat) (w : World) (hl : l.length ≤ 1000000) (hb : ∀ n ∈ l, 0 ≤ n ∧ n ≤ 255) (hr : Sl cI 1 w A l) : Calls Tryz.prog 78 #[.slice A l.length c] w (Same (.int .i64 (remI l : Nat)) w) := by
  have Hr := Lib.hid hr
  clear hr
  have hlast : Hid (remN ((l.map Int.toNat).take l.length) 0 = remI l) := by rw [List.take_of_length_le (by simp)]; exact Lib.hid rfl
  have hstep : Hid (∀ k x, l[k]? = some x → remN ((l.map Int.toNat).take (k + 1)) 0 = crcK 8 (remN ((l.map Int.toNat).take k) 0 ^^^ x.toNat)) := fun k x hx => by
    rw [List.take_add_one, List.getElem?_map, hx]
    exact remN_snoc _ _ _
  have hlt : Hid (∀ k, remN ((l.map Int.toNat).take k) 0 < 256) := fun k => remN_lt _ (by decide) fun n hn => by
    obtain ⟨m, hm, rfl⟩ := List.mem_map.1 (List.mem_of_mem_take hn)
    have := hb m hm
    omega
  have hbd := Lib.hid fun k x (hx : l[k]? = some x) => hb x (List.mem_of_getElem? hx)
  have h0 : Hid (remN ((l.map Int.toNat).take 0) 0 = 0) := rfl
  generalize (fun k => remN ((l.map Int.toNat).take k) 0) = R at *
  obtain ⟨R, hR⟩ : ∃ R : Nat → Nat, ∀ k, remN ((l.map Int.toNat).take k) 0 = R k := ⟨_, fun _ => rfl⟩
  simp only [hR] at hlast hstep hlt h0
  clear hR hb
  obtain ⟨n, Hn⟩ : ∃ n, Hid (l.length = n) := ⟨_, rfl⟩
  rw [Hn.out] at hl hlast ⊢
  go_enter Tryz.func78, Tryz.ntmps78
  go_wp2
  go_loop [3, 8] (fun r i => ∃ k : Nat, k ≤ n ∧ i = .int .i64 k ∧ r = .int .i64 (R k : Nat)) (fun _ i => n - (intOf i).toNat)
  case atStart => exact ⟨0, Nat.zero_le _, rfl, by rw [h0.out]; rfl⟩
  case round =>
    obtain ⟨k, hk, rfl, rfl⟩ := hrel
    by_cases hltn : k < n
    · have hx : l[k]? = some (l[k]'(by rw [Hn.out]; exact hltn)) := List.getElem?_eq_getElem _
      generalize l[k]'(by rw [Hn.out]; exact hltn) = x at hx
      obtain ⟨b, off, rfl, hc⟩ := Hr.out k x hx
      have c0 : w.cell? ⟨b, off + k, none⟩ = some (.int .i64 x) := by simpa using hc 0 _ rfl
      clear hc
      have hbx := hbd.out k x hx
      obtain ⟨m, rfl⟩ : ∃ m : Nat, x = m := ⟨x.toNat, by omega⟩
      have hRk := hlt.out k
      have hxor := i64_xor (R k) m (by omega) (by omega)
      have hs := hstep.out k m hx
      have hb8 := xor_byte hRk (show m < 256 by omega)
      rw [Int.toNat_natCast] at hs
      replace hs := Lib.hid hs
      generalize hy : R k ^^^ m = y at *
      replace hxor := Lib.hid hxor
      clear hy hx
      go_wp2_with (simp only [hxor.out])
      go_loop [3, 15] (fun r i => ∃ j : Nat, j ≤ 8 ∧ i = .int .i64 j ∧ r = .int .i64 (crcK j y : Nat)) (fun _ i => 8 - (intOf i).toNat)
      case atStart => exact ⟨0, by omega, rfl, rfl⟩
      case round =>
        obtain ⟨j, hj, rfl, rfl⟩ := hrel
        by_cases hj8 : j < 8
        · have hs1 := crcK_lt j hb8
          have hsc := Lib.hid (crcK_succ j y)
          generalize hg : crcK j y = s at *
          replace hg := Lib.hid hg
          by_cases h2 : 256 ≤ 2 * s
          · have e := Lib.hid (crc_hi hs1 h2)
            go_wp2_with (simp only [e.out])
            go_round
            case rel => exact ⟨j + 1, by omega, by go_num, by rw [hsc.out]⟩
            case measure => simp [intOf]; omega
          · have e := Lib.hid (crc_lo h2)
            go_wp2
            go_round
            case rel => exact ⟨j + 1, by omega, by go_num, by rw [hsc.out, ← e.out]⟩
            case measure => simp [intOf]; omega
        · have : j = 8 := by omega
          subst this
          go_wp2
          go_round
          case rel => exact ⟨k + 1, by omega, by go_num, by rw [hs.out]⟩
          case measure => simp [intOf]; omega
    · go_wp2
      go_ret
      have : k = n := by omega
      exact ⟨by rw [this, hlast.out] <;> rfl, rfl⟩
end Go.Proofs.YtbdgblnccjpahaaGreatDoor
namespace Go.Proofs.YtbdgblnccjpahaaGreatDoor
open Go.RowKit Go.Shelf
attribute [local go_sem] bl_al bl_drew bl_drewN bl_refl bx_al bx_drew bx_drewN bx_refl
set_option maxRecDepth 20000
/-- Streams lie where the header of their slice says; so many at most. -/
structure SmIn (l : List Sm) (A : Option Addr) (c : Nat) (w : World) : Prop where
  len : l.length ≤ 1000
  cap : l.length ≤ c
  nm : ∀ s ∈ l, s.name.size ≤ maxLen
  sl : Sl cSm 4 w A l
theorem SmIn.below {l : List Sm} {A : Option Addr} {c : Nat} {w w' : World} (h : SmIn l A c w) (hb : Below w.heap.size w w') : SmIn l A c w' := ⟨h.len, h.cap, h.nm, h.sl.below hb⟩
theorem c_smNm (x : Sm) (nm : ByteArray) (B : Nat) (w : World) (hB : w.cell? ⟨B, 0, none⟩ = some (.string nm)) :
    Calls Tryz.prog 99 #[vSm x, .pointer (some ⟨B, 0, none⟩)] w (Ret (.bool (x.name.toList == nm.toList)) w) := by
  have hB' := later hB
  have hlt := World.block_lt_of_cell? w _ hB
  clear hB
  have hn : B ≠ w.heap.size := Nat.ne_of_lt hlt
  go_enter Tryz.func99, Tryz.ntmps99
  go_wp2
  go_ret
  exact ⟨rfl, by solve_by_elim (maxDepth := 60) only [bl_al, bl_drew, bl_drewN, bl_refl, *]⟩
set_option maxHeartbeats 2000000 in
theorem c_smErr (l : List Sm) (A : Option Addr) (c B i : Nat) (x : Sm) (w : World) (hi : l[i]? = some x) (hl : l.length ≤ 1000000) (hcap : l.length ≤ c) (hx : x.name.size ≤ maxLen)
    (hc : w.cell? ⟨B, 0, none⟩ = some (.slice A l.length c)) (hs : Sl cSm 4 w A l) :
    Calls Tryz.prog 97 #[.int .i64 (i : Nat), vSm x, .pointer (some ⟨B, 0, none⟩)] w (Ret (.int .i64 (smErr l i x)) w) := by
  have hlt := World.block_lt_of_cell? w _ hc
  have hc' := later hc
  have hn : B ≠ w.heap.size := Nat.ne_of_lt hlt
  have hil : i < l.length := (List.getElem?_eq_some_iff.1 hi).1
  clear hc
  have Hs := Lib.hid hs
  clear hs
  generalize hnl : l.length = nl at *
  have Hnl := Lib.hid hnl
  clear hnl
  have htake : Hid ((l.take i).length = i) := by rw [List.length_take, Hnl.out]; exact Nat.min_eq_left (by omega)
  have hc1 : Hid (∀ W : World, Below w.heap.size w W → W.cell? ⟨w.heap.size, 0, none⟩ = some (.string x.name) →
      Calls Tryz.prog 98 #[.slice A i c, .func (.func 99) #[] #[.pointer (some ⟨w.heap.size, 0, none⟩)]] W (Ret (.bool (knownB ((l.take i).map (·.name)) x.name)) W)) := by
    intro W hW hcl
    have := c_ContainsFuncS 99 #[.pointer (some ⟨w.heap.size, 0, none⟩)] (fun o => o.name.toList == x.name.toList) A (l.take i) c W (by rw [htake.out]; omega)
      (enters_of Tryz.func99 (by kernel_rfl) rfl) (fun y _ W' hb => c_smNm y _ _ W' (kcell hb hcl)) ((Hs.out.below hW).take i)
    rw [htake.out] at this
    rwa [knownB, List.any_map]
  have hres : Hid (smErr l i x = fstE [unl (nameB x.name) 4, unl (!knownB ((l.take i).map (·.name)) x.name) 5, unl (inR x.per 1 60 && (inR x.dl 1 x.per && inR x.len 1 20)) 2]) := rfl
  generalize knownB ((l.take i).map (·.name)) x.name = kn at *
  cases hA : inR x.per 1 60
  all_goals cases hB : inR x.dl 1 x.per
  all_goals
    rw [hA, hB] at hres
    simp only [Bool.false_and, Bool.true_and, Bool.and_false] at hres
    go_enter Tryz.func97, Tryz.ntmps97
    go_wp2_with fail
    refine (hc1.out _ (bl_al _ (bl_refl _)) (by simp [go_sem])).mono ?_
    rintro e wb ⟨rfl, hb3⟩
    have k0 := ((Blk.new w 43 #[.string x.name, .int .i64 x.per, .int .i64 x.dl, .int .i64 x.len]).below hb3).later
    replace hb3 := bl_tt hb3
    have hcur := bl_refl wb
    go_wp2_with (first | (go_at_call 71; (with_reducible refine (c_within _ _ _ _).mono ?_); rintro e w3 ⟨rfl, rfl⟩) | (go_at_call 100; (with_reducible refine (c_isName x.name _ hx).mono ?_); rintro e w3 ⟨rfl, rfl⟩) | (go_at_call 58; (with_reducible refine (c_unless _ _ _).mono ?_); rintro e w3 ⟨rfl, rfl⟩) | (go_at_call 74; (with_reducible refine (c_first3 (Blk.new _ _ _)).mono ?_); rintro e w3 ⟨rfl, rfl⟩))
    go_ret
    exact ⟨by rw [hres.out] <;> rfl, by solve_by_elim (maxDepth := 60) only [bl_al, bl_drew, bl_drewN, bl_refl, *]⟩
set_option maxHeartbeats 4000000 in
theorem c_CheckStreams (l : List Sm) (A : Option Addr) (c : Nat) (w : World) (hn : SmIn l A c w) :
    Calls Tryz.prog 41 #[.slice A l.length c] w (Ret (.tuple #[.int .i64 (smsChk l).1, .int .i64 (smsChk l).2]) w) := by
  have Hn := Lib.hid hn
  have hlen := hn.len
  clear hn
  have hev := Lib.hid fun (W : World) (hb : Below w.heap.size w W) (hB : W.cell? ⟨w.heap.size, 0, none⟩ = some (.slice A l.length c)) =>
    c_eachS 97 #[.pointer (some ⟨w.heap.size, 0, none⟩)] (smErr l) A l c W (by have := Hn.out.len; omega) (enters_of Tryz.func97 (by kernel_rfl) rfl)
      (fun k x hx W' hb' => c_smErr l A c _ k x W' hx (by have := Hn.out.len; omega) Hn.out.cap (Hn.out.nm x (List.mem_of_getElem? hx)) (kcell hb' hB) ((Hn.out.sl.below hb).below hb'))
      (Hn.out.sl.below hb)
  have hres : Hid ((lenE l.length 6 = 0 → smsChk l = eachS (smErr l) l 0) ∧ (lenE l.length 6 ≠ 0 → smsChk l = (0, lenE l.length 6))) := ⟨fun h => by rw [smsChk, if_pos h], fun h => by rw [smsChk, if_neg h]⟩
  have hwe : Hid (lenE l.length 6 = fstE [unl (decide (0 < l.length)) 10, unl (decide ((l.length : Int) ≤ 6)) 8]) := rfl
  generalize l.length = nl at *
  go_enter Tryz.func41, Tryz.ntmps41
  go_wp2
  first
  | apply absB1 (w0 := w) (g0 := w.heap.size)
  | apply absTB1 (w0 := w) (g0 := w.heap.size)
  | apply absIB1 (w0 := w) (g0 := w.heap.size)
  iterate 2 (focus exact zL)
  try clear hb3
  try clear hb0
  try clear k0
  intro wa hb0 k0
  (try simp only [List.setIfInBounds_toArray, List.set_cons_zero, List.set_cons_succ] at k0)
  have Lk0 := k0.later
  have Fk0 := k0.laterF
  have Qk0 := k0.lt
  refine wp_any (w0 := wa) ⟨[], [], [some 5, some 6, some 7, some 8, some 9, some 10, some 11, some 12, some 13, some 14, some 4], [[], [0], [0, 1], [0, 1, 2], [], [4], [4, 5], [0, 1, 2, 3, 4, 5, 6], [0, 1, 2, 3, 4, 5, 6, 7], [0, 1, 2, 3, 4, 5, 6, 7, 8], [0, 1, 2, 3, 4, 5, 6, 7, 8, 9]], [[], [0], [1], [2], [], [4], [5], [6], [3, 7], [8], [8, 9]]⟩ (fun _ => []) (by kernel_rfl) (by kernel_rfl) (by (exact zE)) (fun u => by simp only [putD, Act.put, List.setIfInBounds_toArray, List.set_cons_zero, List.set_cons_succ, Nat.zero_add, Nat.reduceAdd]; rfl) ?_
  apply RGW.on (i := 0) rfl
  · exact zG
  · intro γ u W hcur hd
    clear hd
    (try dsimp only)
    exact ⟨rfl, zS⟩
  · exact zC
  · rfl
  dsimp only [nA, cA]
  apply RGW.on (i := 1) rfl
  · exact zG
  · intro γ u W hcur hd
    obtain ⟨⟨h0, -, -⟩, -⟩ := hd
    dsimp only at h0
    (try simp only [h0])
    exact ⟨rfl, zS⟩
  · exact zC
  · rfl
  dsimp only [nA, cA]
  apply RGW.on (i := 2) rfl
  · exact zG
  · intro γ u W hcur hd
    obtain ⟨⟨h1, -, -⟩, -⟩ := hd
    dsimp only at h1
    (try simp only [h1])
    exact ⟨rfl, zS⟩
  · exact zC
  · rfl
  dsimp only [nA, cA]
  apply RGW.call (i := 3) rfl
  · exact zG
  · intro γ u W hcur hd
    obtain ⟨⟨h2, -, -⟩, -⟩ := hd
    dsimp only at h2
    (try simp only [h2])
    refine ⟨rfl, fun K hK => ?_⟩
    go_simp
    first
    | (go_at_call 58; (with_reducible refine (c_unless _ _ _).mono ?_); rintro e w3 ⟨rfl, rfl⟩)
    | (go_at_call 74; (with_reducible refine (c_first2 (by (exact zK))).mono ?_); rintro e w3 ⟨rfl, rfl⟩)
    (try dsimp only)
    exact hK.out _ _ rfl (by (exact zE))
  · exact zC
  · rfl
  dsimp only [nA, cA]
  apply RGW.on (i := 4) rfl
  · exact zG
  · intro γ u W hcur hd
    clear hd
    (try dsimp only)
    exact ⟨rfl, zS⟩
  · exact zC
  · rfl
  dsimp only [nA, cA]
  apply RGW.on (i := 5) rfl
  · exact zG
  · intro γ u W hcur hd
    obtain ⟨⟨h4, -, -⟩, -⟩ := hd
    dsimp only at h4
    (try simp only [h4])
    exact ⟨rfl, zS⟩
  · exact zC
  · rfl
  dsimp only [nA, cA]
  apply RGW.on (i := 6) rfl
  · exact zG
  · intro γ u W hcur hd
    obtain ⟨⟨h5, -, -⟩, -⟩ := hd
    dsimp only at h5
    (try simp only [h5])
    exact ⟨rfl, zS⟩
  · exact zC
  · rfl
  dsimp only [nA, cA]
  apply RGW.call (i := 7) rfl
  · exact zG
  · intro γ u W hcur hd
    obtain ⟨⟨h6, -, -⟩, -⟩ := hd
    dsimp only at h6
    (try simp only [h6])
    refine ⟨rfl, fun K hK => ?_⟩
    go_simp
    first
    | (go_at_call 58; (with_reducible refine (c_unless _ _ _).mono ?_); rintro e w3 ⟨rfl, rfl⟩)
    | (go_at_call 74; (with_reducible refine (c_first2 (by (exact zK))).mono ?_); rintro e w3 ⟨rfl, rfl⟩)
    (try dsimp only)
    exact hK.out _ _ rfl (by (exact zE))
  · exact zC
  · rfl
  dsimp only [nA, cA]
  apply RGW.bslice (i := 8) rfl
  · exact zG
  · intro γ u W hcur hd
    obtain ⟨⟨h3, -, -⟩, ⟨h7, -, -⟩, -⟩ := hd
    dsimp only at h3 h7
    (try simp only [h3, h7])
    refine ⟨rfl, fun K hK => ?_⟩
    go_simp
    exact hK.out _ _ rfl rfl
  · exact zC
  · rfl
  · rfl
  dsimp only [nA, cA]
  apply RGW.call (i := 9) rfl
  · exact zG
  · intro γ u W hcur hd
    obtain ⟨⟨h8, r8, -⟩, -⟩ := hd
    dsimp only at h8 r8
    have L8 := r8.cell
    (try simp only [h8])
    refine ⟨rfl, fun K hK => ?_⟩
    go_simp
    first
    | (go_at_call 58; (with_reducible refine (c_unless _ _ _).mono ?_); rintro e w3 ⟨rfl, rfl⟩)
    | (go_at_call 74; (with_reducible refine (c_first2 (by (exact zK))).mono ?_); rintro e w3 ⟨rfl, rfl⟩)
    (try dsimp only)
    exact hK.out _ _ rfl (by (exact zE))
  · first
    | exact zC
    | intro γ γ' hg
      try dsimp only
      have e8 := hg 8 (by decide)
      simp only [e8]
  · rfl
  dsimp only [nA, cA]
  apply RGW.on (i := 10) rfl
  · exact zG
  · intro γ u W hcur hd
    obtain ⟨⟨h8, r8, -⟩, ⟨h9, -, -⟩, -⟩ := hd
    dsimp only at h8 h9 r8
    have L8 := r8.cell
    (try simp only [h8, h9])
    exact ⟨rfl, zS⟩
  · first
    | exact zC
    | intro γ γ' hg
      try dsimp only
      have e8 := hg 8 (by decide)
      simp only [e8]
  · rfl
  dsimp only [nA, cA]
  refine RGW.fin (fun γ u wb hwb hd hdis => ?_)
  obtain ⟨⟨h0, -, -⟩, ⟨h1, -, -⟩, ⟨h2, -, -⟩, ⟨h3, -, -⟩, ⟨h4, -, -⟩, ⟨h5, -, -⟩, ⟨h6, -, -⟩, ⟨h7, -, -⟩, ⟨h8, r8, b8⟩, ⟨h9, -, -⟩, ⟨h10, -, -⟩, -⟩ := hd
  dsimp only at h0 h1 h2 h3 h4 h5 h6 h7 h8 h9 h10 r8 b8
  clear hdis
  simp only [h0, h1, h2, h3, h4, h5, h6, h7, h8, h9, h10]
  clear h10 h9 h8 h7 h6 h5 h4 h3 h2 h1 h0
  replace b8 := b8 _ (List.mem_singleton.2 rfl)
  generalize hγ8 : (γ 8).n = g8 at *
  clear hγ8
  clear u
  simp only [List.map_nil]
  refine PlanW.done ?_
  have hb3 := bl_tt hwb
  rw [← hwe.out]
  have hbw := hb3 _ hb0
  generalize lenE nl 6 = we at *
  by_cases h0 : we = 0
  · have h0' : (we != 0) = false := by simp [h0]
    replace h0 := Lib.hid h0
    go_wp2_with fail
    refine Calls.mono (hev.out _ ?_ ?_) ?_
    · (exact zE)
    · exact Lk0 _ (by (exact zE)) 0
    rintro e w3 ⟨rfl, hb3⟩
    replace hb3 := bl_tt hb3
    go_wp2
    go_ret2
    exact ⟨by rw [hres.out.1 h0.out] <;> rfl, hb3 _ hbw⟩
  · have h0' : (we != 0) = true := by simp [h0]
    replace h0 := Lib.hid h0
    go_wp2
    go_ret2
    exact ⟨by rw [hres.out.2 h0.out] <;> rfl, hbw⟩
theorem c_streamsErr (l : List Sm) (A : Option Addr) (c : Nat) (w : World) (hn : SmIn l A c w) : Calls Tryz.prog 56 #[.slice A l.length c] w (Ret (.int .i64 (smsErr l)) w) := by
  have hcall := Lib.hid (c_CheckStreams l A c w hn)
  have he : Hid ((smsChk l).2 = smsErr l) := rfl
  clear hn
  generalize l.length = n at *
  go_enter Tryz.func56, Tryz.ntmps56
  go_wp2_with fail
  refine hcall.out.mono ?_
  rintro e w3 ⟨rfl, hb3⟩
  go_wp2
  go_ret
  exact ⟨by rw [he.out] <;> rfl, hb3⟩
end Go.Proofs.YtbdgblnccjpahaaGreatDoor
namespace Go.Proofs.YtbdgblnccjpahaaGreatDoor
open Go.RowKit Go.Shelf
attribute [local go_sem] bl_al bl_drew bl_drewN bl_refl bx_al bx_drew bx_drewN bx_refl
set_option maxRecDepth 20000
theorem ba_app (a b : ByteArray) : a ++ b = ⟨(a.data.toList ++ b.data.toList).toArray⟩ := by
  apply ByteArray.ext
  simp
/-- A stream as a string, and streams. -/
def fmtSm (s : Sm) : List UInt8 := s.name.data.toList ++ [32] ++ Lib.join (itoas [s.per, s.dl, s.len]) [32]
def fmtSms (l : List Sm) : List UInt8 := Lib.join (l.map fmtSm) [59]
theorem fmtSm_len (s : Sm) (h : s.name.size ≤ 1000) (h1 : Fits s.per) (h2 : Fits s.dl) (h3 : Fits s.len) : (fmtSm s).length ≤ 2000 := by
  have := join_len (itoas [s.per, s.dl, s.len]) [32] 21 (fun x hx => by
    simp [itoas] at hx
    rcases hx with rfl | rfl | rfl
    · exact Lib.itoa_length_le _ h1.1 h1.2
    · exact Lib.itoa_length_le _ h2.1 h2.2
    · exact Lib.itoa_length_le _ h3.1 h3.2)
  have hn : s.name.data.toList.length = s.name.size := rfl
  simp [fmtSm, itoas] at this ⊢
  omega
set_option maxHeartbeats 4000000 in
theorem c_FormatStreams (l : List Sm) (A : Option Addr) (c : Nat) (w : World) (hs : Sl cSm 4 w A l) (hl : l.length ≤ 1000) (hn : ∀ s ∈ l, s.name.size ≤ 1000 ∧ Fits s.per ∧ Fits s.dl ∧ Fits s.len) (hE : Env w) :
    Calls Tryz.prog 16 #[.slice A l.length c] w (Ret (.string ⟨(fmtSms l).toArray⟩) w) := by
  obtain ⟨i0, hi, hz0, hz1, hz2⟩ := info_parts infoStr
  have Hs := Lib.hid hs
  have HE := Lib.hid fun W (hb : Below w.heap.size w W) => hE.below hb
  have hjl : (fmtSms l).length ≤ 140737488355328 := by
    have := join_len (l.map fmtSm) [59] 2000 (fun x hx => by
      obtain ⟨s, hs, rfl⟩ := List.mem_map.1 hx
      obtain ⟨h0, h1, h2, h3⟩ := hn s hs
      exact fmtSm_len s h0 h1 h2 h3)
    simp at this
    unfold fmtSms
    omega
  have hJ := Lib.hid fun A' c' W h hc => c_JoinB (l.map fmtSm) [59] A' c' W h hc (by simp; omega) hjl
  have hjo := Lib.hid fun (s : Sm) (hm : s ∈ l) A' c' W (h : Sl cI 1 W A' [s.per, s.dl, s.len]) (hW : Env W) => c_joined [s.per, s.dl, s.len] 32 A' c' W h (by simp) (fun n hx => by
    obtain ⟨h0, h1, h2, h3⟩ := hn s hm
    simp at hx
    rcases hx with rfl | rfl | rfl
    · exact h1
    · exact h2
    · exact h3) hW
  have h0 : Hid ((l.take 0).map fmtSm = []) := rfl
  have hst := Lib.hid fun k s (h : l[k]? = some s) => (show (l.take (k + 1)).map fmtSm = (l.take k).map fmtSm ++ [s.name.data.toList ++ [32] ++ Lib.join (itoas [s.per, s.dl, s.len]) [32]] by rw [List.take_add_one, h]; simp [fmtSm])
  have hend : Hid ((l.take l.length).map fmtSm = l.map fmtSm) := Lib.hid (by rw [List.take_length])
  have hlen : Hid ((l.map fmtSm).length = l.length) := Lib.hid (by simp)
  clear hs hE hjl
  obtain ⟨g, hg⟩ : ∃ g : Nat → List (List UInt8), ∀ k, (l.take k).map fmtSm = g k := ⟨_, fun _ => rfl⟩
  simp only [hg] at h0 hst hend
  clear hg
  have hF : Hid (Lib.join (l.map fmtSm) [59] = fmtSms l) := rfl
  rw [hF.out] at hJ
  clear hF
  generalize fmtSms l = J at *
  generalize l.map fmtSm = S at *
  obtain ⟨n, Hn⟩ : ∃ n, Hid (l.length = n) := ⟨_, rfl⟩
  rw [Hn.out] at hl hend hlen ⊢
  rw [hlen.out] at hJ
  go_enter Tryz.func16, Tryz.ntmps16
  go_wp2
  go_loopw [3, 8] (fun v i wr => ∃ k : Nat, k ≤ n ∧ i = .int .i64 k ∧ Below w.heap.size w wr ∧ wr.ownsRow w.heap.size 9 1 v k ((g k).flatMap cB)) (fun _ i _ => n - (intOf i).toNat)
  case atStart => exact ⟨0, Nat.zero_le _, rfl, bl_refl _, by rw [h0.out]; exact World.ownsRow_nil _ _ _ _⟩
  case round =>
    obtain ⟨k, hk, rfl, hb0, ho⟩ := hrel
    obtain ⟨vA, vc, rfl⟩ := own_slice ho
    replace ho := Lib.hid ho
    by_cases hkn : k < n
    rotate_left
    · obtain rfl : n = k := by omega
      rw [hend.out] at ho
      have hsl : Sl cB 1 wr vA S := own_slC (cs := cB) (fun _ => rfl) (by decide) (by rw [hlen.out]; exact ho.out)
      have hcap : n ≤ vc := by
        rcases ho.out.2 with ⟨h, -⟩ | ⟨_, _, _, e, _, _, h, _⟩
        · injection h with _ h1 h2
          omega
        · injection e with _ _ e
          omega
      go_wp2_with fail
      refine (hJ.out _ _ _ hsl hcap).mono ?_
      rintro e w1 ⟨rfl, hb1⟩
      go_wp2
      go_ret
      exact ⟨rfl, bl_tr hb0 hb1⟩
    have hx : l[k]? = some (l[k]'(by rw [Hn.out]; exact hkn)) := List.getElem?_eq_getElem _
    generalize l[k]'(by rw [Hn.out]; exact hkn) = x at hx
    have hgn := Lib.hid (hst.out k x hx)
    have hjx := Lib.hid (hjo.out x (List.mem_of_getElem? hx))
    have hjx2 := Lib.hid (hn x (List.mem_of_getElem? hx)).1
    have hjx3 := Lib.hid (by obtain ⟨q0, q1, q2, q3⟩ := hn x (List.mem_of_getElem? hx); exact fmtSm_len x q0 q1 q2 q3)
    obtain ⟨b, off, rfl, hc⟩ := Hs.out k x hx
    obtain ⟨nm, per, dl, ln⟩ := x
    dsimp only at hgn hjx hjx2
    change Hid ((nm.data.toList ++ [32] ++ Lib.join (itoas [per, dl, ln]) [32]).length ≤ 2000) at hjx3
    have c0 : wr.cell? ⟨b, off + k * 4, none⟩ = some (.string nm) := by simpa using kcell hb0 (hc 0 _ rfl)
    have c1 := kcell hb0 (hc 1 _ rfl)
    have c2 := kcell hb0 (hc 2 _ rfl)
    have c3 := kcell hb0 (hc 3 _ rfl)
    have hkn2 : (k : Int) < n := by omega
    clear hc hx
    go_upto_region 5 with fail
    have k5 := Blk.new wr 43 #[.string nm, .int .i64 per, .int .i64 dl, .int .i64 ln]
    have hbA := bl_al (.cells #[.string nm, .int .i64 per, .int .i64 dl, .int .i64 ln] 43) (bl_refl wr)
    replace hb0 := bl_tr hb0 hbA
    replace ho := Lib.hid (own_below ho.out hbA)
    generalize hg5 : wr.heap.size = g5 at *
    generalize wr.alloc (.cells #[.string nm, .int .i64 per, .int .i64 dl, .int .i64 ln] 43) = wA at *
    clear hbA hg5 c0 c1 c2 c3
    have HEA := Lib.hid fun W (h : Below wA.heap.size wA W) => HE.out W (bl_tr hb0 h)
    obtain ⟨J5, HJ5⟩ : ∃ z, Hid (Lib.join (itoas [per, dl, ln]) [32] = z) := ⟨_, rfl⟩
    rw [HJ5.out] at hgn hjx3
    have hs1 : ¬ 9223372036854775807 < nm.size + 1 := by have := hjx2.out; omega
    have hs2 : ¬ 9223372036854775807 < nm.size + 1 + J5.length := by have := hjx2.out; have h3 := hjx3.out; simp only [List.length_append] at h3; omega
    have hjx' : Hid (∀ (A' : Option Addr) (c' : Nat) (W : World), Sl cI 1 W A' [per, dl, ln] → Env W → Calls Tryz.prog 62 #[.slice A' 3 c', .string ⟨#[32]⟩] W (Ret (.string ⟨J5.toArray⟩) W)) := fun A' c' W h1 h2 => by
      have := hjx.out A' c' W h1 h2
      rw [HJ5.out] at this
      exact this
    clear hjx
    have hL5 := k5.later
    have hszA := hb0.size
    have hDx : w.heap.size ≤ wA.heap.size := hb0.size
    refine wp_any (w0 := wA) ⟨[14, 15], [], [some 12, some 13, some 14, some 15, some 16, some 17, some 18, some 19, some 20, some 21, some 22, some 23, some 24, some 25, none, none], [[], [], [1], [1, 2], [], [4], [], [6], [], [8], [4, 5, 6, 7, 8, 9], [4, 5, 6, 7, 8, 9, 10], [1, 2, 3, 4, 5, 6, 7, 8, 9, 10, 11], [1, 2, 3, 4, 5, 6, 7, 8, 9, 10, 11, 12], [0, 1, 2, 3, 4, 5, 6, 7, 8, 9, 10, 11, 12, 13], [0, 1, 2, 3, 4, 5, 6, 7, 8, 9, 10, 11, 12, 13, 14]], [[], [], [1], [2], [], [4], [], [6], [], [8], [5, 7, 9], [10], [3, 10, 11], [10, 12], [], []]⟩ (fun _ => ownL (.slice vA k vc)) (by kernel_rfl) (by kernel_rfl) (by (exact zE)) (fun u => by simp only [putD, Act.put, List.setIfInBounds_toArray, List.set_cons_zero, List.set_cons_succ, Nat.zero_add, Nat.reduceAdd]; rfl) ?_
    apply RGW.on (i := 0) rfl
    · exact zG
    · intro γ u W hcur hd
      clear hd
      (try dsimp only)
      exact ⟨rfl, zS⟩
    · exact zC
    · rfl
    dsimp only [nA, cA]
    apply RGW.on (i := 1) rfl
    · exact zG
    · intro γ u W hcur hd
      clear hd
      (try dsimp only)
      exact ⟨rfl, zS⟩
    · exact zC
    · rfl
    dsimp only [nA, cA]
    apply RGW.on (i := 2) rfl
    · exact zG
    · intro γ u W hcur hd
      obtain ⟨⟨h1, -, -⟩, -⟩ := hd
      dsimp only at h1
      (try simp only [h1])
      exact ⟨rfl, zS⟩
    · exact zC
    · rfl
    dsimp only [nA, cA]
    apply RGW.on (i := 3) rfl
    · exact zG
    · intro γ u W hcur hd
      obtain ⟨⟨h2, -, -⟩, -⟩ := hd
      dsimp only at h2
      (try simp only [h2])
      exact ⟨rfl, zS⟩
    · exact zC
    · rfl
    dsimp only [nA, cA]
    apply RGW.on (i := 4) rfl
    · exact zG
    · intro γ u W hcur hd
      clear hd
      (try dsimp only)
      exact ⟨rfl, zS⟩
    · exact zC
    · rfl
    dsimp only [nA, cA]
    apply RGW.on (i := 5) rfl
    · exact zG
    · intro γ u W hcur hd
      obtain ⟨⟨h4, -, -⟩, -⟩ := hd
      dsimp only at h4
      (try simp only [h4])
      exact ⟨rfl, zS⟩
    · exact zC
    · rfl
    dsimp only [nA, cA]
    apply RGW.on (i := 6) rfl
    · exact zG
    · intro γ u W hcur hd
      clear hd
      (try dsimp only)
      exact ⟨rfl, zS⟩
    · exact zC
    · rfl
    dsimp only [nA, cA]
    apply RGW.on (i := 7) rfl
    · exact zG
    · intro γ u W hcur hd
      obtain ⟨⟨h6, -, -⟩, -⟩ := hd
      dsimp only at h6
      (try simp only [h6])
      exact ⟨rfl, zS⟩
    · exact zC
    · rfl
    dsimp only [nA, cA]
    apply RGW.on (i := 8) rfl
    · exact zG
    · intro γ u W hcur hd
      clear hd
      (try dsimp only)
      exact ⟨rfl, zS⟩
    · exact zC
    · rfl
    dsimp only [nA, cA]
    apply RGW.on (i := 9) rfl
    · exact zG
    · intro γ u W hcur hd
      obtain ⟨⟨h8, -, -⟩, -⟩ := hd
      dsimp only at h8
      (try simp only [h8])
      exact ⟨rfl, zS⟩
    · exact zC
    · rfl
    dsimp only [nA, cA]
    apply RGW.bslice (i := 10) rfl
    · exact zG
    · intro γ u W hcur hd
      obtain ⟨⟨h5, -, -⟩, ⟨h7, -, -⟩, ⟨h9, -, -⟩, -⟩ := hd
      dsimp only at h5 h7 h9
      (try simp only [h5, h7, h9])
      refine ⟨rfl, fun K hK => ?_⟩
      go_simp
      exact hK.out _ _ rfl rfl
    · exact zC
    · rfl
    · rfl
    dsimp only [nA, cA]
    apply RGW.call (i := 11) rfl
    · exact zG
    · intro γ u W hcur hd
      obtain ⟨⟨h10, r10, -⟩, -⟩ := hd
      dsimp only at h10 r10
      have L10 := r10.cell
      (try simp only [h10])
      refine ⟨rfl, fun K hK => ?_⟩
      go_simp
      first
      | (go_at_call 62; (with_reducible refine (hjx'.out _ _ _ (Blk.ints (l := [per, dl, ln]) r10) (HEA.out _ hcur)).mono ?_); rintro e w3 ⟨rfl, hb3⟩; replace hb3 := bl_tt hb3)
      | (refine wp_appT _ _ rfl Tryz.underlying54 hi hz0 hz1 hz2 rfl (by decide) (.slice vA k vc) k _ _ rfl rfl (own_below ho.out hwd) r13 rfl (by simp [Value.oneCell']) (by unfold maxLen; omega) (by omega) (Nat.le_trans hDx hwd.size) ?_; intro v' w' hown' hbx' hnew'; refine hK.out _ _ hbx' (fun hcur => ?_))
      (try dsimp only)
      exact hK.out _ _ rfl (by (exact zE))
    · first
      | exact zC
      | intro γ γ' hg
        try dsimp only
        have e10 := hg 10 (by decide)
        simp only [e10]
    · rfl
    dsimp only [nA, cA]
    apply RGW.on (i := 12) rfl
    · exact zG
    · intro γ u W hcur hd
      obtain ⟨⟨h3, -, -⟩, ⟨h10, r10, -⟩, ⟨h11, -, -⟩, -⟩ := hd
      dsimp only at h3 h10 h11 r10
      have L10 := r10.cell
      (try simp only [h3, h10, h11])
      exact ⟨rfl, zS⟩
    · first
      | exact zC
      | intro γ γ' hg
        try dsimp only
        have e10 := hg 10 (by decide)
        simp only [e10]
    · rfl
    dsimp only [nA, cA]
    apply RGW.bslice (i := 13) rfl
    · exact zG
    · intro γ u W hcur hd
      obtain ⟨⟨h10, r10, -⟩, ⟨h12, -, -⟩, -⟩ := hd
      dsimp only at h10 h12 r10
      have L10 := r10.cell
      (try simp only [h10, h12])
      refine ⟨rfl, fun K hK => ?_⟩
      go_simp
      exact hK.out _ _ rfl rfl
    · first
      | exact zC
      | intro γ γ' hg
        try dsimp only
        have e10 := hg 10 (by decide) (by decide)
        simp only [e10]
    · rfl
    · rfl
    dsimp only [nA, cA]
    refine RGW.skip (i := 14) rfl rfl ?_
    dsimp only [nA, cA]
    refine RGW.skip (i := 15) rfl rfl ?_
    dsimp only [nA, cA]
    refine RGW.fin (fun γ u wd hwd hd hdis => ?_)
    obtain ⟨⟨h0, -, -⟩, ⟨h1, -, -⟩, ⟨h2, -, -⟩, ⟨h3, -, -⟩, ⟨h4, -, -⟩, ⟨h5, -, -⟩, ⟨h6, -, -⟩, ⟨h7, -, -⟩, ⟨h8, -, -⟩, ⟨h9, -, -⟩, ⟨h10, r10, b10⟩, ⟨h11, -, -⟩, ⟨h12, -, -⟩, ⟨h13, r13, b13⟩, -⟩ := hd
    dsimp only at h0 h1 h2 h3 h4 h5 h6 h7 h8 h9 h10 h11 h12 h13 r10 r13 b10 b13
    have n10_13 := hdis 10 13 rfl rfl (Nat.lt_of_lt_of_eq (by decide : 10 < 16) (by kernel_rfl)) (Nat.lt_of_lt_of_eq (by decide : 13 < 16) (by kernel_rfl)) (by decide) _ (List.mem_singleton.2 rfl) _ (List.mem_singleton.2 rfl)
    clear hdis
    simp only [h0, h1, h2, h3, h4, h5, h6, h7, h8, h9, h10, h11, h12, h13]
    clear h13 h12 h11 h10 h9 h8 h7 h6 h5 h4 h3 h2 h1 h0
    replace b10 := b10 _ (List.mem_singleton.2 rfl)
    generalize hγ10 : (γ 10).n = g10 at *
    clear hγ10
    replace b13 := b13 _ (List.mem_singleton.2 rfl)
    generalize hγ13 : (γ 13).n = g13 at *
    clear hγ13
    clear u
    simp only [List.map_cons, List.map_nil]
    apply PlanW.step
    · exact zG
    · rfl
    intro K hK
    first
    | (go_at_call 62; (with_reducible refine (hjx'.out _ _ _ (Blk.ints (l := [per, dl, ln]) r10) (HEA.out _ hcur)).mono ?_); rintro e w3 ⟨rfl, hb3⟩; replace hb3 := bl_tt hb3)
    | (refine wp_appT _ _ rfl Tryz.underlying54 hi hz0 hz1 hz2 rfl (by decide) (.slice vA k vc) k _ _ rfl rfl (own_below ho.out hwd) r13 rfl (by simp [Value.oneCell']) (by unfold maxLen; omega) (by omega) (Nat.le_trans hDx hwd.size) ?_; intro v' w' hown' hbx' hnew'; refine hK.out _ _ hbx' (fun hcur => ?_))
    clear hK K
    try simp only [Act.put, List.setIfInBounds_toArray, List.set_cons_zero, List.set_cons_succ]
    apply PlanW.step
    · exact zG
    · rfl
    intro K hK
    go_simp
    refine hK.out _ _ (by with_reducible first | assumption | exact bx_refl _ _) (fun hcur => ?_)
    clear hK K
    try simp only [Act.put, List.setIfInBounds_toArray, List.set_cons_zero, List.set_cons_succ]
    refine PlanW.done ?_
    have hb3 := bl_tt hwd
    have hown9 : w'.ownsRow w.heap.size 9 1 v' (k + 1) ((g (k + 1)).flatMap cB) := by
      rw [hgn.out, List.flatMap_append]
      have e : (nm ++ (⟨#[32]⟩ : ByteArray)) ++ ⟨J5.toArray⟩ = ⟨(nm.data.toList ++ [32] ++ J5).toArray⟩ := by
        rw [ba_app, ba_app]
      rw [e] at hown'
      exact hown'
    replace hown9 := Lib.hid hown9
    have hb9 := bx_below (bl_tr hb0 hwd) hbx' (fun x hx => ownL_ge ho.out x hx)
    clear hown' hnew' hbx' hcur hb3
    go_wp2
    go_roundw
    case rel => exact ⟨k + 1, by omega, by go_num, hb9, hown9.out⟩
    case measure => simp [intOf]; omega
end Go.Proofs.YtbdgblnccjpahaaGreatDoor
namespace Go.Proofs.YtbdgblnccjpahaaGreatDoor
open Go.RowKit Go.Shelf Go.MapKept Go.ChangeMaps Go.WideMaps
attribute [local go_sem] bl_al bl_drew bl_drewN bl_refl bx_al bx_drew bx_drewN bx_refl
set_option maxRecDepth 20000
theorem lawS : Maps.Keyed Tryz.prog 9 := Maps.string_keyed Tryz.underlying9
theorem zeroU (w : World) : (zeroValue 256).run Tryz.prog w = .ok (.agg #[]) w := by kernel_rfl
def setD (L : List ByteArray) : DataW Unit := Maps.setOf (.agg []) (L.map fun s => Lit.string s.data.toList)
theorem setD_snoc (L : List ByteArray) (s : ByteArray) : setD (L ++ [s]) = (setD L).put (.string s.data.toList) (.agg []) := by
  unfold setD
  rw [List.map_append]
  exact Maps.setOf_snoc _ _ _
theorem has_setD (L : List ByteArray) (s : ByteArray) : Maps.has (setD L) (.string s.data.toList) = knownB L s := by
  unfold setD
  rw [Maps.has_setOf _ _ _ (fun x hx => by obtain ⟨y, -, rfl⟩ := List.mem_map.1 hx; exact trivial), List.any_map]
  unfold knownB
  congr 1
  funext o
  show (o.data.toList == s.data.toList) = (o.toList == s.toList)
  rw [ByteArray.toList_eq, ByteArray.toList_eq]
/-- The names that were met so far. -/
structure Seen (L : List ByteArray) (g m : Nat) (w : World) : Prop where
  blk : Blk w g 255 #[.map (some m)]
  map : w.ownsMap Tryz.prog 9 unitElem m L.length (setD L)
theorem map_bx {L : List ByteArray} {m n : Nat} {X : List Nat} {w w' : World} (h : w.ownsMap Tryz.prog 9 unitElem m n (setD L)) (hb : BX X w w') (hX : m ∉ X) : w'.ownsMap Tryz.prog 9 unitElem m n (setD L) := by
  obtain ⟨es, clock, h1, F, hs, hD⟩ := h
  exact ⟨es, clock, (hb.block m (Array.getElem?_eq_some_iff.1 h1).1 hX).trans h1, F, hs, hD⟩
theorem map_below {L : List ByteArray} {m n : Nat} {w w' : World} (h : w.ownsMap Tryz.prog 9 unitElem m n (setD L)) (hb : Below w.heap.size w w') : w'.ownsMap Tryz.prog 9 unitElem m n (setD L) := map_bx (X := []) h (bx_bl [] hb) (by simp)
theorem Seen.below {L : List ByteArray} {g m : Nat} {w w' : World} (h : Seen L g m w) (hb : Below w.heap.size w w') : Seen L g m w' := ⟨h.blk.below hb, map_below h.map hb⟩
theorem Seen.bx {L : List ByteArray} {g m : Nat} {X : List Nat} {w w' : World} (h : Seen L g m w) (hb : BX X w w') (hg : g ∉ X) (hm : m ∉ X) : Seen L g m w' := ⟨h.blk.keep hg hb, map_bx h.map hb hm⟩
theorem map_ne {L : List ByteArray} {g m n : Nat} {t : TypeId} {cs : Array Value} {w : World} (h : w.ownsMap Tryz.prog 9 unitElem m n (setD L)) (k : Blk w g t cs) : g ≠ m := fun e => by
  subst e
  obtain ⟨es, clock, h1, _⟩ := h
  unfold Blk at k
  rw [h1] at k
  cases k
theorem Seen.apart {L : List ByteArray} {g m : Nat} {w : World} (h : Seen L g m w) {b o : Nat} {v : Value} (hc : w.cell? ⟨b, o, none⟩ = some v) : b ≠ m := fun e => by
  subst e
  obtain ⟨es, clock, h1, _⟩ := h.map
  simp [World.cell?, h1] at hc
theorem Seen.lt {L : List ByteArray} {g m : Nat} {w : World} (h : Seen L g m w) : m < w.heap.size := by
  obtain ⟨es, clock, h1, _⟩ := h.map
  exact (Array.getElem?_eq_some_iff.1 h1).1
/-- Slices lie where they lay: a map is no part of them. -/
theorem sl_map {α : Type} {cs : α → List Value} {sz : Nat} {A : Option Addr} {l : List α} {L : List ByteArray} {g m : Nat} {w w' : World} (h : Sl cs sz w A l) (hs : Seen L g m w) (hb : BX [m] w w') : Sl cs sz w' A l := fun k x hx => by
  obtain ⟨b, off, e, hc⟩ := h k x hx
  refine ⟨b, off, e, fun j v hv => ?_⟩
  have h1 := hc j v hv
  have hlt := World.block_lt_of_cell? w _ h1
  have hne := hs.apart h1
  have : w'.heap[b]? = w.heap[b]? := hb.block b hlt (by simpa using hne)
  simp only [World.cell?] at h1 ⊢
  rw [this]
  exact h1
theorem bx_map {b : Nat} {w w' : World} (h : w.mapTurned w' b) : BX [b] w w' := by
  obtain ⟨es, clock, es', clock', hb, rfl⟩ := h
  refine ⟨rfl, rfl, rfl, by simp [setBlock], fun i hi hX => heap_setBlock_other hb _ (fun e => hX (by simp [e])), fun g hg t cs hk => ?_⟩
  have := List.mem_singleton.1 hg
  subst this
  unfold Blk at hk
  rw [hb] at hk
  cases hk
set_option maxHeartbeats 2000000 in
theorem c_names1 (L : List ByteArray) (s : ByteArray) (g m : Nat) (w : World) (hs : Seen L g m w) (hn : s.size ≤ maxLen) (hL : L.length ≤ 1000) :
    Calls Tryz.prog 204 #[.string s, .pointer (some ⟨g, 0, none⟩)] w
      (fun e w' => e = .returned (.int .i64 (fstE [unl (nameB s) 4, unl (!knownB L s) 5])) ∧ BX [m] w w' ∧ Seen (L ++ [s]) g m w') := by
  have hkey := keyOf_string_mk Tryz.underlying9 hn
  have hgm := map_ne hs.map hs.blk
  have k0 := hs.blk
  have hmap := Lib.hid hs.map
  have hhas := has_setD L s
  clear hs
  have L0 := k0.cell
  have hq := k0.lt
  replace hhas := Lib.hid hhas
  have hgw : g ≠ w.heap.size := Nat.ne_of_lt hq
  go_enter Tryz.func204, Tryz.ntmps204
  go_wp2_with (first
    | (at_lookup; refine wpList_lookup_own_unit _ rfl _ _ 255 rfl 9 256 lawS Tryz.underlying255 (zeroU _) m L.length _ rfl hmap.out _ _ rfl hkey ?_)
    | (at_mapUpdate; refine wpList_mapUpdate_in _ rfl _ _ _ 255 rfl 9 256 lawS Tryz.underlying255 (unitElem (H := Unit)) m L.length _ rfl (hmap.out.alloc _) (by unfold maxLen; omega) _ _ _ rfl rfl hkey _ [] unitElem_mk ?_; intro w1 hown1 hturn1))
  have hb1 : BX [m] w w1 := (bx_al _ (bx_refl [m] w)).trans (bx_map hturn1)
  have k1 := k0.keep (by simpa using hgm) hb1
  have hnew : w1.ownsMap Tryz.prog 9 unitElem m (L ++ [s]).length (setD (L ++ [s])) := by
    rw [setD_snoc, List.length_append]
    exact hown1
  replace hnew := Lib.hid hnew
  clear hown1 hturn1 L0 k0 hmap
  rw [hhas.out]
  go_wp2_with (first | (go_at_call 100; (with_reducible refine (c_isName s _ hn).mono ?_); rintro e w3 ⟨rfl, rfl⟩) | (go_at_call 58; (with_reducible refine (c_unless _ _ _).mono ?_); rintro e w3 ⟨rfl, rfl⟩) | (go_at_call 74; (with_reducible refine (c_first2 (Blk.new _ _ _)).mono ?_); rintro e w3 ⟨rfl, rfl⟩))
  go_ret
  exact ⟨rfl, bx_al _ hb1, k1.alloc _, map_below hnew.out (bl_al _ (bl_refl _))⟩
set_option maxHeartbeats 2000000 in
theorem c_names (w : World) : Calls Tryz.prog 169 #[] w (fun e w' => e = .returned (.func (.func 204) #[] #[.pointer (some ⟨w.heap.size + 1, 0, none⟩)]) ∧ Below w.heap.size w w' ∧ Seen [] (w.heap.size + 1) w.heap.size w') := by
  have hmm := @run_makeMap Tryz.prog
  go_enter Tryz.func169, Tryz.ntmps169
  go_wp2
  go_ret
  refine ⟨rfl, bl_al _ (bl_al _ (bl_refl w)), ?_, ?_⟩
  · have := Blk.new (w.alloc (.map #[] 0)) 255 #[.map (some w.heap.size)]
    rwa [World.size_alloc] at this
  · exact map_below (L := []) (World.ownsMap_made w _ _ _) (bl_al _ (bl_refl _))
/-! ### Ascending indexes. -/
set_option maxHeartbeats 2000000 in
theorem c_idx1 (k x la ct : Int) (B1 B2 : Nat) (w : World) (hct : 0 ≤ ct ∧ ct ≤ 1000000) (k1 : Blk w B1 3 #[.int .i64 ct]) (k2 : Blk w B2 3 #[.int .i64 la]) :
    Calls Tryz.prog 182 #[.int .i64 k, .int .i64 x, .pointer (some ⟨B1, 0, none⟩), .pointer (some ⟨B2, 0, none⟩)] w
      (fun e w' => e = .returned (.int .i64 (fstE [unl (inR x 0 (ct - 1)) 6, unl (decide (la < x)) 9])) ∧ BX [B2] w w' ∧ Blk w' B2 3 #[.int .i64 x]) := by
  obtain ⟨h1, h2⟩ := hct
  go_enter Tryz.func182, Tryz.ntmps182
  go_upto_region 1 with fail
  first
  | apply absB2 (w0 := w) (g0 := B1) (g1 := B2)
  | apply absTB2 (w0 := w) (g0 := B1) (g1 := B2)
  | apply absIB2 (w0 := w) (g0 := B1) (g1 := B2)
  iterate 3 (focus exact zL)
  try clear hb3
  try clear hb0
  try clear k1
  try clear k2
  intro wa hb0 k1 k2
  (try simp only [List.setIfInBounds_toArray, List.set_cons_zero, List.set_cons_succ] at k1 k2)
  have Lk1 := k1.later
  have Fk1 := k1.laterF
  have Qk1 := k1.lt
  have Lk2 := k2.later
  have Fk2 := k2.laterF
  have Qk2 := k2.lt
  refine wp_any (w0 := wa) ⟨[], [], [some 8, some 9, some 10, some 11, some 12, some 13, some 14, some 15, some 16, some 17, some 18, some 7], [[], [], [1], [0, 1, 2], [0, 1, 2, 3], [], [], [5, 6], [0, 1, 2, 3, 4, 5, 6, 7], [0, 1, 2, 3, 4, 5, 6, 7, 8], [0, 1, 2, 3, 4, 5, 6, 7, 8, 9], [0, 1, 2, 3, 4, 5, 6, 7, 8, 9, 10]], [[], [], [1], [0, 2], [3], [], [], [5, 6], [7], [4, 8], [9], [9, 10]]⟩ (fun _ => []) (by kernel_rfl) (by kernel_rfl) (by (exact zE)) (fun u => by simp only [putD, Act.put, List.setIfInBounds_toArray, List.set_cons_zero, List.set_cons_succ, Nat.zero_add, Nat.reduceAdd]; rfl) ?_
  apply RGW.on (i := 0) rfl
  · exact zG
  · intro γ u W hcur hd
    clear hd
    (try dsimp only)
    exact ⟨rfl, zS⟩
  · exact zC
  · rfl
  dsimp only [nA, cA]
  apply RGW.on (i := 1) rfl
  · exact zG
  · intro γ u W hcur hd
    clear hd
    (try dsimp only)
    exact ⟨rfl, zS⟩
  · exact zC
  · rfl
  dsimp only [nA, cA]
  apply RGW.on (i := 2) rfl
  · exact zG
  · intro γ u W hcur hd
    obtain ⟨⟨h1, -, -⟩, -⟩ := hd
    dsimp only at h1
    (try simp only [h1])
    exact ⟨rfl, zS⟩
  · exact zC
  · rfl
  dsimp only [nA, cA]
  apply RGW.call (i := 3) rfl
  · exact zG
  · intro γ u W hcur hd
    obtain ⟨⟨h0, -, -⟩, ⟨h2, -, -⟩, -⟩ := hd
    dsimp only at h0 h2
    (try simp only [h0, h2])
    refine ⟨rfl, fun K hK => ?_⟩
    go_simp
    first
    | (go_at_call 71; (with_reducible refine (c_within _ _ _ _).mono ?_); rintro e w3 ⟨rfl, rfl⟩)
    | (go_at_call 58; (with_reducible refine (c_unless _ _ _).mono ?_); rintro e w3 ⟨rfl, rfl⟩)
    | (go_at_call 74; (with_reducible refine (c_first2 (by (exact zK))).mono ?_); rintro e w3 ⟨rfl, rfl⟩)
    (try dsimp only)
    exact hK.out _ _ rfl (by (exact zE))
  · exact zC
  · rfl
  dsimp only [nA, cA]
  apply RGW.call (i := 4) rfl
  · exact zG
  · intro γ u W hcur hd
    obtain ⟨⟨h3, -, -⟩, -⟩ := hd
    dsimp only at h3
    (try simp only [h3])
    refine ⟨rfl, fun K hK => ?_⟩
    go_simp
    first
    | (go_at_call 71; (with_reducible refine (c_within _ _ _ _).mono ?_); rintro e w3 ⟨rfl, rfl⟩)
    | (go_at_call 58; (with_reducible refine (c_unless _ _ _).mono ?_); rintro e w3 ⟨rfl, rfl⟩)
    | (go_at_call 74; (with_reducible refine (c_first2 (by (exact zK))).mono ?_); rintro e w3 ⟨rfl, rfl⟩)
    (try dsimp only)
    exact hK.out _ _ rfl (by (exact zE))
  · exact zC
  · rfl
  dsimp only [nA, cA]
  apply RGW.on (i := 5) rfl
  · exact zG
  · intro γ u W hcur hd
    clear hd
    (try dsimp only)
    exact ⟨rfl, zS⟩
  · exact zC
  · rfl
  dsimp only [nA, cA]
  apply RGW.on (i := 6) rfl
  · exact zG
  · intro γ u W hcur hd
    clear hd
    (try dsimp only)
    exact ⟨rfl, zS⟩
  · exact zC
  · rfl
  dsimp only [nA, cA]
  apply RGW.on (i := 7) rfl
  · exact zG
  · intro γ u W hcur hd
    obtain ⟨⟨h5, -, -⟩, ⟨h6, -, -⟩, -⟩ := hd
    dsimp only at h5 h6
    (try simp only [h5, h6])
    exact ⟨rfl, zS⟩
  · exact zC
  · rfl
  dsimp only [nA, cA]
  apply RGW.call (i := 8) rfl
  · exact zG
  · intro γ u W hcur hd
    obtain ⟨⟨h7, -, -⟩, -⟩ := hd
    dsimp only at h7
    (try simp only [h7])
    refine ⟨rfl, fun K hK => ?_⟩
    go_simp
    first
    | (go_at_call 71; (with_reducible refine (c_within _ _ _ _).mono ?_); rintro e w3 ⟨rfl, rfl⟩)
    | (go_at_call 58; (with_reducible refine (c_unless _ _ _).mono ?_); rintro e w3 ⟨rfl, rfl⟩)
    | (go_at_call 74; (with_reducible refine (c_first2 (by (exact zK))).mono ?_); rintro e w3 ⟨rfl, rfl⟩)
    (try dsimp only)
    exact hK.out _ _ rfl (by (exact zE))
  · exact zC
  · rfl
  dsimp only [nA, cA]
  apply RGW.bslice (i := 9) rfl
  · exact zG
  · intro γ u W hcur hd
    obtain ⟨⟨h4, -, -⟩, ⟨h8, -, -⟩, -⟩ := hd
    dsimp only at h4 h8
    (try simp only [h4, h8])
    refine ⟨rfl, fun K hK => ?_⟩
    go_simp
    exact hK.out _ _ rfl rfl
  · exact zC
  · rfl
  · rfl
  dsimp only [nA, cA]
  apply RGW.call (i := 10) rfl
  · exact zG
  · intro γ u W hcur hd
    obtain ⟨⟨h9, r9, -⟩, -⟩ := hd
    dsimp only at h9 r9
    have L9 := r9.cell
    (try simp only [h9])
    refine ⟨rfl, fun K hK => ?_⟩
    go_simp
    first
    | (go_at_call 71; (with_reducible refine (c_within _ _ _ _).mono ?_); rintro e w3 ⟨rfl, rfl⟩)
    | (go_at_call 58; (with_reducible refine (c_unless _ _ _).mono ?_); rintro e w3 ⟨rfl, rfl⟩)
    | (go_at_call 74; (with_reducible refine (c_first2 (by (exact zK))).mono ?_); rintro e w3 ⟨rfl, rfl⟩)
    (try dsimp only)
    exact hK.out _ _ rfl (by (exact zE))
  · first
    | exact zC
    | intro γ γ' hg
      try dsimp only
      have e9 := hg 9 (by decide)
      simp only [e9]
  · rfl
  dsimp only [nA, cA]
  apply RGW.on (i := 11) rfl
  · exact zG
  · intro γ u W hcur hd
    obtain ⟨⟨h9, r9, -⟩, ⟨h10, -, -⟩, -⟩ := hd
    dsimp only at h9 h10 r9
    have L9 := r9.cell
    (try simp only [h9, h10])
    exact ⟨rfl, zS⟩
  · first
    | exact zC
    | intro γ γ' hg
      try dsimp only
      have e9 := hg 9 (by decide)
      simp only [e9]
  · rfl
  dsimp only [nA, cA]
  refine RGW.fin (fun γ u wb hwb hd hdis => ?_)
  obtain ⟨⟨h0, -, -⟩, ⟨h1, -, -⟩, ⟨h2, -, -⟩, ⟨h3, -, -⟩, ⟨h4, -, -⟩, ⟨h5, -, -⟩, ⟨h6, -, -⟩, ⟨h7, -, -⟩, ⟨h8, -, -⟩, ⟨h9, r9, b9⟩, ⟨h10, -, -⟩, ⟨h11, -, -⟩, -⟩ := hd
  dsimp only at h0 h1 h2 h3 h4 h5 h6 h7 h8 h9 h10 h11 r9 b9
  clear hdis
  simp only [h0, h1, h2, h3, h4, h5, h6, h7, h8, h9, h10, h11]
  clear h11 h10 h9 h8 h7 h6 h5 h4 h3 h2 h1 h0
  replace b9 := b9 _ (List.mem_singleton.2 rfl)
  generalize hγ9 : (γ 9).n = g9 at *
  clear hγ9
  clear u
  simp only [List.map_nil]
  refine PlanW.done ?_
  have hb3 := bl_tt hwb
  have hbw := hb3 _ hb0
  replace k2 := k2.below hwb
  have L2 := k2.cell
  have F2 := k2.frozen
  go_wp2
  go_ret
  exact ⟨rfl, bx_set (.inl (by simp)) _ (bx_bl _ hbw), k2.set1 (by simp)⟩
set_option maxHeartbeats 2000000 in
theorem c_indexesErr (l : List Int) (ct : Int) (A : Option Addr) (c : Nat) (w : World) (hs : Sl cI 1 w A l) (hl : l.length ≤ 1000) (hct : 0 ≤ ct ∧ ct ≤ 1000000) :
    Calls Tryz.prog 143 #[.slice A l.length c, .int .i64 ct] w (Ret (.int .i64 (idxErr l ct)) w) := by
  have Hs := Lib.hid hs
  have hev := Lib.hid fun (B1 B2 : Nat) (W : World) (hb : Below w.heap.size w W) (k1 : Blk W B1 3 #[.int .i64 ct]) (k2 : Blk W B2 3 #[.int .i64 (-1)]) (h2 : w.heap.size ≤ B2) (h12 : B1 ≠ B2) =>
    c_eachJI 182 #[.pointer (some ⟨B1, 0, none⟩), .pointer (some ⟨B2, 0, none⟩)] (fun k n => fstE [unl (inR n 0 (ct - 1)) 6, unl (decide (prevI l k < n)) 9]) (fun k W => Blk W B2 3 #[.int .i64 (prevI l k)]) [B2] A l c W (by omega)
      (enters_of Tryz.func182 (by kernel_rfl) rfl) (fun k X Y h hb => h.below hb)
      (fun k x hx W' hb' hk => (c_idx1 k x (prevI l k) ct B1 B2 W' hct (k1.keep (by simpa using h12) hb') hk).mono fun e W2 ⟨e1, e2, e3⟩ => ⟨e1, e2, fun _ => by
        have : prevI l (k + 1) = x := by simp [prevI, hx]
        rw [this]
        exact e3⟩)
      (fun W' hb' => sl_new Hs.out ((bx_bl [B2] hb).trans hb') (by simpa using h2)) k2
  have hev2 : Hid ((eachS (fun k n => fstE [unl (inR n 0 (ct - 1)) 6, unl (decide (prevI l k < n)) 9]) l 0).2 = idxErr l ct) := rfl
  clear hs
  generalize l.length = n at *
  go_enter Tryz.func143, Tryz.ntmps143
  go_upto_region 2 with fail
  first
  | apply absB2 (w0 := w) (g0 := w.heap.size) (g1 := w.heap.size + 1)
  | apply absTB2 (w0 := w) (g0 := w.heap.size) (g1 := w.heap.size + 1)
  | apply absIB2 (w0 := w) (g0 := w.heap.size) (g1 := w.heap.size + 1)
  iterate 3 (focus exact zL)
  try clear hb3
  try clear hb0
  try clear k0
  try clear k1
  intro wa hb0 k0 k1
  (try simp only [List.setIfInBounds_toArray, List.set_cons_zero, List.set_cons_succ] at k0 k1)
  go_wp2_with fail
  refine (hev.out w.heap.size (w.heap.size + 1) wa hb0 k0 k1 (by omega) (by omega)).mono ?_
  rintro e w3 ⟨rfl, hbx, -⟩
  rw [hev2.out]
  replace hb0 := bx_below hb0 hbx (by simp)
  clear hev hev2 hbx k0 k1
  go_wp2
  go_ret
  exact ⟨rfl, hb0⟩
end Go.Proofs.YtbdgblnccjpahaaGreatDoor
namespace Go.Proofs.YtbdgblnccjpahaaGreatDoor
open Go.RowKit
section
variable {P : Program} {ops : Array Oper} {Q : Exit → Act → World → Prop} {m : Nat} {M : List Nat}
def StM (m : Nat) (M : List Nat) (i : Nat) (W W' : World) : Prop := if i = m then BX M W W' else Below W.heap.size W W'
theorem StM.bx {i : Nat} {W W' : World} (h : StM m M i W W') : BX M W W' := by
  unfold StM at h
  split at h
  · exact h
  · exact bx_bl M h
def PreM (m : Nat) (M : List Nat) (i : Nat) (w0 W : World) : Prop := if i = m then Below w0.heap.size w0 W else BX M w0 W
def OpWM (P : Program) (ops : Array Oper) (Q : Exit → Act → World → Prop) (m : Nat) (M : List Nat) (i : Nat) (o : Oper) (s : Sp) (γ : Nat → Gh) (a : Act) (W : World) : Prop :=
  wpOp P ops Q i (fun a' W' => ∃ g, a' = a.put o.dst (s.val (up γ i g)) ∧ StM m M i W W' ∧ s.R (up γ i g) W' ∧ ∀ x ∈ s.bl g, W.heap.size ≤ x ∧ x < W'.heap.size) a W
def OpOKM (P : Program) (ops : Array Oper) (Q : Exit → Act → World → Prop) (m : Nat) (M : List Nat) (w0 : World) (A : (Nat → Value) → Act) (p : Parts) (h : List Sp) (i : Nat) (s : Sp) : Prop :=
  Cong (p.C.getD i []) i s ∧ (∀ γ W W', Below W.heap.size W W' → s.R γ W → s.R γ W') ∧
  (i ≠ m → ∀ γ W W', (∀ x ∈ s.bl (γ i), w0.heap.size ≤ x ∧ x < W.heap.size) → BX M W W' → s.R γ W → s.R γ W') ∧
  (∀ γ u W, PreM m M i w0 W → Known h γ u w0 W (p.D.getD i []) → ∃ o, ops[i]? = some o ∧ OpWM P ops Q m M i o s γ (A u) W)
def FinM (ops : Array Oper) (Q : Exit → Act → World → Prop) (M : List Nat) (w0 : World) (A : (Nat → Value) → Act) (h : List Sp) : Prop :=
  ∀ γ u W, BX M w0 W → Known h γ u w0 W (List.range ops.size) → Q .normal (A u) W
def RGM (P : Program) (ops : Array Oper) (Q : Exit → Act → World → Prop) (m : Nat) (M : List Nat) (w0 : World) (A : (Nat → Value) → Act) (p : Parts) : Nat → List Sp → Prop
  | 0, h => FinM ops Q M w0 A h
  | k + 1, h => ∃ s, OpOKM P ops Q m M w0 A p h h.length s ∧ RGM P ops Q m M w0 A p k (h ++ [s])
theorem RGM_all {w0 : World} {A : (Nat → Value) → Act} {p : Parts} (F : AnyF ops p) (ht : p.tail = []) :
    ∀ (k : Nat) (h : List Sp), h.length + k = ops.size → RGM P ops Q m M w0 A p k h →
      ∃ hs, (∀ j, j < h.length → spAt hs j = spAt h j) ∧ (∀ i, h.length ≤ i → i < ops.size → OpOKM P ops Q m M w0 A p hs i (spAt hs i)) ∧ FinM ops Q M w0 A hs
  | 0, h, hk, H => ⟨h, fun _ _ => rfl, fun i h1 h2 => by omega, H⟩
  | k + 1, h, hk, ⟨s, hop, H⟩ => by
    obtain ⟨hs, e, ok, fin⟩ := RGM_all F ht k (h ++ [s]) (by simp; omega) H
    have el : spAt hs h.length = s := (e h.length (by simp)).trans (spAt_last h s)
    have ej : ∀ j, j < h.length → spAt hs j = spAt h j := fun j hj => (e j (by simp; omega)).trans (spAt_app h s j hj)
    refine ⟨hs, ej, fun i h1 h2 => ?_, fin⟩
    by_cases hi : i = h.length
    · subst hi
      obtain ⟨c1, c2, c3, c4⟩ := hop
      rw [el]
      refine ⟨c1, c2, c3, fun γ u W hb hkn => c4 γ u W hb (Known.of fun j hj => ?_)⟩
      have := hkn.mem j hj
      obtain ⟨_, _, _, _, hD⟩ := F.dst h.length h2 (by rw [ht]; rfl)
      unfold Known1 at this ⊢
      rw [ej j (hD j hj).2] at this
      exact this
    · exact ok i (by simp; omega) h2
structure InvM (ops : Array Oper) (p : Parts) (hs : List Sp) (m : Nat) (M : List Nat) (w0 : World) (a0 : Act) (listed : Array Bool) (γ : Nat → Gh) (u : Nat → Value) (a : Act) (W : World) : Prop where
  bx : BX M w0 W
  bl : listed.getD m false = false → Below w0.heap.size w0 W
  put : a = putD a0 p.ds 0 u
  kn : ∀ j, j < ops.size → listed.getD j false = true → Known1 hs γ u w0 W j
theorem inv_upM {p : Parts} {hs : List Sp} {w0 : World} {a0 : Act} {A : (Nat → Value) → Act} (F : AnyF ops p) (ht : p.tail = [])
    (ok : ∀ i, i < ops.size → OpOKM P ops Q m M w0 A p hs i (spAt hs i)) {listed : Array Bool} {γ : Nat → Gh} {u : Nat → Value} {a : Act} {W W' : World} (inv : LInv ops p listed) (I : InvM ops p hs m M w0 a0 listed γ u a W)
    {i : Nat} {o : Oper} (hi : i < ops.size) (hun : listed.getD i true = false) (ho : ops[i]? = some o) (g : Gh)
    (hb' : StM m M i W W') (hR : (spAt hs i).R (up γ i g) W') (hbl : ∀ x ∈ (spAt hs i).bl g, W.heap.size ≤ x ∧ x < W'.heap.size) :
    InvM ops p hs m M w0 a0 (listed.setIfInBounds i true) (up γ i g) (up u i ((spAt hs i).val (up γ i g))) (a.put o.dst ((spAt hs i).val (up γ i g))) W' := by
  have htf : ∀ k, p.tail.contains k = false := fun k => by rw [ht]; rfl
  obtain ⟨hbx, hb, ha, hkn⟩ := I
  obtain ⟨o', ho', hdst, _, hD⟩ := F.dst i hi (htf i)
  obtain rfl : o = o' := Option.some.inj (ho.symm.trans ho')
  have hCl : ∀ j, j < ops.size → listed.getD j false = true → ∀ k ∈ p.C.getD j [], listed.getD k false = true := fun j hj hl =>
    F.closed_C inv j hj (htf j) fun o' ho' => inv.closed j o' ho' hl
  have hni : ∀ j, listed.getD j false = true → j ≠ i := fun j hj e => by rw [e, getD_both hun] at hj; cases hj
  have hbx' := hb'.bx
  refine ⟨hbx.trans hbx', fun hl => ?_, ?_, fun j hj hl => ?_⟩
  · have him : i ≠ m := fun e => by
      subst e
      have hlt : i < listed.size := by rw [inv.size]; exact hi
      simp [hlt] at hl
    have hl' : listed.getD m false = false := by rwa [getD_set_ne false him] at hl
    unfold StM at hb'
    rw [if_neg him] at hb'
    exact (hb hl').trans (hb'.mono (hb hl').size)
  · rw [ha, hdst]
    have := putD_up p.ds a0 0 i u ((spAt hs i).val (up γ i g)) F.dis (Nat.zero_le _) (by rw [F.len]; omega)
    simpa using this
  · rcases listed_set hl with rfl | hl
    · exact ⟨by simp [up], hR, fun x hx => by
        have : x ∈ (spAt hs j).bl g := by simpa [up] using hx
        have := hbl x this
        exact ⟨Nat.le_trans hbx.size this.1, this.2⟩⟩
    · have hji := hni j hl
      obtain ⟨k1, k2, k3⟩ := hkn j hj hl
      have hcg := (ok j hj).1 γ (up γ i g) (fun k hk => by
        have : k ≠ i := by
          rcases hk with rfl | hk
          · exact hji
          · exact hni k (hCl j hj hl k hk)
        simp [up, this])
      refine ⟨?_, hcg.2 _ ?_, fun x hx => ?_⟩
      · rw [← hcg.1, ← k1]; simp [up, hji]
      · unfold StM at hb'
        by_cases him : i = m
        · subst him
          rw [if_pos rfl] at hb'
          exact (ok j hj).2.2.1 hji γ W W' k3 hb' k2
        · rw [if_neg him] at hb'
          exact (ok j hj).2.1 γ W W' hb' k2
      · have := k3 x (by simpa [up, hji] using hx)
        exact ⟨this.1, Nat.lt_of_lt_of_le this.2 hbx'.size⟩
theorem any_headM {p : Parts} {hs : List Sp} {w0 : World} {a0 : Act} {A : (Nat → Value) → Act} (F : AnyF ops p) (ht : p.tail = []) (hA : ∀ u, putD a0 p.ds 0 u = A u)
    (ok : ∀ i, i < ops.size → OpOKM P ops Q m M w0 A p hs i (spAt hs i)) (fin : FinM ops Q M w0 A hs) :
    ∀ (f : Nat) (listed : Array Bool) (γ : Nat → Gh) (u : Nat → Value) (a : Act) (W : World), LInv ops p listed → cntp ops.size p listed = f → InvM ops p hs m M w0 a0 listed γ u a W →
      wpAny P .any ops Q f listed a W := by
  have htf : ∀ k, p.tail.contains k = false := fun k => by rw [ht]; rfl
  intro f
  induction f with
  | zero =>
    intro listed γ u a W inv hc I
    have e := cntp_zero inv hc
    have hl : ∀ j, j < ops.size → listed.getD j true = true := fun j hj => by
      rw [e, headA_at _ _ hj, htf]; rfl
    have hr : Region.ready .any ops listed = [] := by
      cases hrr : Region.ready .any ops listed with
      | nil => rfl
      | cons i l =>
        have hm : i ∈ Region.ready .any ops listed := by rw [hrr]; simp
        obtain ⟨hun, o, ho, _⟩ := mem_ready.1 hm
        rw [hl i (Array.getElem?_eq_some_iff.1 ho).1] at hun
        cases hun
    refine wpAny_done hr ?_ 0
    rw [I.put, hA]
    refine fin γ u W I.bx (Known.of fun j hj => ?_)
    have hjs := List.mem_range.1 hj
    refine I.kn j hjs ?_
    rw [e, headA_at _ _ hjs, htf]; rfl
  | succ f ih =>
    intro listed γ u a W inv hc I
    obtain ⟨j, hj, htj, hun⟩ := cntp_pos (n := ops.size) (p := p) (listed := listed) (by omega)
    refine ⟨fun h => ?_, fun i hr => ?_⟩
    · obtain ⟨i, _, _, hr⟩ := ready_first F inv j hj htj hun
      rw [h] at hr
      cases hr
    · obtain ⟨huni, o, ho, hall⟩ := mem_ready.1 hr
      have hi : i < ops.size := (Array.getElem?_eq_some_iff.1 ho).1
      have hlt : i < listed.size := by rw [inv.size]; exact hi
      have hkn : Known hs γ u w0 W (p.D.getD i []) := by
        obtain ⟨o', ho', hdst, hbk, hD⟩ := F.dst i hi (htf i)
        have hCi := F.closed_C inv i hi (htf i) fun o' ho' => by
          obtain rfl : o = o' := Option.some.inj (ho.symm.trans ho')
          exact hall
        exact Known.of fun k hk => I.kn k (by have := (hD k hk).2; omega) (hCi k (hD k hk).1)
      have hpre : PreM m M i w0 W := by
        unfold PreM
        split
        · rename_i e
          subst e
          exact I.bl (getD_both huni)
        · exact I.bx
      obtain ⟨o', ho', hop⟩ := (ok i hi).2.2.2 γ u W hpre hkn
      obtain rfl : o = o' := Option.some.inj (ho.symm.trans ho')
      rw [← hA, ← I.put] at hop
      unfold OpWM at hop
      refine wpOp_mono (fun a' W' hp => ?_) hop
      obtain ⟨g, e, hb', hR, hbl⟩ := hp
      rw [e]
      exact ih _ _ _ _ W' (inv.set hr (htf i)) (by have := cntp_set hi hlt (htf i) huni; omega) (inv_upM F ht ok inv I hi huni ho g hb' hR hbl)
end
/-- The walk of such a region. -/
theorem wp_anyM {P : Program} {Q : Exit → Act → World → Prop} {id : Nat} {a0 : Act} {w w0 : World} {l : List Oper} {A : (Nat → Value) → Act} (m : Nat) (M : List Nat) (p : Parts) (hm : P.follows .mixedOrders = true)
    (hB : anyOk l.toArray p = true) (ht : p.tail = []) (hb : Below w0.heap.size w0 w.drew) (hA : ∀ u, putD a0 p.ds 0 u = A u) (h : RGM P l.toArray (NoPanic Q) m M w0 A p l.toArray.size []) :
    (Code.region id l.toArray true).wp P Q a0 w := by
  refine wp_region_noPanic (wp_region_any hm ?_)
  have F := anyOk_spec hB
  obtain ⟨hs, _, ok, fin⟩ := RGM_all F ht _ [] (by simp) h
  have inv0 : LInv l.toArray p (Array.replicate l.toArray.size false) :=
    ⟨by simp, fun j oj _ hl => (by rw [getD_replicate_false] at hl; cases hl), fun t ht => getD_in (by have := F.tin t ht; simpa using this) (getD_replicate_false _ _)⟩
  have hc : cntp l.toArray.size p (Array.replicate l.toArray.size false) = l.toArray.size := by
    have hcn := F.cnt
    rw [ht] at hcn
    have : cntp l.toArray.size p (Array.replicate l.toArray.size false) = (List.range l.toArray.size).countP (fun j => !([] : List Nat).contains j) := by
      unfold cntp
      rw [ht]
      refine List.countP_congr fun j hj => ?_
      have : j < l.length := by have := List.mem_range.1 hj; simpa using this
      simp [this]
    rw [this]
    simp
  exact any_headM (P := P) (Q := NoPanic Q) F ht hA (fun i hi => ok i (Nat.zero_le _) hi) fin _ _ (fun _ => gh0) (fun j => match p.ds.getD j none with | some t => a0.tmps.getD t undef | none => undef) a0 w.drew inv0 hc
    ⟨bx_bl M hb, fun _ => hb, (putD_old p.ds a0 0 _ fun j _ => by rw [Nat.zero_add]; cases p.ds.getD j none <;> rfl).symm, fun j _ hl => (by rw [getD_replicate_false] at hl; cases hl)⟩
section
variable {P : Program} {ops : Array Oper} {Q : Exit → Act → World → Prop} {m : Nat} {M : List Nat} {w0 : World} {A : (Nat → Value) → Act} {p : Parts} {k i : Nat} {h : List Sp} {o : Oper} {val : (Nat → Gh) → Value}
theorem RGM.on (hn : h.length = i) (hne : i ≠ m) (hi : ops[i]? = some o) (hop : ∀ γ u W, BX M w0 W → KnownL h γ u w0 W (p.D.getD i []) → Region.wanted o (yielded ops (A u).tmps) = true ∧ (execOp (A u).eval o).run P W = .ok (.value (val γ)) W)
    (hc : ∀ γ γ' : Nat → Gh, (∀ j, j = i ∨ j ∈ p.C.getD i [] → γ j = γ' j) → val γ = val γ')
    (H : RGM P ops Q m M w0 A p k (h ++ [⟨val, fun _ _ => True, fun _ => []⟩])) : RGM P ops Q m M w0 A p (k + 1) h := by
  subst hn
  refine ⟨_, ⟨fun γ γ' hg => ⟨hc γ γ' hg, fun _ h => h⟩, fun _ _ _ _ h => h, fun _ _ _ _ _ _ h => h, fun γ u W hb hk => ⟨o, hi, ?_⟩⟩, H⟩
  unfold PreM at hb
  rw [if_neg hne] at hb
  obtain ⟨hw, hv⟩ := hop γ u W hb hk.toL
  unfold OpWM wpOp
  simp only [hi]
  rw [if_pos hw]
  refine .inl ?_
  unfold Oper.wp
  simp only [hv, Oper.upon]
  refine ⟨γ h.length, ?_, ?_, trivial, fun x hx => by cases hx⟩
  · rw [up_self]
  · unfold StM
    rw [if_neg hne]
    exact Below.refl _ _
/-- Any operation that meets a specification with a ghost. -/
theorem RGM.gh (s : Sp) (hn : h.length = i) (hne : i ≠ m) (hi : ops[i]? = some o)
    (hop : ∀ γ u W, BX M w0 W → KnownL h γ u w0 W (p.D.getD i []) → Region.wanted o (yielded ops (A u).tmps) = true ∧
      ∀ K : Act → World → Prop, Shut (∀ g v W', v = s.val (up γ i g) → Below W.heap.size W W' → s.R (up γ i g) W' → (∀ x ∈ s.bl g, W.heap.size ≤ x ∧ x < W'.heap.size) → K ((A u).put o.dst v) W') → Oper.wp P o (A u) W K Q)
    (hc : Cong (p.C.getD i []) i s) (hm : ∀ γ W W', Below W.heap.size W W' → s.R γ W → s.R γ W') (hx : ∀ γ W W', (∀ x ∈ s.bl (γ i), w0.heap.size ≤ x ∧ x < W.heap.size) → BX M W W' → s.R γ W → s.R γ W')
    (H : RGM P ops Q m M w0 A p k (h ++ [s])) : RGM P ops Q m M w0 A p (k + 1) h := by
  subst hn
  refine ⟨s, ⟨hc, hm, fun _ => hx, fun γ u W hb hk => ⟨o, hi, ?_⟩⟩, H⟩
  unfold PreM at hb
  rw [if_neg hne] at hb
  obtain ⟨hw, hx⟩ := hop γ u W hb hk.toL
  unfold OpWM wpOp
  simp only [hi]
  rw [if_pos hw]
  exact .inl (hx _ (shut_in fun g v W' hv hb' hR hbl => ⟨g, by rw [hv], by unfold StM; rw [if_neg hne]; exact hb', hR, hbl⟩))
theorem RGM.call (hn : h.length = i) (hne : i ≠ m) (hi : ops[i]? = some o)
    (hop : ∀ γ u W, BX M w0 W → KnownL h γ u w0 W (p.D.getD i []) → Region.wanted o (yielded ops (A u).tmps) = true ∧
      ∀ K : Act → World → Prop, Shut (∀ v W', v = val γ → Below W.heap.size W W' → K ((A u).put o.dst v) W') → Oper.wp P o (A u) W K Q)
    (hc : ∀ γ γ' : Nat → Gh, (∀ j, j = i ∨ j ∈ p.C.getD i [] → γ j = γ' j) → val γ = val γ')
    (H : RGM P ops Q m M w0 A p k (h ++ [⟨val, fun _ _ => True, fun _ => []⟩])) : RGM P ops Q m M w0 A p (k + 1) h :=
  RGM.gh _ hn hne hi (fun γ u W hb hk => ⟨(hop γ u W hb hk).1, fun K hK => (hop γ u W hb hk).2 K (shut_in fun v W' hv hb' => hK.out (γ i) v W' (by rw [up_self]; exact hv) hb' trivial (fun x hx => by cases hx))⟩)
    (fun γ γ' hg => ⟨hc γ γ' hg, fun _ h => h⟩) (fun _ _ _ _ h => h) (fun _ _ _ _ _ h => h) H
/-- The operation that turns the blocks M. -/
theorem RGM.mut (s : Sp) (hn : h.length = i) (he : i = m) (hi : ops[i]? = some o)
    (hop : ∀ γ u W, Below w0.heap.size w0 W → KnownL h γ u w0 W (p.D.getD i []) → Region.wanted o (yielded ops (A u).tmps) = true ∧
      ∀ K : Act → World → Prop, Shut (∀ g v W', v = s.val (up γ i g) → BX M W W' → s.R (up γ i g) W' → (∀ x ∈ s.bl g, W.heap.size ≤ x ∧ x < W'.heap.size) → K ((A u).put o.dst v) W') → Oper.wp P o (A u) W K Q)
    (hc : Cong (p.C.getD i []) i s) (hm : ∀ γ W W', Below W.heap.size W W' → s.R γ W → s.R γ W')
    (H : RGM P ops Q m M w0 A p k (h ++ [s])) : RGM P ops Q m M w0 A p (k + 1) h := by
  subst hn
  refine ⟨s, ⟨hc, hm, fun h => absurd he h, fun γ u W hb hk => ⟨o, hi, ?_⟩⟩, H⟩
  unfold PreM at hb
  rw [if_pos he] at hb
  obtain ⟨hw, hx⟩ := hop γ u W hb hk.toL
  unfold OpWM wpOp
  simp only [hi]
  rw [if_pos hw]
  exact .inl (hx _ (shut_in fun g v W' hv hb' hR hbl => ⟨g, by rw [hv], by unfold StM; rw [if_pos he]; exact hb', hR, hbl⟩))
/-- A new block, and a slice of it. -/
theorem RGM.bslice {t : TypeId} {cs : (Nat → Gh) → Array Value} {n c : Nat} (hn : h.length = i) (hne : i ≠ m) (hM : ∀ x ∈ M, x < w0.heap.size) (hi : ops[i]? = some o)
    (hop : ∀ γ u W, BX M w0 W → KnownL h γ u w0 W (p.D.getD i []) → Region.wanted o (yielded ops (A u).tmps) = true ∧
      ∀ K : Act → World → Prop, Shut (∀ v W', v = .slice (some ⟨W.heap.size, 0, none⟩) n c → W' = W.alloc (.cells (cs γ) t) → K ((A u).put o.dst v) W') → Oper.wp P o (A u) W K Q)
    (hc : ∀ γ γ' : Nat → Gh, (∀ j, j ≠ i → j ∈ p.C.getD i [] → γ j = γ' j) → cs γ = cs γ') (hni : (p.C.getD i []).contains i = false)
    (H : RGM P ops Q m M w0 A p k (h ++ [⟨fun γ => .slice (some ⟨(γ i).n, 0, none⟩) n c, fun γ W => Blk W (γ i).n t (cs γ), fun g => [g.n]⟩])) : RGM P ops Q m M w0 A p (k + 1) h := by
  refine RGM.gh _ hn hne hi (fun γ u W hb hk => ⟨(hop γ u W hb hk).1, fun K hK => (hop γ u W hb hk).2 K (shut_in fun v W' hv hW => ?_)⟩) (fun γ γ' hg => ?_) (fun γ W W' hb hR => Blk.below hR hb) (fun γ W W' hbd hb hR => ?_) H
  · subst hW
    refine hK.out ⟨W.heap.size, undef, none, 0⟩ v _ (by simp [up, hv]) (bl_al _ (bl_refl W)) ?_ (fun x hx => ?_)
    · have : cs (up γ i ⟨W.heap.size, undef, none, 0⟩) = cs γ := hc _ _ fun j hj _ => by simp [up, hj]
      dsimp only
      rw [this]
      simpa [up] using Blk.new W t (cs γ)
    · have : x = W.heap.size := by simpa using hx
      subst this
      simp
  · have h1 := hg i (.inl rfl)
    have h2 : cs γ = cs γ' := hc γ γ' fun j _ hj => hg j (.inr hj)
    exact ⟨by dsimp only; rw [h1], fun W hR => by dsimp only at hR ⊢; rw [← h1, ← h2]; exact hR⟩
  · refine Blk.keep hR (fun hx => ?_) hb
    have h1 := hM _ hx
    have h2 := hbd _ (List.mem_singleton.2 rfl)
    omega
theorem RGM.fin (H : ∀ γ u W, BX M w0 W → KnownL h γ u w0 W (List.range ops.size) → Q .normal (A u) W) : RGM P ops (NoPanic Q) m M w0 A p 0 h := fun γ u W hb hk => H γ u W hb hk.toL
end
end Go.Proofs.YtbdgblnccjpahaaGreatDoor
