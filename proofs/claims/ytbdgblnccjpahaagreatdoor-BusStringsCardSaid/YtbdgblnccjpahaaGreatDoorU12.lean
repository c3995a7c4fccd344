/-
  Walk: the reference's names.
  Walk: a copy of numbers.
  Walk: what is wrong with the ticks that were heard, by the reference.
  Walks: streams by the reference: few, copied, valid.
  Walks: copies of texts, of lists of numbers; what lies in blocks of a call's own, by the types of these blocks.
-/
import Derived.Test.YtbdgblnccjpahaaGreatDoorU6
import Derived.Test.YtbdgblnccjpahaaGreatDoorU2
import Derived.Test.YtbdgblnccjpahaaGreatDoorU7
import Derived.Test.YtbdgblnccjpahaaGreatDoorU8
import Derived.Test.YtbdgblnccjpahaaGreatDoorU4
import Derived.Test.YtbdgblnccjpahaaGreatDoorU5
set_option linter.unusedSimpArgs false
set_option linter.unusedVariables false
namespace Go.Proofs.YtbdgblnccjpahaaGreatDoor
open Go.RowKit Go.Shelf
attribute [local go_sem] bl_al bl_drew bl_drewN bl_refl
set_option maxRecDepth 20000
set_option maxHeartbeats 2000000 in
theorem r_IsName (s : ByteArray) (w : World) (hs : s.size ≤ maxLen) :
    Calls Tryz.prog 102 #[.string s] w (Ret (.bool (nameB s)) w) := by
  unfold maxLen at hs
  obtain ⟨l, Hl⟩ : ∃ l, Hid (s.data.toList = l) := ⟨_, rfl⟩
  obtain ⟨n, Hn⟩ : ∃ n, Hid (s.size = n) := ⟨_, rfl⟩
  have Hln : Hid (l.length = n) := by rw [← Hl.out, ← Hn.out]; exact (by simp : s.data.toList.length = s.size)
  have hR : Hid (nameB s = (nameFrom 0 l && inR n 1 12)) := by unfold nameB; rw [Hl.out, Hn.out]; rfl
  rw [Hn.out] at hs
  have hsz : s.size = n := Hn.out
  by_cases hlow : n < 1
  · have e : Hid (nameB s = false) := by rw [hR.out]; refine Lib.hid ?_; have : inR n 1 12 = false := by simp [inR]; intro; omega
                                         rw [this, Bool.and_false]
    have hb1 : decide ((n : Int) < 1) = true := by simp; omega
    go_enter Tryz.func102, Tryz.ntmps102
    go_wp2
    go_ret
    exact ⟨by rw [e.out] <;> rfl, bl_refl _⟩
  have hb1 : decide ((n : Int) < 1) = false := by simp; omega
  by_cases hhi : 12 < n
  · have e : Hid (nameB s = false) := by rw [hR.out]; refine Lib.hid ?_; have : inR n 1 12 = false := by simp [inR]; intro; omega
                                         rw [this, Bool.and_false]
    have hb2 : decide ((12 : Int) < n) = true := by simp; omega
    go_enter Tryz.func102, Tryz.ntmps102
    go_wp2
    go_ret
    exact ⟨by rw [e.out] <;> rfl, bl_refl _⟩
  have hb2 : decide ((12 : Int) < n) = false := by simp; omega
  replace hR : Hid (nameB s = nameFrom 0 l) := by rw [hR.out]; refine Lib.hid ?_; have : inR n 1 12 = true := by simp [inR]; omega
                                                  rw [this, Bool.and_true]
  go_enter Tryz.func102, Tryz.ntmps102
  go_wp2
  go_loopw [3] (fun i wr => ∃ k : Nat, k ≤ n ∧ i = .int .i64 k ∧ wr = w ∧ nameFrom 0 l = nameFrom k (l.drop k)) (fun i _ => n - (intOf i).toNat)
  case atStart => exact ⟨0, Nat.zero_le _, rfl, rfl, rfl⟩
  case round =>
    obtain ⟨k, hk, rfl, rfl, hi⟩ := hrel
    replace hi := Lib.hid hi
    by_cases hlt : k < n
    · have hx : l[k]? = some (l[k]'(by rw [Hln.out]; exact hlt)) := List.getElem?_eq_getElem _
      generalize l[k]'(by rw [Hln.out]; exact hlt) = c at hx
      have hd := Lib.hid (nameFrom_drop l k c hx)
      have hks : k < s.size := by rw [hsz]; exact hlt
      have hget : s.data[k]'(by simpa using hks) = c := by
        have := hx
        rw [← Hl.out] at this
        simpa using (List.getElem?_eq_some_iff.1 this).2
      have hget' : (s[k]'hks) = c := hget
      have hm0 := c.toNat_lt
      have hlet := Lib.hid (letter_iff c)
      have hoth := Lib.hid (other_iff c)
      have hyes : Hid ((97 ≤ c.toNat ∧ c.toNat ≤ 122 ∨ 65 ≤ c.toNat ∧ c.toNat ≤ 90) ∨ k ≠ 0 ∧ (48 ≤ c.toNat ∧ c.toNat ≤ 57 ∨ c.toNat = 45) → nameFrom 0 l = nameFrom (k + 1) (l.drop (k + 1))) := by
        intro h
        rw [hi.out, hd.out]
        rcases h with h | ⟨h0, h⟩
        · simp [hlet.out.2 h]
        · simp [hoth.out.2 h, h0]
      have hno : Hid (¬ ((97 ≤ c.toNat ∧ c.toNat ≤ 122 ∨ 65 ≤ c.toNat ∧ c.toNat ≤ 90) ∨ k ≠ 0 ∧ (48 ≤ c.toNat ∧ c.toNat ≤ 57 ∨ c.toNat = 45)) → nameFrom 0 l = false) := by
        intro h
        rw [hi.out, hd.out]
        have h1 : letter c = false := by rw [Bool.eq_false_iff]; intro hh; exact h (.inl (hlet.out.1 hh))
        by_cases h0 : k = 0
        · simp [h1, h0]
        · have h2 : other c = false := by rw [Bool.eq_false_iff]; intro hh; exact h (.inr ⟨h0, hoth.out.1 hh⟩)
          simp [h1, h2]
      clear hx hlet hoth hd hi
      go_upto_region 7 with fail
      clear hget hget'
      generalize c.toNat = m at *
      have hcase : m < 45 ∨ m = 45 ∨ (45 < m ∧ m < 48) ∨ (48 ≤ m ∧ m ≤ 57) ∨ (57 < m ∧ m < 65) ∨ (65 ≤ m ∧ m ≤ 90) ∨ (90 < m ∧ m < 97) ∨ (97 ≤ m ∧ m ≤ 122) ∨ 122 < m := by omega
      by_cases h0 : k = 0
      · subst h0
        rcases hcase with h | rfl | ⟨h, h'⟩ | ⟨h, h'⟩ | ⟨h, h'⟩ | ⟨h, h'⟩ | ⟨h, h'⟩ | ⟨h, h'⟩ | h
        all_goals
          go_wp2
        all_goals first
          | (go_roundw
             case rel => exact ⟨1, by omega, by go_num, trivial, hyes.out (by omega)⟩
             case measure => simp [intOf]; omega)
          | (go_ret
             exact ⟨by rw [hR.out, hno.out (by omega)] <;> rfl, bl_refl _⟩)
          | (exfalso; simp at *; omega)
      · have h0' : ((k : Int) == 0) = false := by simp; omega
        rcases hcase with h | rfl | ⟨h, h'⟩ | ⟨h, h'⟩ | ⟨h, h'⟩ | ⟨h, h'⟩ | ⟨h, h'⟩ | ⟨h, h'⟩ | h
        all_goals
          go_wp2
        all_goals first
          | (go_roundw
             case rel => exact ⟨k + 1, by omega, by go_num, trivial, hyes.out (by omega)⟩
             case measure => simp [intOf]; omega)
          | (go_ret
             exact ⟨by rw [hR.out, hno.out (by omega)] <;> rfl, bl_refl _⟩)
          | (exfalso; simp at *; omega)
    · go_wp2
      go_ret
      have : k = l.length := by have := Hln.out; omega
      exact ⟨by rw [hR.out, hi.out, this]; simp [nameFrom], bl_refl _⟩
end Go.Proofs.YtbdgblnccjpahaaGreatDoor
namespace Go.Proofs.YtbdgblnccjpahaaGreatDoor
open Go.RowKit Go.Shelf
attribute [local go_sem] bl_al bl_drew bl_drewN bl_refl bx_al bx_drew bx_drewN bx_refl
set_option maxRecDepth 20000
theorem flat_I (l : List Int) : l.flatMap cI = l.map (Value.int .i64) := by
  induction l with
  | nil => rfl
  | cons x l ih => rw [List.flatMap_cons, List.map_cons, ih]; rfl
theorem r_CopyInts (l : List Int) (A : Option Addr) (c : Nat) (w : World) (hs : Sl cI 1 w A l) (hl : l.length ≤ 1000) : Calls Tryz.prog 21 #[.slice A l.length c] w (RetI l w) := by
  obtain ⟨i0, hi, hz0, hz1, hz2⟩ := info_parts infoI
  have Hs := Lib.hid hs
  clear hs
  go_enter Tryz.func21, Tryz.ntmps21
  go_wp2_with (at_builtin; refine wpList_plain rfl fun _ hK => wp_copy (cs := cI) (l := l) (A := A) (c := c) (g := w.heap.size) _ _ rfl Tryz.underlying23 hi hz0 hz1 hz2 rfl (by decide) (fun _ => rfl) (fun x u hu => by simp [cI] at hu; subst hu; rfl) rfl rfl (Hs.out.below (bl_al _ (bl_refl _))) hl (by decide) (Blk.new w _ _) (fun A2 c2 w' ho hb => hK _ _ ?_))
  rw [flat_I] at ho
  have hb2 : Below w.heap.size w w' := bl_tr (bl_al _ (bl_refl w)) hb
  replace ho := Lib.hid ho
  clear hb
  go_wp2
  go_ret
  exact ⟨A2, c2, rfl, hb2, ho.out⟩
end Go.Proofs.YtbdgblnccjpahaaGreatDoor
namespace Go.Proofs.YtbdgblnccjpahaaGreatDoor
open Go.RowKit Go.Shelf
attribute [local go_sem] bl_al bl_drew bl_drewN bl_refl bx_al bx_drew bx_drewN bx_refl
set_option maxRecDepth 20000
theorem r_Within (n lo hi : Int) (w : World) : Calls Tryz.prog 12 #[.int .i64 n, .int .i64 lo, .int .i64 hi] w (Same (.bool (inR n lo hi)) w) := by
  by_cases h1 : lo ≤ n
  · go_enter Tryz.func12, Tryz.ntmps12
    go_wp2
    go_ret
    exact ⟨by simp [inR, h1], rfl⟩
  · go_enter Tryz.func12, Tryz.ntmps12
    go_wp2
    go_ret
    exact ⟨by simp [inR, h1] <;> (intro h; omega), rfl⟩
end Go.Proofs.YtbdgblnccjpahaaGreatDoor
namespace Go.Proofs.YtbdgblnccjpahaaGreatDoor
open Go.RowKit Go.Shelf
attribute [local go_sem] bl_al bl_drew bl_drewN bl_refl bx_al bx_drew bx_drewN bx_refl
set_option maxRecDepth 20000
/-- Streams that the laws take. -/
def fewB (l : List Sm) : Bool := decide ((l.length : Int) ≤ 8) && l.all fun s => decide ((s.name.size : Int) ≤ 30)
set_option maxHeartbeats 2000000 in
theorem r_fewStreams (l : List Sm) (A : Option Addr) (c : Nat) (w : World) (hs : Sl cSm 4 w A l) : Calls Tryz.prog 40 #[.slice A l.length c] w (Same (.bool (fewB l)) w) := by
  have Hs := Lib.hid hs
  clear hs
  by_cases h8 : (l.length : Int) ≤ 8
  rotate_left
  · have e : fewB l = false := by simp [fewB, h8]
    rw [e]
    have h8' : (8 : Int) < l.length := by omega
    clear e Hs
    generalize l.length = n at *
    go_enter Tryz.func40, Tryz.ntmps40
    go_wp2
    go_ret
    exact ⟨rfl, rfl⟩
  have he : fewB l = l.all fun s => decide ((s.name.size : Int) ≤ 30) := by simp [fewB, h8]
  have hst := Lib.hid fun k x (hx : l[k]? = some x) => (show ((l.drop k).all fun s => decide ((s.name.size : Int) ≤ 30)) = (decide ((x.name.size : Int) ≤ 30) && ((l.drop (k + 1)).all fun s => decide ((s.name.size : Int) ≤ 30))) by
    have hk := (List.getElem?_eq_some_iff.1 hx).1
    rw [List.drop_eq_getElem_cons hk, (List.getElem?_eq_some_iff.1 hx).2, List.all_cons])
  have hen : Hid (((l.drop l.length).all fun s => decide ((s.name.size : Int) ≤ 30)) = true) := Lib.hid (by rw [List.drop_length]; rfl)
  obtain ⟨g, hg⟩ : ∃ g : Nat → Bool, ∀ k, ((l.drop k).all fun s => decide ((s.name.size : Int) ≤ 30)) = g k := ⟨_, fun _ => rfl⟩
  have he0 : fewB l = g 0 := by rw [he, ← hg]; rfl
  rw [he0]
  simp only [hg] at hst hen
  clear hg he he0
  have h8' : ¬ (8 : Int) < l.length := by omega
  obtain ⟨n, Hn⟩ : ∃ n, Hid (l.length = n) := ⟨_, rfl⟩
  rw [Hn.out] at h8 h8' hen ⊢
  go_enter Tryz.func40, Tryz.ntmps40
  go_wp2
  go_loop [3] (fun i => ∃ k : Nat, k ≤ n ∧ i = .int .i64 k ∧ g 0 = g k) (fun i => n - (intOf i).toNat)
  case atStart => exact ⟨0, Nat.zero_le _, rfl, rfl⟩
  case round =>
    obtain ⟨k, hk, rfl, hi⟩ := hrel
    replace hi := Lib.hid hi
    by_cases hlt : k < n
    · have hx : l[k]? = some (l[k]'(by rw [Hn.out]; exact hlt)) := List.getElem?_eq_getElem _
      generalize l[k]'(by rw [Hn.out]; exact hlt) = x at hx
      have hs := hst.out k x hx
      obtain ⟨b, off, rfl, hc⟩ := Hs.out k x hx
      have c0 : w.cell? ⟨b, off + k * 4, none⟩ = some (.string x.name) := by simpa using hc 0 _ rfl
      clear hc hx
      by_cases hT : (x.name.size : Int) ≤ 30
      · have hT' : ¬ (30 : Int) < x.name.size := by omega
        have h2 : Hid (g k = g (k + 1)) := Lib.hid (by rw [hs]; simp [hT])
        clear hs hT
        go_wp2
        go_round
        case rel => exact ⟨k + 1, by omega, by go_num, by rw [hi.out, h2.out]⟩
        case measure => simp [intOf]; omega
      · have hT' : (30 : Int) < x.name.size := by omega
        have h2 : Hid (g k = false) := Lib.hid (by rw [hs]; simp [hT])
        clear hs hT
        go_wp2
        go_ret
        exact ⟨by rw [hi.out, h2.out] <;> rfl, rfl⟩
    · have e : k = n := by omega
      go_wp2
      go_ret
      exact ⟨by rw [hi.out, e, hen.out] <;> rfl, rfl⟩
theorem infoSm : (Tryz.prog.info? 43).map (fun i => (i.zero, i.size, i.bytes)) = some (some (.agg #[.string ByteArray.empty, .int .i64 0, .int .i64 0, .int .i64 0]), 4, 40) := by kernel_rfl
theorem r_CopyStreams (l : List Sm) (A : Option Addr) (c : Nat) (w : World) (hn : SmIn l A c w) : Calls Tryz.prog 11 #[.slice A l.length c] w (fun e w' => ∃ A2 c2, e = .returned (.slice A2 l.length c2) ∧ Below w.heap.size w w' ∧ SmIn l A2 c2 w') := by
  obtain ⟨i0, hi, hz0, hz1, hz2⟩ := info_parts infoSm
  have Hn := Lib.hid hn
  have hl := hn.len
  clear hn
  go_enter Tryz.func11, Tryz.ntmps11
  go_wp2_with (at_builtin; refine wpList_plain rfl fun _ hK => wp_copy (cs := cSm) (l := l) (A := A) (c := c) (g := w.heap.size) _ _ rfl Tryz.underlying22 hi hz0 hz1 hz2 rfl (by decide) (fun _ => rfl) (fun x u hu => by simp [cSm] at hu; rcases hu with h | h | h | h <;> subst h <;> rfl) rfl rfl (Hn.out.sl.below (bl_al _ (bl_refl _))) hl (by decide) (Blk.new w _ _) (fun A2 c2 w' ho hb => hK _ _ ?_))
  have hb2 : Below w.heap.size w w' := bl_tr (bl_al _ (bl_refl w)) hb
  replace ho := Lib.hid ho
  clear hb
  go_wp2
  go_ret
  refine ⟨A2, c2, rfl, hb2, Hn.out.len, ?_, Hn.out.nm, own_slC (cs := cSm) (fun _ => rfl) (by decide) ho.out⟩
  rcases ho.out.2 with ⟨e, h⟩ | ⟨_, _, _, e, _, _, h, _⟩
  · omega
  · injection e with _ _ e
    omega
theorem knownS_step (l : List Sm) (s : ByteArray) (j : Nat) (y : Sm) (hy : l[j]? = some y) : knownB ((l.take (j + 1)).map (·.name)) s = (knownB ((l.take j).map (·.name)) s || (y.name.toList == s.toList)) := by
  unfold knownB
  rw [List.take_add_one, hy]
  simp [List.any_append]
theorem knownS_hit (l : List Sm) (s : ByteArray) (j k : Nat) (y : Sm) (hy : l[j]? = some y) (hjk : j < k) (h : (y.name.toList == s.toList) = true) : knownB ((l.take k).map (·.name)) s = true := by
  unfold knownB
  rw [List.any_eq_true]
  refine ⟨y.name, ?_, h⟩
  have : (l.take k)[j]? = some y := by rw [List.getElem?_take, if_pos hjk]; exact hy
  exact List.mem_map.2 ⟨y, List.mem_of_getElem? this, rfl⟩
set_option maxHeartbeats 4000000 in
theorem r_CheckStreams (l : List Sm) (A : Option Addr) (c : Nat) (w : World) (hn : SmIn l A c w) :
    Calls Tryz.prog 44 #[.slice A l.length c] w (Ret (.tuple #[.int .i64 (smsChk l).1, .int .i64 (smsChk l).2]) w) := by
  have hN := Lib.hid hn
  have hr0 : Hid (lenE l.length 6 = fstE [unl (decide (0 < l.length)) 10, unl (decide ((l.length : Int) ≤ 6)) 8]) := rfl
  have hs1 : Hid (lenE l.length 6 = 0 → smsChk l = eachS (smErr l) l 0) := fun h => by rw [smsChk, if_pos h]
  have hs2 : Hid (lenE l.length 6 ≠ 0 → smsChk l = (0, lenE l.length 6)) := fun h => by rw [smsChk, if_neg h]
  clear hn
  obtain ⟨n, Hn⟩ : ∃ n, Hid (l.length = n) := ⟨_, rfl⟩
  rw [Hn.out] at hr0 hs1 hs2 ⊢
  by_cases h0 : n = 0
  · subst h0
    have e : smsChk l = (0, 10) := hs2.out (by decide)
    rw [e]
    go_enter Tryz.func44, Tryz.ntmps44
    go_wp2
    go_ret2
    exact ⟨rfl, bl_refl _⟩
  by_cases h6 : (n : Int) ≤ 6
  rotate_left
  · have e1 : lenE n 6 = 8 := by rw [hr0.out]; simp [fstE, unl, h6]; omega
    have e : smsChk l = (0, 8) := by rw [hs2.out (by rw [e1]; decide), e1]
    rw [e]
    have h0' : ((n : Int) == 0) = false := by simp; omega
    have h6' : (6 : Int) < n := by omega
    clear e e1 hr0 hs1 hs2
    go_enter Tryz.func44, Tryz.ntmps44
    go_wp2
    go_ret2
    exact ⟨rfl, bl_refl _⟩
  have e1 : lenE n 6 = 0 := by rw [hr0.out]; simp [fstE, unl, h6]; omega
  rw [hs1.out e1]
  have h0' : ((n : Int) == 0) = false := by simp; omega
  have h6' : ¬ (6 : Int) < n := by omega
  have hn6 : n ≤ 6 := by omega
  clear e1 hr0 hs1 hs2 h0 h6
  go_enter Tryz.func44, Tryz.ntmps44
  go_wp2
  clear h0' h6'
  go_loopw [4] (fun i wr => ∃ k : Nat, k ≤ n ∧ i = .int .i64 k ∧ Below w.heap.size w wr ∧ eachS (smErr l) l 0 = eachS (smErr l) (l.drop k) k) (fun i _ => n - (intOf i).toNat)
  case atStart => exact ⟨0, Nat.zero_le _, rfl, Below.refl _ _, rfl⟩
  case round =>
    obtain ⟨k, hk, rfl, hb0, hi⟩ := hrel
    replace hi := Lib.hid hi
    by_cases hlt : k < n
    · have hx : l[k]? = some (l[k]'(by rw [Hn.out]; exact hlt)) := List.getElem?_eq_getElem _
      generalize l[k]'(by rw [Hn.out]; exact hlt) = x at hx
      have hm : x ∈ l := List.mem_of_getElem? hx
      have hd := Lib.hid (eachS_drop (smErr l) l k x hx)
      have hnm := Lib.hid (hN.out.nm x hm)
      obtain ⟨b, off, hA, hc⟩ := hN.out.sl k x hx
      have hS : Hid (Sl cSm 4 w (some ⟨b, off, none⟩) l) := by rw [← hA]; exact hN.out.sl
      have c0 : wr.cell? ⟨b, off + k * 4, none⟩ = some (.string x.name) := by simpa using kcell hb0 (hc 0 _ rfl)
      have c1 : wr.cell? ⟨b, off + k * 4 + 1, none⟩ = some (.int .i64 x.per) := by simpa using kcell hb0 (hc 1 _ rfl)
      have c2 : wr.cell? ⟨b, off + k * 4 + 2, none⟩ = some (.int .i64 x.dl) := by simpa using kcell hb0 (hc 2 _ rfl)
      have c3 : wr.cell? ⟨b, off + k * 4 + 3, none⟩ = some (.int .i64 x.len) := by simpa using kcell hb0 (hc 3 _ rfl)
      have hre : smErr l k x = fstE [unl (nameB x.name) 4, unl (!knownB ((l.take k).map (·.name)) x.name) 5, unl (inR x.per 1 60 && (inR x.dl 1 x.per && inR x.len 1 20)) 2] := rfl
      clear hc hm hx
      obtain ⟨bn, h⟩ : ∃ b', nameB x.name = b' := ⟨_, rfl⟩
      have hcn := Lib.hid fun W : World => h ▸ r_IsName x.name W hnm.out
      rw [h] at hre
      clear h
      obtain ⟨ba, h⟩ : ∃ b', inR x.per 1 60 = b' := ⟨_, rfl⟩
      have hca := Lib.hid fun W : World => h ▸ r_Within x.per 1 60 W
      rw [h] at hre
      clear h
      obtain ⟨bb, h⟩ : ∃ b', inR x.dl 1 x.per = b' := ⟨_, rfl⟩
      have hcb := Lib.hid fun W : World => h ▸ r_Within x.dl 1 x.per W
      rw [h] at hre
      clear h
      obtain ⟨bc, h⟩ : ∃ b', inR x.len 1 20 = b' := ⟨_, rfl⟩
      have hcc := Lib.hid fun W : World => h ▸ r_Within x.len 1 20 W
      rw [h] at hre
      clear h
      subst hA
      obtain ⟨xn, xp, xd, xl⟩ := x
      dsimp only at *
      go_upto_region 9 with fail
      have hqw := hb0.size
      first
      | apply absB1 (w0 := w) (g0 := wr.heap.size)
      | apply absTB1 (w0 := w) (g0 := wr.heap.size)
      | apply absIB1 (w0 := w) (g0 := wr.heap.size)
      iterate 2 (focus exact zL)
      try clear hb3
      try clear hb0
      try clear k0
      intro wb hb0 k0
      (try simp only [List.setIfInBounds_toArray, List.set_cons_zero, List.set_cons_succ] at k0)
      clear c0 c1 c2 c3
      have L0 := k0.cell
      cases bn
      · replace hre := Lib.hid hre
        go_wp2_with (go_at_call 102; (with_reducible refine (hcn.out _).mono ?_); rintro e w3 ⟨rfl, hb3⟩)
        go_ret2
        exact ⟨by rw [hi.out, hd.out, hre.out] <;> rfl, bl_tr hb0 hb3⟩
      go_upto_region 11 with (go_at_call 102; (with_reducible refine (hcn.out _).mono ?_); rintro e w3 ⟨rfl, hb3⟩)
      clear L0
      replace hb0 := bl_tr hb0 hb3
      replace k0 := k0.below hb3
      clear hb3 hcn
      go_wp2
      obtain ⟨wo, rfl⟩ : ∃ wo : World, wo = wr := ⟨_, rfl⟩
      go_loopw [6] (fun i wi => ∃ j : Nat, j ≤ k ∧ i = .int .i64 j ∧ Below w.heap.size w wi ∧ Blk wi wo.heap.size 43 #[.string xn, .int .i64 xp, .int .i64 xd, .int .i64 xl] ∧ knownB ((l.take j).map (·.name)) xn = false) (fun i _ => k - (intOf i).toNat)
      case atStart => exact ⟨0, Nat.zero_le _, rfl, hb0, k0, by simp [knownB]⟩
      case round =>
        clear hb0 k0
        obtain ⟨j, hj, rfl, hb0, k0, hkn⟩ := hrel
        replace hkn := Lib.hid hkn
        by_cases hjk : j < k
        · have hy : l[j]? = some (l[j]'(by rw [Hn.out]; omega)) := List.getElem?_eq_getElem _
          generalize l[j]'(by rw [Hn.out]; omega) = y at hy
          obtain ⟨b2, off2, e2, hc2⟩ := hS.out j y hy
          cases e2
          have d0 : ∀ W, Below wr.heap.size wr W → W.cell? ⟨b, off + j * 4, none⟩ = some (.string y.name) := later (by simpa using kcell hb0 (hc2 0 _ rfl))
          have hks := Lib.hid (knownS_step l xn j y hy)
          have hkh := Lib.hid (knownS_hit l xn j k y hy hjk)
          clear hc2 hy
          have hjn : (j : Int) < n := by omega
          have hjn2 : j < n := by omega
          go_upto_region 14 with fail
          have Lk0 := k0.later
          have Fk0 := k0.laterF
          have Qk0 := k0.lt
          refine wp_any (w0 := wr) ⟨[], [], [some 33, some 34, some 35, some 36, some 37, some 38, some 39, some 40], [[], [], [0, 1], [0, 1, 2], [0, 1, 2, 3], [], [5], [0, 1, 2, 3, 4, 5, 6]], [[], [], [0, 1], [2], [3], [], [5], [4, 6]]⟩ (fun _ => []) (by kernel_rfl) (by kernel_rfl) (by (exact zE)) (fun u => by simp only [putD, Act.put, List.setIfInBounds_toArray, List.set_cons_zero, List.set_cons_succ, Nat.zero_add, Nat.reduceAdd]; rfl) ?_
          apply RGW.on (i := 0) rfl
          · exact zG
          · intro γ u W hcur hd
            clear hd
            (try dsimp only)
            exact ⟨rfl, zS⟩
          · exact zC
          · rfl
          dsimp only [nA, cA]
          apply RGW.on (i := 1) rfl
          · exact zG
          · intro γ u W hcur hd
            clear hd
            (try dsimp only)
            exact ⟨rfl, zS⟩
          · exact zC
          · rfl
          dsimp only [nA, cA]
          apply RGW.on (i := 2) rfl
          · exact zG
          · intro γ u W hcur hd
            obtain ⟨⟨h0, -, -⟩, ⟨h1, -, -⟩, -⟩ := hd
            dsimp only at h0 h1
            (try simp only [h0, h1])
            exact ⟨rfl, zS⟩
          · exact zC
          · rfl
          dsimp only [nA, cA]
          apply RGW.on (i := 3) rfl
          · exact zG
          · intro γ u W hcur hd
            obtain ⟨⟨h2, -, -⟩, -⟩ := hd
            dsimp only at h2
            (try simp only [h2])
            exact ⟨rfl, zS⟩
          · exact zC
          · rfl
          dsimp only [nA, cA]
          apply RGW.on (i := 4) rfl
          · exact zG
          · intro γ u W hcur hd
            obtain ⟨⟨h3, -, -⟩, -⟩ := hd
            dsimp only at h3
            (try simp only [h3])
            exact ⟨rfl, zS⟩
          · exact zC
          · rfl
          dsimp only [nA, cA]
          apply RGW.on (i := 5) rfl
          · exact zG
          · intro γ u W hcur hd
            clear hd
            (try dsimp only)
            exact ⟨rfl, zS⟩
          · exact zC
          · rfl
          dsimp only [nA, cA]
          apply RGW.on (i := 6) rfl
          · exact zG
          · intro γ u W hcur hd
            obtain ⟨⟨h5, -, -⟩, -⟩ := hd
            dsimp only at h5
            (try simp only [h5])
            exact ⟨rfl, zS⟩
          · exact zC
          · rfl
          dsimp only [nA, cA]
          apply RGW.on (i := 7) rfl
          · exact zG
          · intro γ u W hcur hd
            obtain ⟨⟨h4, -, -⟩, ⟨h6, -, -⟩, -⟩ := hd
            dsimp only at h4 h6
            (try simp only [h4, h6])
            exact ⟨rfl, zS⟩
          · exact zC
          · rfl
          dsimp only [nA, cA]
          refine RGW.fin (fun γ u wj hwj hd hdis => ?_)
          obtain ⟨⟨h0, -, -⟩, ⟨h1, -, -⟩, ⟨h2, -, -⟩, ⟨h3, -, -⟩, ⟨h4, -, -⟩, ⟨h5, -, -⟩, ⟨h6, -, -⟩, ⟨h7, -, -⟩, -⟩ := hd
          dsimp only at h0 h1 h2 h3 h4 h5 h6 h7
          clear hdis
          simp only [h0, h1, h2, h3, h4, h5, h6, h7]
          clear h7 h6 h5 h4 h3 h2 h1 h0
          clear u
          simp only [List.map_nil]
          refine PlanW.done ?_
          have hb3 := bl_tt hwj
          have hbj := bl_tr hb0 hwj
          have kj := k0.below hwj
          cases hyx : y.name.toList == xn.toList
          · go_wp2
            go_roundw
            case rel => exact ⟨j + 1, by omega, by go_num, hbj, kj, by rw [hks.out, hkn.out, hyx]; rfl⟩
            case measure => simp [intOf]; omega
          · rw [hkh.out hyx] at hre
            replace hre := Lib.hid hre
            go_wp2
            go_ret2
            exact ⟨by rw [hi.out, hd.out, hre.out] <;> rfl, hbj⟩
        · obtain rfl : j = k := by omega
          rw [hkn.out] at hre
          have L0 := k0.cell
          cases ba
          · replace hre := Lib.hid hre
            go_wp2_with (go_at_call 12; (first | (with_reducible refine (hca.out _).mono ?_) | (with_reducible refine (hcb.out _).mono ?_) | (with_reducible refine (hcc.out _).mono ?_)); rintro e w3 ⟨rfl, rfl⟩)
            go_ret2
            exact ⟨by rw [hi.out, hd.out, hre.out] <;> rfl, hb0⟩
          cases bb
          · replace hre := Lib.hid hre
            go_wp2_with (go_at_call 12; (first | (with_reducible refine (hca.out _).mono ?_) | (with_reducible refine (hcb.out _).mono ?_) | (with_reducible refine (hcc.out _).mono ?_)); rintro e w3 ⟨rfl, rfl⟩)
            go_ret2
            exact ⟨by rw [hi.out, hd.out, hre.out] <;> rfl, hb0⟩
          cases bc
          · replace hre := Lib.hid hre
            go_wp2_with (go_at_call 12; (first | (with_reducible refine (hca.out _).mono ?_) | (with_reducible refine (hcb.out _).mono ?_) | (with_reducible refine (hcc.out _).mono ?_)); rintro e w3 ⟨rfl, rfl⟩)
            go_ret2
            exact ⟨by rw [hi.out, hd.out, hre.out] <;> rfl, hb0⟩
          replace hre := Lib.hid hre
          go_wp2_with (go_at_call 12; (first | (with_reducible refine (hca.out _).mono ?_) | (with_reducible refine (hcb.out _).mono ?_) | (with_reducible refine (hcc.out _).mono ?_)); rintro e w3 ⟨rfl, rfl⟩)
          go_roundw
          case rel => exact ⟨j + 1, by omega, by go_num, hb0, by rw [hi.out, hd.out, hre.out] <;> rfl⟩
          case measure => simp [intOf]; omega
    · go_wp2
      go_ret2
      have : k = l.length := by have := Hn.out; omega
      exact ⟨by rw [hi.out, this]; simp [eachS], hb0⟩
theorem r_StreamsErr (l : List Sm) (A : Option Addr) (c : Nat) (w : World) (hn : SmIn l A c w) : Calls Tryz.prog 8 #[.slice A l.length c] w (Ret (.int .i64 (smsErr l)) w) := by
  have hcall := Lib.hid (r_CheckStreams l A c w hn)
  have he : Hid ((smsChk l).2 = smsErr l) := rfl
  clear hn
  generalize l.length = n at *
  go_enter Tryz.func8, Tryz.ntmps8
  go_wp2_with fail
  refine hcall.out.mono ?_
  rintro e w3 ⟨rfl, hb3⟩
  go_wp2
  go_ret
  exact ⟨by rw [he.out] <;> rfl, hb3⟩
end Go.Proofs.YtbdgblnccjpahaaGreatDoor
namespace Go.Proofs.YtbdgblnccjpahaaGreatDoor
open Go.RowKit Go.Shelf
attribute [local go_sem] bl_al bl_drew bl_drewN bl_refl bx_al bx_drew bx_drewN bx_refl
set_option maxRecDepth 20000
theorem infoS : (Tryz.prog.info? 9).map (fun i => (i.zero, i.size, i.bytes)) = some (some (.string ByteArray.empty), 1, 16) := by kernel_rfl
theorem infoLs : (Tryz.prog.info? 23).map (fun i => (i.zero, i.size, i.bytes)) = some (some (.slice none 0 0), 1, 24) := by kernel_rfl
theorem infoFu : (Tryz.prog.info? 144).map (fun i => (i.zero, i.size, i.bytes)) = some (some (.agg #[.string ByteArray.empty, .slice none 0 0]), 2, 40) := by kernel_rfl
theorem infoMd : (Tryz.prog.info? 146).map (fun i => (i.zero, i.size, i.bytes)) = some (some (.agg #[.string ByteArray.empty, .slice none 0 0]), 2, 40) := by kernel_rfl
/-- No block among these is of that type. -/
def NoT (X : List Nat) (W : World) (e : TypeId) : Prop := ∀ g ∈ X, ∀ cs, W.heap[g]? ≠ some (.cells cs e (0, 0))
theorem own_keepT {W W' : World} {base n size : Nat} {e : TypeId} {v : Value} {xs : List Value} {X : List Nat} (h : W.ownsRow base e size v n xs) (hb : BX X W W') (hX : NoT X W e) : W'.ownsRow base e size v n xs :=
  own_bxT h hb fun k hk hm => by
    rcases h.2 with ⟨rfl, _⟩ | ⟨g, cap, cur, rfl, _, hg, _⟩
    · simp [Value.ownBlock] at hk
    · have : g = k := by simpa [Value.ownBlock] using hk
      subst this
      exact hX g hm cur hg
theorem noT_own {W : World} {base n size : Nat} {e e' : TypeId} {v : Value} {xs : List Value} (h : W.ownsRow base e size v n xs) (hne : e ≠ e') : NoT (ownL v) W e' := fun g hg cs hc => by
  rcases h.2 with ⟨rfl, _⟩ | ⟨k, cap, cur, rfl, _, hk, _⟩
  · simp [ownL, Value.ownBlock] at hg
  · obtain rfl : g = k := by simpa [ownL, Value.ownBlock] using hg
    rw [hk] at hc
    injection hc with hc
    injection hc with _ hc _
    exact hne hc
theorem noT_blk {W : World} {g : Nat} {t e : TypeId} {cs : Array Value} {X : List Nat} (h : Blk W g t cs) (hne : t ≠ e) (hX : NoT X W e) : NoT (g :: X) W e := fun k hk cs' hc => by
  rcases List.mem_cons.1 hk with rfl | hk
  · have h2 : W.heap[k]? = some (.cells cs t (0, 0)) := h
    rw [h2] at hc
    injection hc with hc
    injection hc with _ hc _
    exact hne hc
  · exact hX k hk cs' hc
structure RwO (r : Rw) (W : World) : Prop where
  len : r.l.length ≤ 1000
  own : W.ownsRow 0 3 1 (.slice r.A r.l.length r.c) r.l.length (r.l.map (.int .i64))
structure FuO (f : Fu) (W : World) : Prop where
  nm : f.name.size ≤ maxLen
  len : f.ws.length ≤ 1000
  own : W.ownsRow 0 23 1 (.slice f.A f.ws.length f.c) f.ws.length (f.ws.flatMap cRw)
  rows : ∀ r ∈ f.ws, RwO r W
structure MdO (m : Md) (W : World) : Prop where
  nm : m.name.size ≤ maxLen
  row : RwO m.r W
theorem own_cap {W : World} {b n c sz : Nat} {e : TypeId} {A : Option Addr} {xs : List Value} (h : W.ownsRow b e sz (.slice A n c) n xs) : n ≤ c := by
  rcases h.2 with ⟨e, h⟩ | ⟨_, _, _, e, _, _, h, _⟩
  · omega
  · injection e with _ _ e
    omega
theorem RwO.row {r : Rw} {W : World} (h : RwO r W) : RwIn r W := ⟨h.len, own_cap h.own, own_sl h.own⟩
theorem FuO.fu {f : Fu} {W : World} (h : FuO f W) : FuIn f W := ⟨h.nm, h.len, own_cap h.own, own_slC (cs := cRw) (fun _ => rfl) (by decide) h.own, fun r hr => (h.rows r hr).row⟩
theorem MdO.md {m : Md} {W : World} (h : MdO m W) : MdIn m W := ⟨h.nm, h.row.row⟩
theorem RwO.keep {r : Rw} {X : List Nat} {W W' : World} (h : RwO r W) (hb : BX X W W') (hX : NoT X W 3) : RwO r W' := ⟨h.len, own_keepT h.own hb hX⟩
theorem FuO.keep {f : Fu} {X : List Nat} {W W' : World} (h : FuO f W) (hb : BX X W W') (hX : NoT X W 3) (hY : NoT X W 23) : FuO f W' := ⟨h.nm, h.len, own_keepT h.own hb hY, fun r hr => (h.rows r hr).keep hb hX⟩
theorem MdO.keep {m : Md} {X : List Nat} {W W' : World} (h : MdO m W) (hb : BX X W W') (hX : NoT X W 3) : MdO m W' := ⟨h.nm, h.row.keep hb hX⟩
theorem noT_nil (W : World) (e : TypeId) : NoT [] W e := fun g hg => by simp at hg
theorem RwO.below {r : Rw} {W W' : World} (h : RwO r W) (hb : Below W.heap.size W W') : RwO r W' := h.keep (bx_bl [] hb) (noT_nil _ _)
theorem FuO.below {f : Fu} {W W' : World} (h : FuO f W) (hb : Below W.heap.size W W') : FuO f W' := h.keep (bx_bl [] hb) (noT_nil _ _) (noT_nil _ _)
theorem MdO.below {m : Md} {W W' : World} (h : MdO m W) (hb : Below W.heap.size W W') : MdO m W' := h.keep (bx_bl [] hb) (noT_nil _ _)
set_option maxHeartbeats 2000000 in
theorem r_CopyTexts (l : List ByteArray) (A : Option Addr) (c : Nat) (w : World) (hs : Sl cS 1 w A l) (hl : l.length ≤ 1000) :
    Calls Tryz.prog 85 #[.slice A l.length c] w (fun e w' => ∃ A2 c2, e = .returned (.slice A2 l.length c2) ∧ Below w.heap.size w w' ∧ w'.ownsRow w.heap.size 9 1 (.slice A2 l.length c2) l.length (l.flatMap cS)) := by
  obtain ⟨i0, hi, hz0, hz1, hz2⟩ := info_parts infoS
  have Hs := Lib.hid hs
  clear hs
  go_enter Tryz.func85, Tryz.ntmps85
  go_wp2_with (at_builtin; refine wpList_plain rfl fun _ hK => wp_copy (cs := cS) (l := l) (A := A) (c := c) (g := w.heap.size) _ _ rfl Tryz.underlying54 hi hz0 hz1 hz2 rfl (by decide) (fun _ => rfl) (fun x u hu => by simp [cS] at hu; subst hu; rfl) rfl rfl (Hs.out.below (bl_al _ (bl_refl _))) hl (by decide) (Blk.new w _ _) (fun A2 c2 w' ho hb => hK _ _ ?_))
  have hb2 : Below w.heap.size w w' := bl_tr (bl_al _ (bl_refl w)) hb
  replace ho := Lib.hid ho
  clear hb
  go_wp2
  go_ret
  exact ⟨A2, c2, rfl, hb2, ho.out⟩
/-- A copy of lists of numbers. -/
def LsO (ls : List (List Int)) (A : Option Addr) (c : Nat) (W : World) : Prop :=
  ∃ ws : List Rw, (ws.map fun r : Rw => r.l) = ls ∧ W.ownsRow 0 23 1 (.slice A ls.length c) ls.length (ws.flatMap cRw) ∧ ∀ r ∈ ws, RwO r W
theorem LsO.below {ls : List (List Int)} {A : Option Addr} {c : Nat} {W W' : World} (h : LsO ls A c W) (hb : Below W.heap.size W W') : LsO ls A c W' := by
  obtain ⟨ws, h1, h2, h3⟩ := h
  exact ⟨ws, h1, own_below h2 hb, fun r hr => (h3 r hr).below hb⟩
set_option maxHeartbeats 4000000 in
theorem r_CopyLists (ls : List Rw) (A : Option Addr) (c : Nat) (w : World) (hs : Sl cRw 1 w A ls) (hr : ∀ r ∈ ls, RwIn r w) (hl : ls.length ≤ 1000) :
    Calls Tryz.prog 86 #[.slice A ls.length c] w (fun e w' => ∃ A2 c2, e = .returned (.slice A2 ls.length c2) ∧ Below w.heap.size w w' ∧ LsO (ls.map fun r : Rw => r.l) A2 c2 w') := by
  obtain ⟨i0, hi, hz0, hz1, hz2⟩ := info_parts infoLs
  have hci := Lib.hid fun (r : Rw) (h : r ∈ ls) W (hb : Below w.heap.size w W) => r_CopyInts r.l r.A r.c W ((hr r h).sl.below hb) (hr r h).len
  have hrl := Lib.hid fun (r : Rw) (h : r ∈ ls) => (hr r h).len
  have Hs := Lib.hid hs
  clear hs hr
  obtain ⟨n, Hn⟩ : ∃ n, Hid (ls.length = n) := ⟨_, rfl⟩
  rw [Hn.out] at hl ⊢
  go_enter Tryz.func86, Tryz.ntmps86
  go_wp2
  go_loopw [3, 4] (fun v i wr => ∃ (k : Nat) (ws : List Rw), k ≤ n ∧ i = .int .i64 k ∧ (ws.map fun r : Rw => r.l) = (ls.take k).map (fun r : Rw => r.l) ∧ Below w.heap.size w wr ∧ wr.ownsRow w.heap.size 23 1 v k (ws.flatMap cRw) ∧ ∀ r ∈ ws, RwO r wr) (fun _ i _ => n - (intOf i).toNat)
  case atStart => exact ⟨0, [], Nat.zero_le _, rfl, rfl, bl_refl _, World.ownsRow_nil _ _ _ _, fun r hr => by simp at hr⟩
  case round =>
    obtain ⟨k, ws, hk, rfl, hws, hb0, ho, hro⟩ := hrel
    replace hws := Lib.hid hws
    replace ho := Lib.hid ho
    replace hro := Lib.hid hro
    by_cases hkn : k < n
    rotate_left
    · obtain rfl : n = k := by omega
      obtain ⟨A5, c5, hv⟩ := own_slice ho.out
      subst hv
      go_wp2
      go_ret
      refine ⟨A5, c5, rfl, hb0, ws, ?_, ?_, hro.out⟩
      · rw [hws.out, ← Hn.out, List.take_length]
      · have e : (ls.map fun r : Rw => r.l).length = n := by rw [List.length_map, Hn.out]
        rw [e]
        exact own_mono (Nat.zero_le _) ho.out
    have hx : ls[k]? = some (ls[k]'(by rw [Hn.out]; exact hkn)) := List.getElem?_eq_getElem _
    generalize ls[k]'(by rw [Hn.out]; exact hkn) = r at hx
    have hm := List.mem_of_getElem? hx
    have hcr := Lib.hid (hci.out r hm)
    have hrn := hrl.out r hm
    have htk := Lib.hid (show (ls.take (k + 1)).map (fun r : Rw => r.l) = (ls.take k).map (fun r : Rw => r.l) ++ [r.l] by rw [List.take_add_one, hx]; simp)
    obtain ⟨b, off, rfl, hc⟩ := Hs.out k r hx
    have c0 : wr.cell? ⟨b, off + k, none⟩ = some (.slice r.A r.l.length r.c) := by simpa using kcell hb0 (hc 0 _ rfl)
    clear hc hx hm
    obtain ⟨rA, rc, rl⟩ := r
    dsimp only at *
    obtain ⟨ll, Hl⟩ : ∃ k, Hid (rl.length = k) := ⟨_, rfl⟩
    rw [Hl.out] at c0 hcr hrn
    go_wp2_with fail
    refine (hcr.out _ hb0).mono ?_
    rintro e w3 ⟨A2, c2, rfl, hb3, ho3⟩
    rw [Hl.out]
    have hoB := Lib.hid (own_below ho.out (bl_tr hb3 (bl_al (.cells #[.slice A2 ll c2] 23) (bl_refl w3))))
    have hkB := Lib.hid (Blk.new w3 23 #[.slice A2 ll c2])
    have hsz := hb0.size
    have hsz3 := hb3.size
    clear c0 hcr
    go_wp2_with (at_builtin; refine wpList_plain rfl fun _ hK => wp_appT _ _ rfl Tryz.underlying53 hi hz0 hz1 hz2 rfl (by decide) _ k _ [.slice A2 ll c2] rfl rfl hoB.out hkB.out rfl (by intro u hu; simp at hu; subst hu; rfl) (by unfold maxLen; omega) (by omega) (by simp; omega) (fun v' w4 hown hbx hv' => hK _ _ ?_))
    have hbn := bl_al (.cells #[.slice A2 ll c2] 23) (bl_refl w3)
    have hge := ownL_ge hoB.out
    have hb9 : Below w.heap.size w w4 := bx_below (bl_tr (bl_tr hb0 hb3) hbn) hbx hge
    have hnoT := noT_own hoB.out (show 23 ≠ 3 by decide)
    have hnew : RwO ⟨A2, c2, rl⟩ w4 := ⟨by rw [Hl.out]; exact hrn, own_keepT (own_below (own_mono (Nat.zero_le _) ho3) hbn) hbx hnoT⟩
    have hold : ∀ r ∈ ws, RwO r w4 := fun r hr => (((hro.out r hr).below hb3).below hbn).keep hbx hnoT
    have hown9 := Lib.hid (show w4.ownsRow w.heap.size 23 1 v' (k + 1) ((ws ++ [(⟨A2, c2, rl⟩ : Rw)]).flatMap cRw) by
      have e : (ws ++ [(⟨A2, c2, rl⟩ : Rw)]).flatMap cRw = ws.flatMap cRw ++ [.slice A2 ll c2] := by rw [← Hl.out]; simp [cRw]
      rw [e]
      exact hown)
    clear hoB hkB hge hbx hown hv' hnoT hbn ho ho3 hb0 hb3
    go_wp2
    go_roundw
    case rel =>
      refine ⟨k + 1, ws ++ [⟨A2, c2, rl⟩], by omega, by go_num, ?_, hb9, hown9.out, fun r hr => ?_⟩
      · rw [List.map_append, hws.out, htk.out]
        rfl
      · rcases List.mem_append.1 hr with hr | hr
        · exact hold r hr
        · have := List.mem_singleton.1 hr
          subst this
          exact hnew
    case measure => simp [intOf]; omega
end Go.Proofs.YtbdgblnccjpahaaGreatDoor
