/-
  Walk: the reference's names.
  Walks: streams by the reference: few, copied, valid.
  Walks: the reference's remainder of a division, and whether a list has a number.
  Walks: the demand of streams.
  Walks: common multiples of periods, overloads.
  Walks: the demand and the overload of streams.
  Walk: the law on demands.
-/
import Derived.Test.YtdlmkblmljhbfaaDoorU2
import Derived.Test.YtdlmkblmljhbfaaDoorU1
import Derived.Test.YtdlmkblmljhbfaaDoorU6
import Derived.Test.YtdlmkblmljhbfaaDoorU4
import Derived.Test.YtdlmkblmljhbfaaDoorU5
namespace Go.Proofs.YtdlmkblmljhbfaaDoor
set_option linter.unusedSimpArgs false
set_option linter.unusedVariables false
open Go.RowKit Go.Shelf
attribute [local go_sem] bl_al bl_drew bl_drewN bl_refl
set_option maxRecDepth 20000
set_option maxHeartbeats 2000000 in
theorem r_IsName (s : ByteArray) (w : World) (hs : s.size ≤ maxLen) :
    Calls Tryd.prog 114 #[.string s] w (Ret (.bool (nameB s)) w) := by
  unfold maxLen at hs
  obtain ⟨l, Hl⟩ : ∃ l, Hid (s.data.toList = l) := ⟨_, rfl⟩
  obtain ⟨n, Hn⟩ : ∃ n, Hid (s.size = n) := ⟨_, rfl⟩
  have Hln : Hid (l.length = n) := by rw [← Hl.out, ← Hn.out]; exact (by simp : s.data.toList.length = s.size)
  have hR : Hid (nameB s = (nameFrom 0 l && inR n 1 12)) := by unfold nameB; rw [Hl.out, Hn.out]; rfl
  rw [Hn.out] at hs
  have hsz : s.size = n := Hn.out
  by_cases hlow : n < 1
  · have e : Hid (nameB s = false) := by rw [hR.out]; refine Lib.hid ?_; have : inR n 1 12 = false := by simp [inR]; intro; omega
                                         rw [this, Bool.and_false]
    have hb1 : decide ((n : Int) < 1) = true := by simp; omega
    go_enter Tryd.func114, Tryd.ntmps114
    go_wp2
    go_ret
    exact ⟨by rw [e.out] <;> rfl, bl_refl _⟩
  have hb1 : decide ((n : Int) < 1) = false := by simp; omega
  by_cases hhi : 12 < n
  · have e : Hid (nameB s = false) := by rw [hR.out]; refine Lib.hid ?_; have : inR n 1 12 = false := by simp [inR]; intro; omega
                                         rw [this, Bool.and_false]
    have hb2 : decide ((12 : Int) < n) = true := by simp; omega
    go_enter Tryd.func114, Tryd.ntmps114
    go_wp2
    go_ret
    exact ⟨by rw [e.out] <;> rfl, bl_refl _⟩
  have hb2 : decide ((12 : Int) < n) = false := by simp; omega
  replace hR : Hid (nameB s = nameFrom 0 l) := by rw [hR.out]; refine Lib.hid ?_; have : inR n 1 12 = true := by simp [inR]; omega
                                                  rw [this, Bool.and_true]
  go_enter Tryd.func114, Tryd.ntmps114
  go_wp2
  go_loopw [3] (fun i wr => ∃ k : Nat, k ≤ n ∧ i = .int .i64 k ∧ wr = w ∧ nameFrom 0 l = nameFrom k (l.drop k)) (fun i _ => n - (intOf i).toNat)
  case atStart => exact ⟨0, Nat.zero_le _, rfl, rfl, rfl⟩
  case round =>
    obtain ⟨k, hk, rfl, rfl, hi⟩ := hrel
    replace hi := Lib.hid hi
    by_cases hlt : k < n
    · have hx : l[k]? = some (l[k]'(by rw [Hln.out]; exact hlt)) := List.getElem?_eq_getElem _
      generalize l[k]'(by rw [Hln.out]; exact hlt) = c at hx
      have hd := Lib.hid (nameFrom_drop l k c hx)
      have hks : k < s.size := by rw [hsz]; exact hlt
      have hget : s.data[k]'(by simpa using hks) = c := by
        have := hx
        rw [← Hl.out] at this
        simpa using (List.getElem?_eq_some_iff.1 this).2
      have hget' : (s[k]'hks) = c := hget
      have hm0 := c.toNat_lt
      have hlet := Lib.hid (letter_iff c)
      have hoth := Lib.hid (other_iff c)
      have hyes : Hid ((97 ≤ c.toNat ∧ c.toNat ≤ 122 ∨ 65 ≤ c.toNat ∧ c.toNat ≤ 90) ∨ k ≠ 0 ∧ (48 ≤ c.toNat ∧ c.toNat ≤ 57 ∨ c.toNat = 45) → nameFrom 0 l = nameFrom (k + 1) (l.drop (k + 1))) := by
        intro h
        rw [hi.out, hd.out]
        rcases h with h | ⟨h0, h⟩
        · simp [hlet.out.2 h]
        · simp [hoth.out.2 h, h0]
      have hno : Hid (¬ ((97 ≤ c.toNat ∧ c.toNat ≤ 122 ∨ 65 ≤ c.toNat ∧ c.toNat ≤ 90) ∨ k ≠ 0 ∧ (48 ≤ c.toNat ∧ c.toNat ≤ 57 ∨ c.toNat = 45)) → nameFrom 0 l = false) := by
        intro h
        rw [hi.out, hd.out]
        have h1 : letter c = false := by rw [Bool.eq_false_iff]; intro hh; exact h (.inl (hlet.out.1 hh))
        by_cases h0 : k = 0
        · simp [h1, h0]
        · have h2 : other c = false := by rw [Bool.eq_false_iff]; intro hh; exact h (.inr ⟨h0, hoth.out.1 hh⟩)
          simp [h1, h2]
      clear hx hlet hoth hd hi
      go_upto_region 7 with fail
      clear hget hget'
      generalize c.toNat = m at *
      have hcase : m < 45 ∨ m = 45 ∨ (45 < m ∧ m < 48) ∨ (48 ≤ m ∧ m ≤ 57) ∨ (57 < m ∧ m < 65) ∨ (65 ≤ m ∧ m ≤ 90) ∨ (90 < m ∧ m < 97) ∨ (97 ≤ m ∧ m ≤ 122) ∨ 122 < m := by omega
      by_cases h0 : k = 0
      · subst h0
        rcases hcase with h | rfl | ⟨h, h'⟩ | ⟨h, h'⟩ | ⟨h, h'⟩ | ⟨h, h'⟩ | ⟨h, h'⟩ | ⟨h, h'⟩ | h
        all_goals
          go_wp2
        all_goals first
          | (go_roundw
             case rel => exact ⟨1, by omega, by go_num, trivial, hyes.out (by omega)⟩
             case measure => simp [intOf]; omega)
          | (go_ret
             exact ⟨by rw [hR.out, hno.out (by omega)] <;> rfl, bl_refl _⟩)
          | (exfalso; simp at *; omega)
      · have h0' : ((k : Int) == 0) = false := by simp; omega
        rcases hcase with h | rfl | ⟨h, h'⟩ | ⟨h, h'⟩ | ⟨h, h'⟩ | ⟨h, h'⟩ | ⟨h, h'⟩ | ⟨h, h'⟩ | h
        all_goals
          go_wp2
        all_goals first
          | (go_roundw
             case rel => exact ⟨k + 1, by omega, by go_num, trivial, hyes.out (by omega)⟩
             case measure => simp [intOf]; omega)
          | (go_ret
             exact ⟨by rw [hR.out, hno.out (by omega)] <;> rfl, bl_refl _⟩)
          | (exfalso; simp at *; omega)
    · go_wp2
      go_ret
      have : k = l.length := by have := Hln.out; omega
      exact ⟨by rw [hR.out, hi.out, this]; simp [nameFrom], bl_refl _⟩
end Go.Proofs.YtdlmkblmljhbfaaDoor
namespace Go.Proofs.YtdlmkblmljhbfaaDoor
set_option linter.unusedSimpArgs false
set_option linter.unusedVariables false
open Go.RowKit Go.Shelf
attribute [local go_sem] bl_al bl_drew bl_drewN bl_refl bx_al bx_drew bx_drewN bx_refl
set_option maxRecDepth 20000
/-- Streams that the laws take. -/
def fewB (l : List Sm) : Bool := decide ((l.length : Int) ≤ 8) && l.all fun s => decide ((s.name.size : Int) ≤ 30)
set_option maxHeartbeats 2000000 in
theorem r_fewStreams (l : List Sm) (A : Option Addr) (c : Nat) (w : World) (hs : Sl cSm 4 w A l) : Calls Tryd.prog 40 #[.slice A l.length c] w (Same (.bool (fewB l)) w) := by
  have Hs := Lib.hid hs
  clear hs
  by_cases h8 : (l.length : Int) ≤ 8
  rotate_left
  · have e : fewB l = false := by simp [fewB, h8]
    rw [e]
    have h8' : (8 : Int) < l.length := by omega
    clear e Hs
    generalize l.length = n at *
    go_enter Tryd.func40, Tryd.ntmps40
    go_wp2
    go_ret
    exact ⟨rfl, rfl⟩
  have he : fewB l = l.all fun s => decide ((s.name.size : Int) ≤ 30) := by simp [fewB, h8]
  have hst := Lib.hid fun k x (hx : l[k]? = some x) => (show ((l.drop k).all fun s => decide ((s.name.size : Int) ≤ 30)) = (decide ((x.name.size : Int) ≤ 30) && ((l.drop (k + 1)).all fun s => decide ((s.name.size : Int) ≤ 30))) by
    have hk := (List.getElem?_eq_some_iff.1 hx).1
    rw [List.drop_eq_getElem_cons hk, (List.getElem?_eq_some_iff.1 hx).2, List.all_cons])
  have hen : Hid (((l.drop l.length).all fun s => decide ((s.name.size : Int) ≤ 30)) = true) := Lib.hid (by rw [List.drop_length]; rfl)
  obtain ⟨g, hg⟩ : ∃ g : Nat → Bool, ∀ k, ((l.drop k).all fun s => decide ((s.name.size : Int) ≤ 30)) = g k := ⟨_, fun _ => rfl⟩
  have he0 : fewB l = g 0 := by rw [he, ← hg]; rfl
  rw [he0]
  simp only [hg] at hst hen
  clear hg he he0
  have h8' : ¬ (8 : Int) < l.length := by omega
  obtain ⟨n, Hn⟩ : ∃ n, Hid (l.length = n) := ⟨_, rfl⟩
  rw [Hn.out] at h8 h8' hen ⊢
  go_enter Tryd.func40, Tryd.ntmps40
  go_wp2
  go_loop [3] (fun i => ∃ k : Nat, k ≤ n ∧ i = .int .i64 k ∧ g 0 = g k) (fun i => n - (intOf i).toNat)
  case atStart => exact ⟨0, Nat.zero_le _, rfl, rfl⟩
  case round =>
    obtain ⟨k, hk, rfl, hi⟩ := hrel
    replace hi := Lib.hid hi
    by_cases hlt : k < n
    · have hx : l[k]? = some (l[k]'(by rw [Hn.out]; exact hlt)) := List.getElem?_eq_getElem _
      generalize l[k]'(by rw [Hn.out]; exact hlt) = x at hx
      have hs := hst.out k x hx
      obtain ⟨b, off, rfl, hc⟩ := Hs.out k x hx
      have c0 : w.cell? ⟨b, off + k * 4, none⟩ = some (.string x.name) := by simpa using hc 0 _ rfl
      clear hc hx
      by_cases hT : (x.name.size : Int) ≤ 30
      · have hT' : ¬ (30 : Int) < x.name.size := by omega
        have h2 : Hid (g k = g (k + 1)) := Lib.hid (by rw [hs]; simp [hT])
        clear hs hT
        go_wp2
        go_round
        case rel => exact ⟨k + 1, by omega, by go_num, by rw [hi.out, h2.out]⟩
        case measure => simp [intOf]; omega
      · have hT' : (30 : Int) < x.name.size := by omega
        have h2 : Hid (g k = false) := Lib.hid (by rw [hs]; simp [hT])
        clear hs hT
        go_wp2
        go_ret
        exact ⟨by rw [hi.out, h2.out] <;> rfl, rfl⟩
    · have e : k = n := by omega
      go_wp2
      go_ret
      exact ⟨by rw [hi.out, e, hen.out] <;> rfl, rfl⟩
theorem infoSm : (Tryd.prog.info? 82).map (fun i => (i.zero, i.size, i.bytes)) = some (some (.agg #[.string ByteArray.empty, .int .i64 0, .int .i64 0, .int .i64 0]), 4, 40) := by kernel_rfl
theorem r_CopyStreams (l : List Sm) (A : Option Addr) (c : Nat) (w : World) (hn : SmIn l A c w) : Calls Tryd.prog 44 #[.slice A l.length c] w (fun e w' => ∃ A2 c2, e = .returned (.slice A2 l.length c2) ∧ Below w.heap.size w w' ∧ SmIn l A2 c2 w') := by
  obtain ⟨i0, hi, hz0, hz1, hz2⟩ := info_parts infoSm
  have Hn := Lib.hid hn
  have hl := hn.len
  clear hn
  go_enter Tryd.func44, Tryd.ntmps44
  go_wp2_with (at_builtin; refine wpList_plain rfl fun _ hK => wp_copy (cs := cSm) (l := l) (A := A) (c := c) (g := w.heap.size) _ _ rfl Tryd.underlying74 hi hz0 hz1 hz2 rfl (by decide) (fun _ => rfl) (fun x u hu => by simp [cSm] at hu; rcases hu with h | h | h | h <;> subst h <;> rfl) rfl rfl (Hn.out.sl.below (bl_al _ (bl_refl _))) hl (by decide) (Blk.new w _ _) (fun A2 c2 w' ho hb => hK _ _ ?_))
  have hb2 : Below w.heap.size w w' := bl_tr (bl_al _ (bl_refl w)) hb
  replace ho := Lib.hid ho
  clear hb
  go_wp2
  go_ret
  refine ⟨A2, c2, rfl, hb2, Hn.out.len, ?_, Hn.out.nm, own_slC (cs := cSm) (fun _ => rfl) (by decide) ho.out⟩
  rcases ho.out.2 with ⟨e, h⟩ | ⟨_, _, _, e, _, _, h, _⟩
  · omega
  · injection e with _ _ e
    omega
theorem knownS_step (l : List Sm) (s : ByteArray) (j : Nat) (y : Sm) (hy : l[j]? = some y) : knownB ((l.take (j + 1)).map (·.name)) s = (knownB ((l.take j).map (·.name)) s || (y.name.toList == s.toList)) := by
  unfold knownB
  rw [List.take_add_one, hy]
  simp [List.any_append]
theorem knownS_hit (l : List Sm) (s : ByteArray) (j k : Nat) (y : Sm) (hy : l[j]? = some y) (hjk : j < k) (h : (y.name.toList == s.toList) = true) : knownB ((l.take k).map (·.name)) s = true := by
  unfold knownB
  rw [List.any_eq_true]
  refine ⟨y.name, ?_, h⟩
  have : (l.take k)[j]? = some y := by rw [List.getElem?_take, if_pos hjk]; exact hy
  exact List.mem_map.2 ⟨y, List.mem_of_getElem? this, rfl⟩
set_option maxHeartbeats 4000000 in
theorem r_CheckStreams (l : List Sm) (A : Option Addr) (c : Nat) (w : World) (hn : SmIn l A c w) :
    Calls Tryd.prog 94 #[.slice A l.length c] w (Ret (.tuple #[.int .i64 (smsChk l).1, .int .i64 (smsChk l).2]) w) := by
  have hN := Lib.hid hn
  have hr0 : Hid (lenE l.length 6 = fstE [unl (decide (0 < l.length)) 10, unl (decide ((l.length : Int) ≤ 6)) 8]) := rfl
  have hs1 : Hid (lenE l.length 6 = 0 → smsChk l = eachS (smErr l) l 0) := fun h => by rw [smsChk, if_pos h]
  have hs2 : Hid (lenE l.length 6 ≠ 0 → smsChk l = (0, lenE l.length 6)) := fun h => by rw [smsChk, if_neg h]
  clear hn
  obtain ⟨n, Hn⟩ : ∃ n, Hid (l.length = n) := ⟨_, rfl⟩
  rw [Hn.out] at hr0 hs1 hs2 ⊢
  by_cases h0 : n = 0
  · subst h0
    have e : smsChk l = (0, 10) := hs2.out (by decide)
    rw [e]
    go_enter Tryd.func94, Tryd.ntmps94
    go_wp2
    go_ret2
    exact ⟨rfl, bl_refl _⟩
  by_cases h6 : (n : Int) ≤ 6
  rotate_left
  · have e1 : lenE n 6 = 8 := by rw [hr0.out]; simp [fstE, unl, h6]; omega
    have e : smsChk l = (0, 8) := by rw [hs2.out (by rw [e1]; decide), e1]
    rw [e]
    have h0' : ((n : Int) == 0) = false := by simp; omega
    have h6' : (6 : Int) < n := by omega
    clear e e1 hr0 hs1 hs2
    go_enter Tryd.func94, Tryd.ntmps94
    go_wp2
    go_ret2
    exact ⟨rfl, bl_refl _⟩
  have e1 : lenE n 6 = 0 := by rw [hr0.out]; simp [fstE, unl, h6]; omega
  rw [hs1.out e1]
  have h0' : ((n : Int) == 0) = false := by simp; omega
  have h6' : ¬ (6 : Int) < n := by omega
  have hn6 : n ≤ 6 := by omega
  clear e1 hr0 hs1 hs2 h0 h6
  go_enter Tryd.func94, Tryd.ntmps94
  go_wp2
  clear h0' h6'
  go_loopw [4] (fun i wr => ∃ k : Nat, k ≤ n ∧ i = .int .i64 k ∧ Below w.heap.size w wr ∧ eachS (smErr l) l 0 = eachS (smErr l) (l.drop k) k) (fun i _ => n - (intOf i).toNat)
  case atStart => exact ⟨0, Nat.zero_le _, rfl, Below.refl _ _, rfl⟩
  case round =>
    obtain ⟨k, hk, rfl, hb0, hi⟩ := hrel
    replace hi := Lib.hid hi
    by_cases hlt : k < n
    · have hx : l[k]? = some (l[k]'(by rw [Hn.out]; exact hlt)) := List.getElem?_eq_getElem _
      generalize l[k]'(by rw [Hn.out]; exact hlt) = x at hx
      have hm : x ∈ l := List.mem_of_getElem? hx
      have hd := Lib.hid (eachS_drop (smErr l) l k x hx)
      have hnm := Lib.hid (hN.out.nm x hm)
      obtain ⟨b, off, hA, hc⟩ := hN.out.sl k x hx
      have hS : Hid (Sl cSm 4 w (some ⟨b, off, none⟩) l) := by rw [← hA]; exact hN.out.sl
      have c0 : wr.cell? ⟨b, off + k * 4, none⟩ = some (.string x.name) := by simpa using kcell hb0 (hc 0 _ rfl)
      have c1 : wr.cell? ⟨b, off + k * 4 + 1, none⟩ = some (.int .i64 x.per) := by simpa using kcell hb0 (hc 1 _ rfl)
      have c2 : wr.cell? ⟨b, off + k * 4 + 2, none⟩ = some (.int .i64 x.dl) := by simpa using kcell hb0 (hc 2 _ rfl)
      have c3 : wr.cell? ⟨b, off + k * 4 + 3, none⟩ = some (.int .i64 x.len) := by simpa using kcell hb0 (hc 3 _ rfl)
      have hre : smErr l k x = fstE [unl (nameB x.name) 4, unl (!knownB ((l.take k).map (·.name)) x.name) 5, unl (inR x.per 1 60 && (inR x.dl 1 x.per && inR x.len 1 20)) 2] := rfl
      clear hc hm hx
      obtain ⟨bn, h⟩ : ∃ b', nameB x.name = b' := ⟨_, rfl⟩
      have hcn := Lib.hid fun W : World => h ▸ r_IsName x.name W hnm.out
      rw [h] at hre
      clear h
      obtain ⟨ba, h⟩ : ∃ b', inR x.per 1 60 = b' := ⟨_, rfl⟩
      have hca := Lib.hid fun W : World => h ▸ r_Within x.per 1 60 W
      rw [h] at hre
      clear h
      obtain ⟨bb, h⟩ : ∃ b', inR x.dl 1 x.per = b' := ⟨_, rfl⟩
      have hcb := Lib.hid fun W : World => h ▸ r_Within x.dl 1 x.per W
      rw [h] at hre
      clear h
      obtain ⟨bc, h⟩ : ∃ b', inR x.len 1 20 = b' := ⟨_, rfl⟩
      have hcc := Lib.hid fun W : World => h ▸ r_Within x.len 1 20 W
      rw [h] at hre
      clear h
      subst hA
      obtain ⟨xn, xp, xd, xl⟩ := x
      dsimp only at *
      go_upto_region 9 with fail
      have hqw := hb0.size
      first
      | apply absB1 (w0 := w) (g0 := wr.heap.size)
      | apply absTB1 (w0 := w) (g0 := wr.heap.size)
      | apply absIB1 (w0 := w) (g0 := wr.heap.size)
      iterate 2 (focus ((with_reducible (repeat' (first | assumption | apply jA | apply jB | apply jC | apply jD | apply jE | apply jF | apply hb3 | apply jG | apply jH | apply jI | apply jJ | apply jK | apply hb3x | (apply jL; first | (simp; done) | rfl) | apply jM | apply jN | apply jO | apply jP | apply jQ | apply jR | apply jS | apply jT (hb := hb3 _ (jA _)) | omega | (simp; done) | (simp; omega) | (dsimp only; omega)))); done))
      intro wb hb0' k0'
      (try simp only [List.setIfInBounds_toArray, List.set_cons_zero, List.set_cons_succ] at k0')
      try clear hb3
      try clear hb0
      try clear k0
      have hb0 := hb0'; clear hb0'
      have k0 := k0'; clear k0'
      clear c0 c1 c2 c3
      have L0 := k0.cell
      cases bn
      · replace hre := Lib.hid hre
        go_wp2_with (go_at_call 114; (with_reducible refine (hcn.out _).mono ?_); rintro e w3 ⟨rfl, hb3⟩)
        go_ret2
        exact ⟨by rw [hi.out, hd.out, hre.out] <;> rfl, bl_tr hb0 hb3⟩
      go_upto_region 11 with (go_at_call 114; (with_reducible refine (hcn.out _).mono ?_); rintro e w3 ⟨rfl, hb3⟩)
      clear L0
      replace hb0 := bl_tr hb0 hb3
      replace k0 := k0.below hb3
      clear hb3 hcn
      go_wp2
      obtain ⟨wo, rfl⟩ : ∃ wo : World, wo = wr := ⟨_, rfl⟩
      go_loopw [6] (fun i wi => ∃ j : Nat, j ≤ k ∧ i = .int .i64 j ∧ Below w.heap.size w wi ∧ Blk wi wo.heap.size 82 #[.string xn, .int .i64 xp, .int .i64 xd, .int .i64 xl] ∧ knownB ((l.take j).map (·.name)) xn = false) (fun i _ => k - (intOf i).toNat)
      case atStart => exact ⟨0, Nat.zero_le _, rfl, hb0, k0, by simp [knownB]⟩
      case round =>
        clear hb0 k0
        obtain ⟨j, hj, rfl, hb0, k0, hkn⟩ := hrel
        replace hkn := Lib.hid hkn
        by_cases hjk : j < k
        · have hy : l[j]? = some (l[j]'(by rw [Hn.out]; omega)) := List.getElem?_eq_getElem _
          generalize l[j]'(by rw [Hn.out]; omega) = y at hy
          obtain ⟨b2, off2, e2, hc2⟩ := hS.out j y hy
          cases e2
          have d0 : ∀ W, Below wr.heap.size wr W → W.cell? ⟨b, off + j * 4, none⟩ = some (.string y.name) := later (by simpa using kcell hb0 (hc2 0 _ rfl))
          have hks := Lib.hid (knownS_step l xn j y hy)
          have hkh := Lib.hid (knownS_hit l xn j k y hy hjk)
          clear hc2 hy
          have hjn : (j : Int) < n := by omega
          have hjn2 : j < n := by omega
          go_upto_region 14 with fail
          have Lk0 := k0.later
          have Fk0 := k0.laterF
          have Qk0 := k0.lt
          refine wp_any (w0 := wr) ⟨[], [], [some 33, some 34, some 35, some 36, some 37, some 38, some 39, some 40], [[], [], [0, 1], [0, 1, 2], [0, 1, 2, 3], [], [5], [0, 1, 2, 3, 4, 5, 6]], [[], [], [0, 1], [2], [3], [], [5], [4, 6]]⟩ (fun _ => []) (by kernel_rfl) (by kernel_rfl) (by (with_reducible (repeat' (first | assumption | apply jA | apply jB | apply jC | apply jD | apply jE | apply jF | apply hb3 | omega | (simp; done) | (simp; omega) | (dsimp only; omega))))) (fun u => by simp only [putD, Act.put, List.setIfInBounds_toArray, List.set_cons_zero, List.set_cons_succ, Nat.zero_add, Nat.reduceAdd]; rfl) ?_
          apply RGW.on (i := 0) rfl
          · (simp only [gA, gB, gC] <;> rfl)
          · intro γ u W hcur hd
            clear hd
            (try dsimp only)
            refine ⟨rfl, ?_⟩
            go_simp <;> (try go_bits) <;> with_reducible rfl
          · exact fun _ _ _ => rfl
          · rfl
          dsimp only [nA, cA]
          apply RGW.on (i := 1) rfl
          · (simp only [gA, gB, gC] <;> rfl)
          · intro γ u W hcur hd
            clear hd
            (try dsimp only)
            refine ⟨rfl, ?_⟩
            go_simp <;> (try go_bits) <;> with_reducible rfl
          · exact fun _ _ _ => rfl
          · rfl
          dsimp only [nA, cA]
          apply RGW.on (i := 2) rfl
          · (simp only [gA, gB, gC] <;> rfl)
          · intro γ u W hcur hd
            obtain ⟨⟨h0, -, -⟩, ⟨h1, -, -⟩, -⟩ := hd
            dsimp only at h0 h1
            (try simp only [h0, h1])
            refine ⟨rfl, ?_⟩
            go_simp <;> (try go_bits) <;> with_reducible rfl
          · exact fun _ _ _ => rfl
          · rfl
          dsimp only [nA, cA]
          apply RGW.on (i := 3) rfl
          · (simp only [gA, gB, gC] <;> rfl)
          · intro γ u W hcur hd
            obtain ⟨⟨h2, -, -⟩, -⟩ := hd
            dsimp only at h2
            (try simp only [h2])
            refine ⟨rfl, ?_⟩
            go_simp <;> (try go_bits) <;> with_reducible rfl
          · exact fun _ _ _ => rfl
          · rfl
          dsimp only [nA, cA]
          apply RGW.on (i := 4) rfl
          · (simp only [gA, gB, gC] <;> rfl)
          · intro γ u W hcur hd
            obtain ⟨⟨h3, -, -⟩, -⟩ := hd
            dsimp only at h3
            (try simp only [h3])
            refine ⟨rfl, ?_⟩
            go_simp <;> (try go_bits) <;> with_reducible rfl
          · exact fun _ _ _ => rfl
          · rfl
          dsimp only [nA, cA]
          apply RGW.on (i := 5) rfl
          · (simp only [gA, gB, gC] <;> rfl)
          · intro γ u W hcur hd
            clear hd
            (try dsimp only)
            refine ⟨rfl, ?_⟩
            go_simp <;> (try go_bits) <;> with_reducible rfl
          · exact fun _ _ _ => rfl
          · rfl
          dsimp only [nA, cA]
          apply RGW.on (i := 6) rfl
          · (simp only [gA, gB, gC] <;> rfl)
          · intro γ u W hcur hd
            obtain ⟨⟨h5, -, -⟩, -⟩ := hd
            dsimp only at h5
            (try simp only [h5])
            refine ⟨rfl, ?_⟩
            go_simp <;> (try go_bits) <;> with_reducible rfl
          · exact fun _ _ _ => rfl
          · rfl
          dsimp only [nA, cA]
          apply RGW.on (i := 7) rfl
          · (simp only [gA, gB, gC] <;> rfl)
          · intro γ u W hcur hd
            obtain ⟨⟨h4, -, -⟩, ⟨h6, -, -⟩, -⟩ := hd
            dsimp only at h4 h6
            (try simp only [h4, h6])
            refine ⟨rfl, ?_⟩
            go_simp <;> (try go_bits) <;> with_reducible rfl
          · exact fun _ _ _ => rfl
          · rfl
          dsimp only [nA, cA]
          refine RGW.fin (fun γ u wj hwj hd hdis => ?_)
          obtain ⟨⟨h0, -, -⟩, ⟨h1, -, -⟩, ⟨h2, -, -⟩, ⟨h3, -, -⟩, ⟨h4, -, -⟩, ⟨h5, -, -⟩, ⟨h6, -, -⟩, ⟨h7, -, -⟩, -⟩ := hd
          dsimp only at h0 h1 h2 h3 h4 h5 h6 h7
          clear hdis
          simp only [h0, h1, h2, h3, h4, h5, h6, h7]
          clear h7 h6 h5 h4 h3 h2 h1 h0
          clear u
          simp only [List.map_nil]
          refine PlanW.done ?_
          have hb3 := bl_tt hwj
          have hbj := bl_tr hb0 hwj
          have kj := k0.below hwj
          cases hyx : y.name.toList == xn.toList
          · go_wp2
            go_roundw
            case rel => exact ⟨j + 1, by omega, by go_num, hbj, kj, by rw [hks.out, hkn.out, hyx]; rfl⟩
            case measure => simp [intOf]; omega
          · rw [hkh.out hyx] at hre
            replace hre := Lib.hid hre
            go_wp2
            go_ret2
            exact ⟨by rw [hi.out, hd.out, hre.out] <;> rfl, hbj⟩
        · obtain rfl : j = k := by omega
          rw [hkn.out] at hre
          have L0 := k0.cell
          cases ba
          · replace hre := Lib.hid hre
            go_wp2_with (go_at_call 21; (first | (with_reducible refine (hca.out _).mono ?_) | (with_reducible refine (hcb.out _).mono ?_) | (with_reducible refine (hcc.out _).mono ?_)); rintro e w3 ⟨rfl, rfl⟩)
            go_ret2
            exact ⟨by rw [hi.out, hd.out, hre.out] <;> rfl, hb0⟩
          cases bb
          · replace hre := Lib.hid hre
            go_wp2_with (go_at_call 21; (first | (with_reducible refine (hca.out _).mono ?_) | (with_reducible refine (hcb.out _).mono ?_) | (with_reducible refine (hcc.out _).mono ?_)); rintro e w3 ⟨rfl, rfl⟩)
            go_ret2
            exact ⟨by rw [hi.out, hd.out, hre.out] <;> rfl, hb0⟩
          cases bc
          · replace hre := Lib.hid hre
            go_wp2_with (go_at_call 21; (first | (with_reducible refine (hca.out _).mono ?_) | (with_reducible refine (hcb.out _).mono ?_) | (with_reducible refine (hcc.out _).mono ?_)); rintro e w3 ⟨rfl, rfl⟩)
            go_ret2
            exact ⟨by rw [hi.out, hd.out, hre.out] <;> rfl, hb0⟩
          replace hre := Lib.hid hre
          go_wp2_with (go_at_call 21; (first | (with_reducible refine (hca.out _).mono ?_) | (with_reducible refine (hcb.out _).mono ?_) | (with_reducible refine (hcc.out _).mono ?_)); rintro e w3 ⟨rfl, rfl⟩)
          go_roundw
          case rel => exact ⟨j + 1, by omega, by go_num, hb0, by rw [hi.out, hd.out, hre.out] <;> rfl⟩
          case measure => simp [intOf]; omega
    · go_wp2
      go_ret2
      have : k = l.length := by have := Hn.out; omega
      exact ⟨by rw [hi.out, this]; simp [eachS], hb0⟩
theorem r_StreamsErr (l : List Sm) (A : Option Addr) (c : Nat) (w : World) (hn : SmIn l A c w) : Calls Tryd.prog 41 #[.slice A l.length c] w (Ret (.int .i64 (smsErr l)) w) := by
  have hcall := Lib.hid (r_CheckStreams l A c w hn)
  have he : Hid ((smsChk l).2 = smsErr l) := rfl
  clear hn
  generalize l.length = n at *
  go_enter Tryd.func41, Tryd.ntmps41
  go_wp2_with fail
  refine hcall.out.mono ?_
  rintro e w3 ⟨rfl, hb3⟩
  go_wp2
  go_ret
  exact ⟨by rw [he.out] <;> rfl, hb3⟩
end Go.Proofs.YtdlmkblmljhbfaaDoor
namespace Go.Proofs.YtdlmkblmljhbfaaDoor
set_option linter.unusedSimpArgs false
set_option linter.unusedVariables false
open Go.RowKit Go.Shelf
attribute [local go_sem] bl_al bl_drew bl_drewN bl_refl bx_al bx_drew bx_drewN bx_refl
set_option maxRecDepth 20000
theorem md_neg {n d : Int} (hd : 0 < d) (h : n.tmod d < 0) : n.tmod d + d = n % d := by
  have h1 := Int.mul_tdiv_add_tmod n d
  have h2 := Int.lt_tmod_of_pos n hd
  have h3 := (Int.ediv_emod_unique (a := n) (b := d) (r := n.tmod d + d) (q := n.tdiv d - 1) hd).2 ⟨by rw [Int.mul_sub]; omega, by omega, by omega⟩
  exact h3.2.symm
theorem md_pos {n d : Int} (hd : 0 < d) (h : ¬ n.tmod d < 0) : n.tmod d = n % d := by
  have h1 := Int.mul_tdiv_add_tmod n d
  have h2 := Int.tmod_lt_of_pos n hd
  have h3 := (Int.ediv_emod_unique (a := n) (b := d) (r := n.tmod d) (q := n.tdiv d) hd).2 ⟨by omega, by omega, h2⟩
  exact h3.2.symm
theorem r_Mod (n d : Int) (w : World) (h3 : 0 < d) (h4 : d ≤ 1000000000000) : Calls Tryd.prog 31 #[.int .i64 n, .int .i64 d] w (Same (.int .i64 (n % d)) w) := by
  have q3 := Int.lt_tmod_of_pos n h3
  have q4 := Int.tmod_lt_of_pos n h3
  have hd : d ≠ 0 := by omega
  by_cases hT : n.tmod d < 0
  · have e := Lib.hid (md_neg h3 hT)
    have hT' : decide (n.tmod d < 0) = true := by simp [hT]
    go_enter Tryd.func31, Tryd.ntmps31
    go_wp2
    all_goals (go_ret; exact ⟨by rw [← e.out] <;> rfl, rfl⟩)
  · have e := Lib.hid (md_pos h3 hT)
    have hT' : decide (n.tmod d < 0) = false := by simp [hT]
    go_enter Tryd.func31, Tryd.ntmps31
    go_wp2
    all_goals (go_ret; exact ⟨by rw [← e.out] <;> rfl, rfl⟩)
set_option maxHeartbeats 2000000 in
theorem r_Has (l : List Int) (x : Int) (A : Option Addr) (c : Nat) (w : World) (hl : Sl cI 1 w A l) (hll : l.length ≤ 1000) :
    Calls Tryd.prog 48 #[.slice A l.length c, .int .i64 x] w (Ret (.bool (l.contains x)) w) := by
  have Hl := Lib.hid hl
  obtain ⟨n, Hn⟩ : ∃ n, Hid (l.length = n) := ⟨_, rfl⟩
  rw [Hn.out] at hll ⊢
  clear hl
  go_enter Tryd.func48, Tryd.ntmps48
  go_wp2
  go_loopw [5] (fun i wr => ∃ k : Nat, k ≤ n ∧ i = .int .i64 k ∧ Below w.heap.size w wr ∧ l.contains x = (l.drop k).contains x) (fun i _ => n - (intOf i).toNat)
  case atStart => exact ⟨0, Nat.zero_le _, rfl, Below.refl _ _, rfl⟩
  case round =>
    obtain ⟨k, hk, rfl, hb, hi⟩ := hrel
    replace hi := Lib.hid hi
    by_cases hlt : k < n
    · have hx : l[k]? = some (l[k]'(by rw [Hn.out]; exact hlt)) := List.getElem?_eq_getElem _
      generalize l[k]'(by rw [Hn.out]; exact hlt) = y at hx
      obtain ⟨b, off, hA, hc⟩ := Hl.out k y hx
      have c0 : wr.cell? ⟨b, off + k, none⟩ = some (.int .i64 y) := by have := kcell hb (hc 0 _ rfl); simpa using this
      have hd : Hid (l.drop k = y :: l.drop (k + 1)) := by
        have hk' := (List.getElem?_eq_some_iff.1 hx).1
        refine Lib.hid ?_
        rw [List.drop_eq_getElem_cons hk', (List.getElem?_eq_some_iff.1 hx).2]
      clear hc hx
      subst hA
      cases hyx : y == x
      · have hyx' : (x == y) = false := by rw [Bool.eq_false_iff] at hyx ⊢; intro h; exact hyx (by rw [beq_iff_eq] at h ⊢; exact h.symm)
        go_wp2
        go_roundw
        case rel => exact ⟨k + 1, by omega, by go_num, hb, by rw [hi.out, hd.out, List.contains_cons, hyx', Bool.false_or]⟩
        case measure => simp [intOf]; omega
      · have hyx' : (x == y) = true := by rw [beq_iff_eq] at hyx ⊢; exact hyx.symm
        go_wp2
        go_ret
        exact ⟨by rw [hi.out, hd.out, List.contains_cons, hyx', Bool.true_or] <;> rfl, hb⟩
    · go_wp2
      go_ret
      have : k = l.length := by have := Hn.out; omega
      exact ⟨by rw [hi.out, this]; simp, hb⟩
end Go.Proofs.YtdlmkblmljhbfaaDoor
namespace Go.Proofs.YtdlmkblmljhbfaaDoor
set_option linter.unusedSimpArgs false
set_option linter.unusedVariables false
open Go.RowKit Go.Shelf
attribute [local go_sem] bl_al bl_drew bl_drewN bl_refl bx_al bx_drew bx_drewN bx_refl
set_option maxRecDepth 20000
/-- The demand of a stream, of streams. -/
def dmd1 (s : Sm) (t : Int) : Int := if s.dl ≤ t then s.len * (1 + (t - s.dl) / s.per) else 0
def dmK (l : List Sm) (t : Int) (k : Nat) : Int := ((l.take k).map fun s => dmd1 s t).foldl (· + ·) 0
def dmdS (l : List Sm) (t : Int) : Int := dmK l t l.length
theorem dmK_next {l : List Sm} {t : Int} {k : Nat} {x : Sm} (hx : l[k]? = some x) : dmK l t (k + 1) = dmK l t k + dmd1 x t := by
  unfold dmK
  rw [List.take_add_one, hx]
  simp [List.foldl_append]
theorem dmd1_bd {x : Sm} (hx : OkSm x) {t : Int} (h0 : 0 ≤ t) (h1 : t ≤ 10000) : 0 ≤ dmd1 x t ∧ dmd1 x t ≤ 300000 := by
  obtain ⟨h2, h3, h4, h5, h6, h7⟩ := hx
  unfold dmd1
  split
  · have ha : 0 ≤ (t - x.dl) / x.per := Int.ediv_nonneg (by omega) (by omega)
    have hb : (t - x.dl) / x.per ≤ t - x.dl := Int.ediv_le_self _ (by omega)
    have hc := Int.mul_le_mul_of_nonneg_right h7 (show 0 ≤ 1 + (t - x.dl) / x.per by omega)
    have hd := Int.mul_nonneg (show 0 ≤ x.len by omega) (show 0 ≤ 1 + (t - x.dl) / x.per by omega)
    omega
  · omega
theorem dmK_bd {l : List Sm} (hl : ∀ o ∈ l, OkSm o) {t : Int} (h0 : 0 ≤ t) (h1 : t ≤ 10000) : ∀ k : Nat, k ≤ l.length → 0 ≤ dmK l t k ∧ dmK l t k ≤ k * 300000
  | 0, _ => by simp [dmK]
  | k + 1, h => by
    have ih := dmK_bd hl h0 h1 k (by omega)
    have hx := List.getElem?_eq_getElem (show k < l.length by omega)
    have := dmd1_bd (hl _ (List.getElem_mem (show k < l.length by omega))) h0 h1
    rw [dmK_next hx]
    omega
theorem dmd1_yes {x : Sm} {t : Int} (h : x.dl ≤ t) : dmd1 x t = x.len * (1 + (t - x.dl) / x.per) := by rw [dmd1, if_pos h]
theorem dmd1_no {x : Sm} {t : Int} (h : ¬ x.dl ≤ t) : dmd1 x t = 0 := by rw [dmd1, if_neg h]
set_option maxHeartbeats 2000000 in
theorem c_demand (l : List Sm) (t : Int) (A : Option Addr) (c : Nat) (w : World) (hs : Sl cSm 4 w A l) (hl : l.length ≤ 6) (hok : ∀ o ∈ l, OkSm o) (h0 : 0 ≤ t) (h1 : t ≤ 10000) :
    Calls Tryd.prog 119 #[.slice A l.length c, .int .i64 t] w (Ret (.int .i64 (dmdS l t)) w) := by
  have Hs := Lib.hid hs
  have hbd := Lib.hid fun k hk => dmK_bd hok h0 h1 k hk
  have hnx := Lib.hid fun k x (hx : l[k]? = some x) => dmK_next (t := t) hx
  have hok' := Lib.hid fun k x (hx : l[k]? = some x) => hok x (List.mem_of_getElem? hx)
  have hz : Hid (dmK l t 0 = 0) := rfl
  have hend : Hid (dmK l t l.length = dmdS l t) := rfl
  clear hs hok
  obtain ⟨g, hg⟩ : ∃ g : Nat → Int, ∀ k, dmK l t k = g k := ⟨_, fun _ => rfl⟩
  simp only [hg] at hbd hnx hz hend
  clear hg
  obtain ⟨n, Hn⟩ : ∃ n, Hid (l.length = n) := ⟨_, rfl⟩
  rw [Hn.out] at hl hbd hend ⊢
  go_enter Tryd.func119, Tryd.ntmps119
  go_wp2
  go_loopw [5, 10] (fun s i wr => ∃ k : Nat, k ≤ n ∧ i = .int .i64 k ∧ s = .int .i64 (g k) ∧ Below w.heap.size w wr) (fun _ i _ => n - (intOf i).toNat)
  case atStart => exact ⟨0, Nat.zero_le _, rfl, by rw [hz.out], Below.refl _ _⟩
  case round =>
    obtain ⟨k, hk, rfl, rfl, hb0⟩ := hrel
    by_cases hkn : k < n
    · have hx : l[k]? = some (l[k]'(by rw [Hn.out]; exact hkn)) := List.getElem?_eq_getElem _
      generalize l[k]'(by rw [Hn.out]; exact hkn) = x at hx
      have ho := hok'.out k x hx
      have hst := hnx.out k x hx
      have hb1 := hbd.out k (by omega)
      have hb2 := hbd.out (k + 1) (by omega)
      have htm := dmd1_bd ho h0 h1
      obtain ⟨hp1, hp2, hp3, hp4, hp5, hp6⟩ := ho
      obtain ⟨b, off, rfl, hc⟩ := (Hs.out.below hb0) k x hx
      have c0 := hc 0 _ rfl
      have c1 := hc 1 _ rfl
      have c2 := hc 2 _ rfl
      have c3 := hc 3 _ rfl
      simp only [Nat.add_zero] at c0
      clear hc hx
      have hqw := hb0.size
      by_cases hdl : x.dl ≤ t
      · rw [dmd1_yes hdl] at htm hst
        have hst' := Lib.hid hst
        have hq1 : 0 ≤ (t - x.dl) / x.per := Int.ediv_nonneg (by omega) (by omega)
        have hq2 : (t - x.dl) / x.per ≤ t - x.dl := Int.ediv_le_self _ (by omega)
        have hp0 : ¬ x.per = 0 := by omega
        rw [hst] at hb2
        clear hst
        go_upto_region 6 with fail
        first
        | apply absB1 (w0 := w) (g0 := wr.heap.size)
        | apply absTB1 (w0 := w) (g0 := wr.heap.size)
        | apply absIB1 (w0 := w) (g0 := wr.heap.size)
        iterate 2 (focus ((with_reducible (repeat' (first | assumption | apply jA | apply jB | apply jC | apply jD | apply jE | apply jF | apply hb3 | apply jG | apply jH | apply jI | apply jJ | apply jK | apply hb3x | (apply jL; first | (simp; done) | rfl) | apply jM | apply jN | apply jO | apply jP | apply jQ | apply jR | apply jS | apply jT (hb := hb3 _ (jA _)) | omega | (simp; done) | (simp; omega) | (dsimp only; omega)))); done))
        intro wb hb0' k1'
        (try simp only [List.setIfInBounds_toArray, List.set_cons_zero, List.set_cons_succ] at k1')
        try clear hb3
        try clear hb0
        try clear k1
        have hb0 := hb0'; clear hb0'
        have k1 := k1'; clear k1'
        clear c0 c1 c2 c3
        have Lk1 := k1.later
        have Fk1 := k1.laterF
        have Qk1 := k1.lt
        refine wp_any (w0 := wb) ⟨[13], [], [some 18, some 19, some 20, some 21, some 22, some 23, some 24, some 25, some 26, some 27, some 28, some 29, some 30, none], [[], [], [1], [], [], [4], [3, 4, 5], [], [7], [3, 4, 5, 6, 7, 8], [3, 4, 5, 6, 7, 8, 9], [1, 2, 3, 4, 5, 6, 7, 8, 9, 10], [0, 1, 2, 3, 4, 5, 6, 7, 8, 9, 10, 11], [0, 1, 2, 3, 4, 5, 6, 7, 8, 9, 10, 11, 12]], [[], [], [1], [], [], [4], [3, 5], [], [7], [6, 8], [9], [2, 10], [0, 11], []]⟩ (fun _ => []) (by kernel_rfl) (by kernel_rfl) (by (with_reducible (repeat' (first | assumption | apply jA | apply jB | apply jC | apply jD | apply jE | apply jF | apply hb3 | omega | (simp; done) | (simp; omega) | (dsimp only; omega))))) (fun u => by simp only [putD, Act.put, List.setIfInBounds_toArray, List.set_cons_zero, List.set_cons_succ, Nat.zero_add, Nat.reduceAdd]; rfl) ?_
        apply RGW.on (i := 0) rfl
        · (simp only [gA, gB, gC] <;> rfl)
        · intro γ u W hcur hd
          clear hd
          (try dsimp only)
          refine ⟨rfl, ?_⟩
          go_simp <;> (try go_bits) <;> with_reducible rfl
        · exact fun _ _ _ => rfl
        · rfl
        dsimp only [nA, cA]
        apply RGW.on (i := 1) rfl
        · (simp only [gA, gB, gC] <;> rfl)
        · intro γ u W hcur hd
          clear hd
          (try dsimp only)
          refine ⟨rfl, ?_⟩
          go_simp <;> (try go_bits) <;> with_reducible rfl
        · exact fun _ _ _ => rfl
        · rfl
        dsimp only [nA, cA]
        apply RGW.on (i := 2) rfl
        · (simp only [gA, gB, gC] <;> rfl)
        · intro γ u W hcur hd
          obtain ⟨⟨h1, -, -⟩, -⟩ := hd
          dsimp only at h1
          (try simp only [h1])
          refine ⟨rfl, ?_⟩
          go_simp <;> (try go_bits) <;> with_reducible rfl
        · exact fun _ _ _ => rfl
        · rfl
        dsimp only [nA, cA]
        apply RGW.on (i := 3) rfl
        · (simp only [gA, gB, gC] <;> rfl)
        · intro γ u W hcur hd
          clear hd
          (try dsimp only)
          refine ⟨rfl, ?_⟩
          go_simp <;> (try go_bits) <;> with_reducible rfl
        · exact fun _ _ _ => rfl
        · rfl
        dsimp only [nA, cA]
        apply RGW.on (i := 4) rfl
        · (simp only [gA, gB, gC] <;> rfl)
        · intro γ u W hcur hd
          clear hd
          (try dsimp only)
          refine ⟨rfl, ?_⟩
          go_simp <;> (try go_bits) <;> with_reducible rfl
        · exact fun _ _ _ => rfl
        · rfl
        dsimp only [nA, cA]
        apply RGW.on (i := 5) rfl
        · (simp only [gA, gB, gC] <;> rfl)
        · intro γ u W hcur hd
          obtain ⟨⟨h4, -, -⟩, -⟩ := hd
          dsimp only at h4
          (try simp only [h4])
          refine ⟨rfl, ?_⟩
          go_simp <;> (try go_bits) <;> with_reducible rfl
        · exact fun _ _ _ => rfl
        · rfl
        dsimp only [nA, cA]
        apply RGW.on (i := 6) rfl
        · (simp only [gA, gB, gC] <;> rfl)
        · intro γ u W hcur hd
          obtain ⟨⟨h3, -, -⟩, ⟨h5, -, -⟩, -⟩ := hd
          dsimp only at h3 h5
          (try simp only [h3, h5])
          refine ⟨rfl, ?_⟩
          go_simp <;> (try go_bits) <;> with_reducible rfl
        · exact fun _ _ _ => rfl
        · rfl
        dsimp only [nA, cA]
        apply RGW.on (i := 7) rfl
        · (simp only [gA, gB, gC] <;> rfl)
        · intro γ u W hcur hd
          clear hd
          (try dsimp only)
          refine ⟨rfl, ?_⟩
          go_simp <;> (try go_bits) <;> with_reducible rfl
        · exact fun _ _ _ => rfl
        · rfl
        dsimp only [nA, cA]
        apply RGW.on (i := 8) rfl
        · (simp only [gA, gB, gC] <;> rfl)
        · intro γ u W hcur hd
          obtain ⟨⟨h7, -, -⟩, -⟩ := hd
          dsimp only at h7
          (try simp only [h7])
          refine ⟨rfl, ?_⟩
          go_simp <;> (try go_bits) <;> with_reducible rfl
        · exact fun _ _ _ => rfl
        · rfl
        dsimp only [nA, cA]
        apply RGW.on (i := 9) rfl
        · (simp only [gA, gB, gC] <;> rfl)
        · intro γ u W hcur hd
          obtain ⟨⟨h6, -, -⟩, ⟨h8, -, -⟩, -⟩ := hd
          dsimp only at h6 h8
          (try simp only [h6, h8])
          refine ⟨rfl, ?_⟩
          go_simp <;> (try go_bits) <;> with_reducible rfl
        · exact fun _ _ _ => rfl
        · rfl
        dsimp only [nA, cA]
        apply RGW.on (i := 10) rfl
        · (simp only [gA, gB, gC] <;> rfl)
        · intro γ u W hcur hd
          obtain ⟨⟨h9, -, -⟩, -⟩ := hd
          dsimp only at h9
          (try simp only [h9])
          refine ⟨rfl, ?_⟩
          go_simp <;> (try go_bits) <;> with_reducible rfl
        · exact fun _ _ _ => rfl
        · rfl
        dsimp only [nA, cA]
        apply RGW.on (i := 11) rfl
        · (simp only [gA, gB, gC] <;> rfl)
        · intro γ u W hcur hd
          obtain ⟨⟨h2, -, -⟩, ⟨h10, -, -⟩, -⟩ := hd
          dsimp only at h2 h10
          (try simp only [h2, h10])
          refine ⟨rfl, ?_⟩
          go_simp <;> (try go_bits) <;> with_reducible rfl
        · exact fun _ _ _ => rfl
        · rfl
        dsimp only [nA, cA]
        apply RGW.on (i := 12) rfl
        · (simp only [gA, gB, gC] <;> rfl)
        · intro γ u W hcur hd
          obtain ⟨⟨h0, -, -⟩, ⟨h11, -, -⟩, -⟩ := hd
          dsimp only at h0 h11
          (try simp only [h0, h11])
          refine ⟨rfl, ?_⟩
          go_simp <;> (try go_bits) <;> with_reducible rfl
        · exact fun _ _ _ => rfl
        · rfl
        dsimp only [nA, cA]
        refine RGW.skip (i := 13) rfl rfl ?_
        dsimp only [nA, cA]
        refine RGW.fin (fun γ u wc hwc hd hdis => ?_)
        obtain ⟨⟨h0, -, -⟩, ⟨h1, -, -⟩, ⟨h2, -, -⟩, ⟨h3, -, -⟩, ⟨h4, -, -⟩, ⟨h5, -, -⟩, ⟨h6, -, -⟩, ⟨h7, -, -⟩, ⟨h8, -, -⟩, ⟨h9, -, -⟩, ⟨h10, -, -⟩, ⟨h11, -, -⟩, ⟨h12, -, -⟩, -⟩ := hd
        dsimp only at h0 h1 h2 h3 h4 h5 h6 h7 h8 h9 h10 h11 h12
        clear hdis
        simp only [h0, h1, h2, h3, h4, h5, h6, h7, h8, h9, h10, h11, h12]
        clear h12 h11 h10 h9 h8 h7 h6 h5 h4 h3 h2 h1 h0
        clear u
        simp only [List.map_cons, List.map_nil]
        apply PlanW.step
        · (simp only [gA, gB, gC] <;> rfl)
        · rfl
        intro K hK
        go_simp
        refine hK.out _ _ (by with_reducible first | assumption | exact bx_refl _ _) (fun hcur => ?_)
        clear hK K
        try simp only [Act.put, List.setIfInBounds_toArray, List.set_cons_zero, List.set_cons_succ]
        refine PlanW.done ?_
        have hb3 := bl_tt hwc
        have hbw := hb3 _ hb0
        clear Lk1 Fk1
        go_wp2
        go_roundw
        case rel => exact ⟨k + 1, by omega, by go_num, by rw [hst'.out], hbw⟩
        case measure => simp [intOf]; omega
      · rw [dmd1_no hdl] at hst
        have hst' := Lib.hid hst
        clear hst
        go_upto_region 5 with fail
        first
        | apply absB1 (w0 := w) (g0 := wr.heap.size)
        | apply absTB1 (w0 := w) (g0 := wr.heap.size)
        | apply absIB1 (w0 := w) (g0 := wr.heap.size)
        iterate 2 (focus ((with_reducible (repeat' (first | assumption | apply jA | apply jB | apply jC | apply jD | apply jE | apply jF | apply hb3 | apply jG | apply jH | apply jI | apply jJ | apply jK | apply hb3x | (apply jL; first | (simp; done) | rfl) | apply jM | apply jN | apply jO | apply jP | apply jQ | apply jR | apply jS | apply jT (hb := hb3 _ (jA _)) | omega | (simp; done) | (simp; omega) | (dsimp only; omega)))); done))
        intro wb hb0' k1'
        (try simp only [List.setIfInBounds_toArray, List.set_cons_zero, List.set_cons_succ] at k1')
        try clear hb3
        try clear hb0
        try clear k1
        have hb0 := hb0'; clear hb0'
        have k1 := k1'; clear k1'
        clear c0 c1 c2 c3
        have L1 := k1.cell
        go_wp2
        go_roundw
        case rel => exact ⟨k + 1, by omega, by go_num, by rw [hst'.out]; simp, hb0⟩
        case measure => simp [intOf]; omega
    · have e : k = n := by omega
      go_wp2
      go_ret
      exact ⟨by rw [e, hend.out] <;> rfl, hb0⟩
theorem r_Floor (n d : Int) (w : World) (h0 : 0 ≤ n) (h1 : n ≤ 1000000000000) (h3 : 0 < d) (h4 : d ≤ 1000000000000) : Calls Tryd.prog 121 #[.int .i64 n, .int .i64 d] w (Same (.int .i64 (n / d)) w) := by
  have hd : d ≠ 0 := by omega
  have hq1 : 0 ≤ n / d := Int.ediv_nonneg (by omega) (by omega)
  have hq2 : n / d ≤ n := Int.ediv_le_self _ (by omega)
  have hr : 0 ≤ n % d := Int.emod_nonneg _ hd
  go_enter Tryd.func121, Tryd.ntmps121
  go_wp2
  go_ret
  exact ⟨rfl, rfl⟩
set_option maxHeartbeats 2000000 in
theorem r_Demand (l : List Sm) (t : Int) (A : Option Addr) (c : Nat) (w : World) (hs : Sl cSm 4 w A l) (hl : l.length ≤ 6) (hok : ∀ o ∈ l, OkSm o) (h0 : 0 ≤ t) (h1 : t ≤ 10000) :
    Calls Tryd.prog 61 #[.slice A l.length c, .int .i64 t] w (Ret (.int .i64 (dmdS l t)) w) := by
  have Hs := Lib.hid hs
  have hbd := Lib.hid fun k hk => dmK_bd hok h0 h1 k hk
  have hnx := Lib.hid fun k x (hx : l[k]? = some x) => dmK_next (t := t) hx
  have hok' := Lib.hid fun k x (hx : l[k]? = some x) => hok x (List.mem_of_getElem? hx)
  have hz : Hid (dmK l t 0 = 0) := rfl
  have hend : Hid (dmK l t l.length = dmdS l t) := rfl
  clear hs hok
  obtain ⟨g, hg⟩ : ∃ g : Nat → Int, ∀ k, dmK l t k = g k := ⟨_, fun _ => rfl⟩
  simp only [hg] at hbd hnx hz hend
  clear hg
  obtain ⟨n, Hn⟩ : ∃ n, Hid (l.length = n) := ⟨_, rfl⟩
  rw [Hn.out] at hl hbd hend ⊢
  go_enter Tryd.func61, Tryd.ntmps61
  go_wp2
  go_loopw [5, 6] (fun s i wr => ∃ k : Nat, k ≤ n ∧ i = .int .i64 k ∧ s = .int .i64 (g k) ∧ Below w.heap.size w wr) (fun _ i _ => n - (intOf i).toNat)
  case atStart => exact ⟨0, Nat.zero_le _, rfl, by rw [hz.out], Below.refl _ _⟩
  case round =>
    obtain ⟨k, hk, rfl, rfl, hb0⟩ := hrel
    by_cases hkn : k < n
    · have hx : l[k]? = some (l[k]'(by rw [Hn.out]; exact hkn)) := List.getElem?_eq_getElem _
      generalize l[k]'(by rw [Hn.out]; exact hkn) = x at hx
      have ho := hok'.out k x hx
      have hst := hnx.out k x hx
      have hb1 := hbd.out k (by omega)
      have hb2 := hbd.out (k + 1) (by omega)
      have htm := dmd1_bd ho h0 h1
      obtain ⟨hp1, hp2, hp3, hp4, hp5, hp6⟩ := ho
      obtain ⟨b, off, rfl, hc⟩ := (Hs.out.below hb0) k x hx
      have c1 : ∀ W, Below wr.heap.size wr W → W.cell? ⟨b, off + k * 4 + 1, none⟩ = some (.int .i64 x.per) := later (hc 1 _ rfl)
      have c2 : ∀ W, Below wr.heap.size wr W → W.cell? ⟨b, off + k * 4 + 2, none⟩ = some (.int .i64 x.dl) := later (hc 2 _ rfl)
      have c3 : ∀ W, Below wr.heap.size wr W → W.cell? ⟨b, off + k * 4 + 3, none⟩ = some (.int .i64 x.len) := later (hc 3 _ rfl)
      clear hc hx
      have c2' := c2 wr (bl_refl _)
      by_cases hdl : x.dl ≤ t
      · rw [dmd1_yes hdl] at htm hst
        have hst' := Lib.hid hst
        have hq1 : 0 ≤ (t - x.dl) / x.per := Int.ediv_nonneg (by omega) (by omega)
        have hq2 : (t - x.dl) / x.per ≤ t - x.dl := Int.ediv_le_self _ (by omega)
        have hfl := Lib.hid fun W : World => r_Floor (t - x.dl) x.per W (by omega) (by omega) (by omega) (by omega)
        rw [hst] at hb2
        clear hst
        have hkn2 : (k : Int) < n := by omega
        go_upto_region 6 with fail
        clear c2'
        refine wp_any (w0 := wr) ⟨[22], [], [some 20, some 21, some 22, some 23, some 24, some 25, some 26, some 27, some 28, some 29, some 30, some 31, some 32, some 33, some 34, some 35, some 36, some 37, some 38, some 39, some 40, some 41, none], [[], [], [], [1, 2], [1, 2, 3], [1, 2, 3, 4], [], [], [], [7, 8], [7, 8, 9], [7, 8, 9, 10], [6, 7, 8, 9, 10, 11], [], [], [13, 14], [13, 14, 15], [13, 14, 15, 16], [6, 7, 8, 9, 10, 11, 12, 13, 14, 15, 16, 17], [6, 7, 8, 9, 10, 11, 12, 13, 14, 15, 16, 17, 18], [1, 2, 3, 4, 5, 6, 7, 8, 9, 10, 11, 12, 13, 14, 15, 16, 17, 18, 19], [0, 1, 2, 3, 4, 5, 6, 7, 8, 9, 10, 11, 12, 13, 14, 15, 16, 17, 18, 19, 20], [0, 1, 2, 3, 4, 5, 6, 7, 8, 9, 10, 11, 12, 13, 14, 15, 16, 17, 18, 19, 20, 21]], [[], [], [], [1, 2], [3], [4], [], [], [], [7, 8], [9], [10], [6, 11], [], [], [13, 14], [15], [16], [12, 17], [18], [5, 19], [0, 20], []]⟩ (fun _ => []) (by kernel_rfl) (by kernel_rfl) (by (with_reducible (repeat' (first | assumption | apply jA | apply jB | apply jC | apply jD | apply jE | apply jF | apply hb3 | omega | (simp; done) | (simp; omega) | (dsimp only; omega))))) (fun u => by simp only [putD, Act.put, List.setIfInBounds_toArray, List.set_cons_zero, List.set_cons_succ, Nat.zero_add, Nat.reduceAdd]; rfl) ?_
        apply RGW.on (i := 0) rfl
        · (simp only [gA, gB, gC] <;> rfl)
        · intro γ u W hcur hd
          clear hd
          (try dsimp only)
          refine ⟨rfl, ?_⟩
          go_simp <;> (try go_bits) <;> with_reducible rfl
        · exact fun _ _ _ => rfl
        · rfl
        dsimp only [nA, cA]
        apply RGW.on (i := 1) rfl
        · (simp only [gA, gB, gC] <;> rfl)
        · intro γ u W hcur hd
          clear hd
          (try dsimp only)
          refine ⟨rfl, ?_⟩
          go_simp <;> (try go_bits) <;> with_reducible rfl
        · exact fun _ _ _ => rfl
        · rfl
        dsimp only [nA, cA]
        apply RGW.on (i := 2) rfl
        · (simp only [gA, gB, gC] <;> rfl)
        · intro γ u W hcur hd
          clear hd
          (try dsimp only)
          refine ⟨rfl, ?_⟩
          go_simp <;> (try go_bits) <;> with_reducible rfl
        · exact fun _ _ _ => rfl
        · rfl
        dsimp only [nA, cA]
        apply RGW.on (i := 3) rfl
        · (simp only [gA, gB, gC] <;> rfl)
        · intro γ u W hcur hd
          obtain ⟨⟨h1, -, -⟩, ⟨h2, -, -⟩, -⟩ := hd
          dsimp only at h1 h2
          (try simp only [h1, h2])
          refine ⟨rfl, ?_⟩
          go_simp <;> (try go_bits) <;> with_reducible rfl
        · exact fun _ _ _ => rfl
        · rfl
        dsimp only [nA, cA]
        apply RGW.on (i := 4) rfl
        · (simp only [gA, gB, gC] <;> rfl)
        · intro γ u W hcur hd
          obtain ⟨⟨h3, -, -⟩, -⟩ := hd
          dsimp only at h3
          (try simp only [h3])
          refine ⟨rfl, ?_⟩
          go_simp <;> (try go_bits) <;> with_reducible rfl
        · exact fun _ _ _ => rfl
        · rfl
        dsimp only [nA, cA]
        apply RGW.on (i := 5) rfl
        · (simp only [gA, gB, gC] <;> rfl)
        · intro γ u W hcur hd
          obtain ⟨⟨h4, -, -⟩, -⟩ := hd
          dsimp only at h4
          (try simp only [h4])
          refine ⟨rfl, ?_⟩
          go_simp <;> (try go_bits) <;> with_reducible rfl
        · exact fun _ _ _ => rfl
        · rfl
        dsimp only [nA, cA]
        apply RGW.on (i := 6) rfl
        · (simp only [gA, gB, gC] <;> rfl)
        · intro γ u W hcur hd
          clear hd
          (try dsimp only)
          refine ⟨rfl, ?_⟩
          go_simp <;> (try go_bits) <;> with_reducible rfl
        · exact fun _ _ _ => rfl
        · rfl
        dsimp only [nA, cA]
        apply RGW.on (i := 7) rfl
        · (simp only [gA, gB, gC] <;> rfl)
        · intro γ u W hcur hd
          clear hd
          (try dsimp only)
          refine ⟨rfl, ?_⟩
          go_simp <;> (try go_bits) <;> with_reducible rfl
        · exact fun _ _ _ => rfl
        · rfl
        dsimp only [nA, cA]
        apply RGW.on (i := 8) rfl
        · (simp only [gA, gB, gC] <;> rfl)
        · intro γ u W hcur hd
          clear hd
          (try dsimp only)
          refine ⟨rfl, ?_⟩
          go_simp <;> (try go_bits) <;> with_reducible rfl
        · exact fun _ _ _ => rfl
        · rfl
        dsimp only [nA, cA]
        apply RGW.on (i := 9) rfl
        · (simp only [gA, gB, gC] <;> rfl)
        · intro γ u W hcur hd
          obtain ⟨⟨h7, -, -⟩, ⟨h8, -, -⟩, -⟩ := hd
          dsimp only at h7 h8
          (try simp only [h7, h8])
          refine ⟨rfl, ?_⟩
          go_simp <;> (try go_bits) <;> with_reducible rfl
        · exact fun _ _ _ => rfl
        · rfl
        dsimp only [nA, cA]
        apply RGW.on (i := 10) rfl
        · (simp only [gA, gB, gC] <;> rfl)
        · intro γ u W hcur hd
          obtain ⟨⟨h9, -, -⟩, -⟩ := hd
          dsimp only at h9
          (try simp only [h9])
          refine ⟨rfl, ?_⟩
          go_simp <;> (try go_bits) <;> with_reducible rfl
        · exact fun _ _ _ => rfl
        · rfl
        dsimp only [nA, cA]
        apply RGW.on (i := 11) rfl
        · (simp only [gA, gB, gC] <;> rfl)
        · intro γ u W hcur hd
          obtain ⟨⟨h10, -, -⟩, -⟩ := hd
          dsimp only at h10
          (try simp only [h10])
          refine ⟨rfl, ?_⟩
          go_simp <;> (try go_bits) <;> with_reducible rfl
        · exact fun _ _ _ => rfl
        · rfl
        dsimp only [nA, cA]
        apply RGW.on (i := 12) rfl
        · (simp only [gA, gB, gC] <;> rfl)
        · intro γ u W hcur hd
          obtain ⟨⟨h6, -, -⟩, ⟨h11, -, -⟩, -⟩ := hd
          dsimp only at h6 h11
          (try simp only [h6, h11])
          refine ⟨rfl, ?_⟩
          go_simp <;> (try go_bits) <;> with_reducible rfl
        · exact fun _ _ _ => rfl
        · rfl
        dsimp only [nA, cA]
        apply RGW.on (i := 13) rfl
        · (simp only [gA, gB, gC] <;> rfl)
        · intro γ u W hcur hd
          clear hd
          (try dsimp only)
          refine ⟨rfl, ?_⟩
          go_simp <;> (try go_bits) <;> with_reducible rfl
        · exact fun _ _ _ => rfl
        · rfl
        dsimp only [nA, cA]
        apply RGW.on (i := 14) rfl
        · (simp only [gA, gB, gC] <;> rfl)
        · intro γ u W hcur hd
          clear hd
          (try dsimp only)
          refine ⟨rfl, ?_⟩
          go_simp <;> (try go_bits) <;> with_reducible rfl
        · exact fun _ _ _ => rfl
        · rfl
        dsimp only [nA, cA]
        apply RGW.on (i := 15) rfl
        · (simp only [gA, gB, gC] <;> rfl)
        · intro γ u W hcur hd
          obtain ⟨⟨h13, -, -⟩, ⟨h14, -, -⟩, -⟩ := hd
          dsimp only at h13 h14
          (try simp only [h13, h14])
          refine ⟨rfl, ?_⟩
          go_simp <;> (try go_bits) <;> with_reducible rfl
        · exact fun _ _ _ => rfl
        · rfl
        dsimp only [nA, cA]
        apply RGW.on (i := 16) rfl
        · (simp only [gA, gB, gC] <;> rfl)
        · intro γ u W hcur hd
          obtain ⟨⟨h15, -, -⟩, -⟩ := hd
          dsimp only at h15
          (try simp only [h15])
          refine ⟨rfl, ?_⟩
          go_simp <;> (try go_bits) <;> with_reducible rfl
        · exact fun _ _ _ => rfl
        · rfl
        dsimp only [nA, cA]
        apply RGW.on (i := 17) rfl
        · (simp only [gA, gB, gC] <;> rfl)
        · intro γ u W hcur hd
          obtain ⟨⟨h16, -, -⟩, -⟩ := hd
          dsimp only at h16
          (try simp only [h16])
          refine ⟨rfl, ?_⟩
          go_simp <;> (try go_bits) <;> with_reducible rfl
        · exact fun _ _ _ => rfl
        · rfl
        dsimp only [nA, cA]
        apply RGW.call (i := 18) rfl
        · (simp only [gA, gB, gC] <;> rfl)
        · intro γ u W hcur hd
          obtain ⟨⟨h12, -, -⟩, ⟨h17, -, -⟩, -⟩ := hd
          dsimp only at h12 h17
          (try simp only [h12, h17])
          refine ⟨rfl, fun K hK => ?_⟩
          go_simp
          (go_at_call 121; (with_reducible refine (hfl.out _).mono ?_); rintro e w3 ⟨rfl, rfl⟩)
          (try dsimp only)
          exact hK.out _ _ rfl (by (with_reducible (repeat' (first | assumption | apply jA | apply jB | apply jC | apply jD | apply jE | apply jF | apply hb3 | omega | (simp; done) | (simp; omega) | (dsimp only; omega)))))
        · exact fun _ _ _ => rfl
        · rfl
        dsimp only [nA, cA]
        apply RGW.on (i := 19) rfl
        · (simp only [gA, gB, gC] <;> rfl)
        · intro γ u W hcur hd
          obtain ⟨⟨h18, -, -⟩, -⟩ := hd
          dsimp only at h18
          (try simp only [h18])
          refine ⟨rfl, ?_⟩
          go_simp <;> (try go_bits) <;> with_reducible rfl
        · exact fun _ _ _ => rfl
        · rfl
        dsimp only [nA, cA]
        apply RGW.on (i := 20) rfl
        · (simp only [gA, gB, gC] <;> rfl)
        · intro γ u W hcur hd
          obtain ⟨⟨h5, -, -⟩, ⟨h19, -, -⟩, -⟩ := hd
          dsimp only at h5 h19
          (try simp only [h5, h19])
          refine ⟨rfl, ?_⟩
          go_simp <;> (try go_bits) <;> with_reducible rfl
        · exact fun _ _ _ => rfl
        · rfl
        dsimp only [nA, cA]
        apply RGW.on (i := 21) rfl
        · (simp only [gA, gB, gC] <;> rfl)
        · intro γ u W hcur hd
          obtain ⟨⟨h0, -, -⟩, ⟨h20, -, -⟩, -⟩ := hd
          dsimp only at h0 h20
          (try simp only [h0, h20])
          refine ⟨rfl, ?_⟩
          go_simp <;> (try go_bits) <;> with_reducible rfl
        · exact fun _ _ _ => rfl
        · rfl
        dsimp only [nA, cA]
        refine RGW.skip (i := 22) rfl rfl ?_
        dsimp only [nA, cA]
        refine RGW.fin (fun γ u wc hwc hd hdis => ?_)
        obtain ⟨⟨h0, -, -⟩, ⟨h1, -, -⟩, ⟨h2, -, -⟩, ⟨h3, -, -⟩, ⟨h4, -, -⟩, ⟨h5, -, -⟩, ⟨h6, -, -⟩, ⟨h7, -, -⟩, ⟨h8, -, -⟩, ⟨h9, -, -⟩, ⟨h10, -, -⟩, ⟨h11, -, -⟩, ⟨h12, -, -⟩, ⟨h13, -, -⟩, ⟨h14, -, -⟩, ⟨h15, -, -⟩, ⟨h16, -, -⟩, ⟨h17, -, -⟩, ⟨h18, -, -⟩, ⟨h19, -, -⟩, ⟨h20, -, -⟩, ⟨h21, -, -⟩, -⟩ := hd
        dsimp only at h0 h1 h2 h3 h4 h5 h6 h7 h8 h9 h10 h11 h12 h13 h14 h15 h16 h17 h18 h19 h20 h21
        clear hdis
        simp only [h0, h1, h2, h3, h4, h5, h6, h7, h8, h9, h10, h11, h12, h13, h14, h15, h16, h17, h18, h19, h20, h21]
        clear h21 h20 h19 h18 h17 h16 h15 h14 h13 h12 h11 h10 h9 h8 h7 h6 h5 h4 h3 h2 h1 h0
        clear u
        simp only [List.map_cons, List.map_nil]
        apply PlanW.step
        · (simp only [gA, gB, gC] <;> rfl)
        · rfl
        intro K hK
        go_simp
        refine hK.out _ _ (by with_reducible first | assumption | exact bx_refl _ _) (fun hcur => ?_)
        clear hK K
        try simp only [Act.put, List.setIfInBounds_toArray, List.set_cons_zero, List.set_cons_succ]
        refine PlanW.done ?_
        have hb3 := bl_tt hwc
        have hbw := bl_tr hb0 hwc
        go_wp2
        go_roundw
        case rel => exact ⟨k + 1, by omega, by go_num, by rw [hst'.out], hbw⟩
        case measure => simp [intOf]; omega
      · rw [dmd1_no hdl] at hst
        have hst' := Lib.hid hst
        clear hst
        go_wp2
        go_roundw
        case rel => exact ⟨k + 1, by omega, by go_num, by rw [hst'.out]; simp, hb0⟩
        case measure => simp [intOf]; omega
    · have e : k = n := by omega
      go_wp2
      go_ret
      exact ⟨by rw [e, hend.out] <;> rfl, hb0⟩
end Go.Proofs.YtdlmkblmljhbfaaDoor
namespace Go.Proofs.YtdlmkblmljhbfaaDoor
set_option linter.unusedSimpArgs false
set_option linter.unusedVariables false
open Go.RowKit Go.Shelf
attribute [local go_sem] bl_al bl_drew bl_drewN bl_refl bx_al bx_drew bx_drewN bx_refl
set_option maxRecDepth 20000
theorem gcd_step {x y : Nat} (h : y ≠ 0) : Nat.gcd x y = Nat.gcd y (x % y) := by
  rw [Nat.gcd_comm x y, Nat.gcd_rec y x, Nat.gcd_comm]
set_option maxHeartbeats 1000000 in
theorem c_divisor (a b : Nat) (w : World) (ha : a ≤ 1000000000) (hb : b ≤ 1000000000) : Calls Tryd.prog 120 #[.int .i64 (a : Nat), .int .i64 (b : Nat)] w (Ret (.int .i64 (Nat.gcd a b : Nat)) w) := by
  obtain ⟨g, hg⟩ : ∃ g, Hid (Nat.gcd a b = g) := ⟨_, rfl⟩
  rw [hg.out]
  go_enter Tryd.func120, Tryd.ntmps120
  go_wp2
  go_loopw [0, 1] (fun u v wr => ∃ x y : Nat, u = .int .i64 x ∧ v = .int .i64 y ∧ x ≤ 1000000000 ∧ y ≤ 1000000000 ∧ Nat.gcd x y = g ∧ Below w.heap.size w wr) (fun _ v _ => (intOf v).toNat)
  case atStart => exact ⟨a, b, rfl, rfl, ha, hb, hg.out, Below.refl _ _⟩
  case round =>
    obtain ⟨x, y, rfl, rfl, hx, hy, hgc, hb0⟩ := hrel
    by_cases h0 : y = 0
    · subst h0
      have e : Hid (x = g) := Lib.hid (by rw [← hgc, Nat.gcd_zero_right])
      clear hgc
      go_wp2
      go_ret
      exact ⟨by rw [e.out] <;> rfl, hb0⟩
    · have h0' : ((y : Int) != 0) = true := by simp; omega
      have h1 : ¬ (y : Int) = 0 := by omega
      have hst := Lib.hid ((gcd_step (x := x) h0).symm.trans hgc)
      have hm : (x : Int) % y = ((x % y : Nat) : Int) := by simp
      have hlt := Nat.mod_lt x (Nat.pos_of_ne_zero h0)
      generalize x % y = z at *
      clear hgc
      go_upto_region 2 with fail
      refine wp_any (w0 := wr) ⟨[4, 5], [2, 3], [some 7, some 8, some 9, some 10, none, none], [[], [], [], [1, 2], [0, 1], [0, 1, 2, 3, 4]], [[], [], [], [1, 2], [], []]⟩ (fun _ => []) (by kernel_rfl) (by kernel_rfl) (by (with_reducible (repeat' (first | assumption | apply jA | apply jB | apply jC | apply jD | apply jE | apply jF | apply hb3 | omega | (simp; done) | (simp; omega) | (dsimp only; omega))))) (fun u => by simp only [putD, Act.put, List.setIfInBounds_toArray, List.set_cons_zero, List.set_cons_succ, Nat.zero_add, Nat.reduceAdd]; rfl) ?_
      apply RGW.on (i := 0) rfl
      · (simp only [gA, gB, gC] <;> rfl)
      · intro γ u W hcur hd
        clear hd
        (try dsimp only)
        refine ⟨rfl, ?_⟩
        go_simp <;> (try go_bits) <;> with_reducible rfl
      · exact fun _ _ _ => rfl
      · rfl
      dsimp only [nA, cA]
      apply RGW.on (i := 1) rfl
      · (simp only [gA, gB, gC] <;> rfl)
      · intro γ u W hcur hd
        clear hd
        (try dsimp only)
        refine ⟨rfl, ?_⟩
        go_simp <;> (try go_bits) <;> with_reducible rfl
      · exact fun _ _ _ => rfl
      · rfl
      dsimp only [nA, cA]
      apply RGW.onL (i := 2) rfl
      · (simp only [gA, gB, gC] <;> rfl)
      · intro γ u Wm W hcur hd hX
        clear hd
        (try dsimp only)
        refine ⟨rfl, ?_⟩
        go_simp <;> (try go_bits) <;> with_reducible rfl
      · exact fun _ _ _ => rfl
      dsimp only [nA, cA]
      apply RGW.onL (i := 3) rfl
      · (simp only [gA, gB, gC] <;> rfl)
      · intro γ u Wm W hcur hd hX
        obtain ⟨⟨h1, -, -⟩, ⟨h2, -, -⟩, -⟩ := hd
        dsimp only at h1 h2
        (try simp only [h1, h2])
        refine ⟨rfl, ?_⟩
        go_simp <;> (try go_bits) <;> with_reducible rfl
      · exact fun _ _ _ => rfl
      dsimp only [nA, cA]
      refine RGW.skip (i := 4) rfl rfl ?_
      dsimp only [nA, cA]
      refine RGW.skip (i := 5) rfl rfl ?_
      dsimp only [nA, cA]
      refine RGW.fin (fun γ u wj hwj hd hdis => ?_)
      obtain ⟨⟨h0, -, -⟩, ⟨h1, -, -⟩, ⟨h2, -, -⟩, ⟨h3, -, -⟩, -⟩ := hd
      dsimp only at h0 h1 h2 h3
      clear hdis
      simp only [h0, h1, h2, h3]
      clear h3 h2 h1 h0
      clear u
      simp only [List.map_cons, List.map_nil]
      apply PlanW.step
      · (simp only [gA, gB, gC] <;> rfl)
      · rfl
      intro K hK
      go_simp
      refine hK.out _ _ (by with_reducible first | assumption | exact bx_refl _ _) (fun hcur => ?_)
      clear hK K
      try simp only [Act.put, List.setIfInBounds_toArray, List.set_cons_zero, List.set_cons_succ]
      apply PlanW.step
      · (simp only [gA, gB, gC] <;> rfl)
      · rfl
      intro K hK
      go_simp
      refine hK.out _ _ (by with_reducible first | assumption | exact bx_refl _ _) (fun hcur => ?_)
      clear hK K
      try simp only [Act.put, List.setIfInBounds_toArray, List.set_cons_zero, List.set_cons_succ]
      refine PlanW.done ?_
      have hb3 := bl_tt hwj
      have hbj := bl_tr hb0 hwj
      go_wp2
      go_roundw
      case rel => exact ⟨y, z, by go_num, by simp [hm], hy, by omega, hst.out, hbj⟩
      case measure => simp [intOf, hm]; omega
theorem r_Size (x : Nat) (w : World) (hx : x ≤ 1000000000) : Calls Tryd.prog 139 #[.int .i64 (x : Nat)] w (Same (.int .i64 (x : Nat)) w) := by
  have hm : max (x : Int) (-(x : Int)) = x := by omega
  go_enter Tryd.func139, Tryd.ntmps139
  go_wp2
  go_ret
  exact ⟨by simp [hm], rfl⟩
set_option maxHeartbeats 1000000 in
theorem r_Gcd (a b : Nat) (w : World) (ha : a ≤ 1000000000) (hb : b ≤ 1000000000) : Calls Tryd.prog 122 #[.int .i64 (a : Nat), .int .i64 (b : Nat)] w (Ret (.int .i64 (Nat.gcd a b : Nat)) w) := by
  obtain ⟨g, hg⟩ : ∃ g, Hid (Nat.gcd a b = g) := ⟨_, rfl⟩
  rw [hg.out]
  go_enter Tryd.func122, Tryd.ntmps122
  go_wp2
  go_loopw [0, 1] (fun u v wr => ∃ x y : Nat, u = .int .i64 x ∧ v = .int .i64 y ∧ x ≤ 1000000000 ∧ y ≤ 1000000000 ∧ Nat.gcd x y = g ∧ Below w.heap.size w wr) (fun _ v _ => (intOf v).toNat)
  case atStart => exact ⟨a, b, rfl, rfl, ha, hb, hg.out, Below.refl _ _⟩
  case round =>
    obtain ⟨x, y, rfl, rfl, hx, hy, hgc, hb0⟩ := hrel
    by_cases h0 : y = 0
    · subst h0
      have e : Hid (x = g) := Lib.hid (by rw [← hgc, Nat.gcd_zero_right])
      clear hgc
      go_wp2_with (go_at_call 139; (with_reducible refine (r_Size x _ hx).mono ?_); rintro e w3 ⟨rfl, rfl⟩)
      go_ret
      exact ⟨by rw [e.out] <;> rfl, hb0⟩
    · have h0' : ((y : Int) != 0) = true := by simp; omega
      have h1 : ¬ (y : Int) = 0 := by omega
      have hst := Lib.hid ((gcd_step (x := x) h0).symm.trans hgc)
      have hm : (x : Int) % y = ((x % y : Nat) : Int) := by simp
      have hlt := Nat.mod_lt x (Nat.pos_of_ne_zero h0)
      generalize x % y = z at *
      clear hgc
      go_upto_region 2 with fail
      refine wp_any (w0 := wr) ⟨[4, 5], [2, 3], [some 7, some 8, some 9, some 10, none, none], [[], [], [], [1, 2], [0, 1], [0, 1, 2, 3, 4]], [[], [], [], [1, 2], [], []]⟩ (fun _ => []) (by kernel_rfl) (by kernel_rfl) (by (with_reducible (repeat' (first | assumption | apply jA | apply jB | apply jC | apply jD | apply jE | apply jF | apply hb3 | omega | (simp; done) | (simp; omega) | (dsimp only; omega))))) (fun u => by simp only [putD, Act.put, List.setIfInBounds_toArray, List.set_cons_zero, List.set_cons_succ, Nat.zero_add, Nat.reduceAdd]; rfl) ?_
      apply RGW.on (i := 0) rfl
      · (simp only [gA, gB, gC] <;> rfl)
      · intro γ u W hcur hd
        clear hd
        (try dsimp only)
        refine ⟨rfl, ?_⟩
        go_simp <;> (try go_bits) <;> with_reducible rfl
      · exact fun _ _ _ => rfl
      · rfl
      dsimp only [nA, cA]
      apply RGW.on (i := 1) rfl
      · (simp only [gA, gB, gC] <;> rfl)
      · intro γ u W hcur hd
        clear hd
        (try dsimp only)
        refine ⟨rfl, ?_⟩
        go_simp <;> (try go_bits) <;> with_reducible rfl
      · exact fun _ _ _ => rfl
      · rfl
      dsimp only [nA, cA]
      apply RGW.onL (i := 2) rfl
      · (simp only [gA, gB, gC] <;> rfl)
      · intro γ u Wm W hcur hd hX
        clear hd
        (try dsimp only)
        refine ⟨rfl, ?_⟩
        go_simp <;> (try go_bits) <;> with_reducible rfl
      · exact fun _ _ _ => rfl
      dsimp only [nA, cA]
      apply RGW.onL (i := 3) rfl
      · (simp only [gA, gB, gC] <;> rfl)
      · intro γ u Wm W hcur hd hX
        obtain ⟨⟨h1, -, -⟩, ⟨h2, -, -⟩, -⟩ := hd
        dsimp only at h1 h2
        (try simp only [h1, h2])
        refine ⟨rfl, ?_⟩
        go_simp <;> (try go_bits) <;> with_reducible rfl
      · exact fun _ _ _ => rfl
      dsimp only [nA, cA]
      refine RGW.skip (i := 4) rfl rfl ?_
      dsimp only [nA, cA]
      refine RGW.skip (i := 5) rfl rfl ?_
      dsimp only [nA, cA]
      refine RGW.fin (fun γ u wj hwj hd hdis => ?_)
      obtain ⟨⟨h0, -, -⟩, ⟨h1, -, -⟩, ⟨h2, -, -⟩, ⟨h3, -, -⟩, -⟩ := hd
      dsimp only at h0 h1 h2 h3
      clear hdis
      simp only [h0, h1, h2, h3]
      clear h3 h2 h1 h0
      clear u
      simp only [List.map_cons, List.map_nil]
      apply PlanW.step
      · (simp only [gA, gB, gC] <;> rfl)
      · rfl
      intro K hK
      go_simp
      refine hK.out _ _ (by with_reducible first | assumption | exact bx_refl _ _) (fun hcur => ?_)
      clear hK K
      try simp only [Act.put, List.setIfInBounds_toArray, List.set_cons_zero, List.set_cons_succ]
      apply PlanW.step
      · (simp only [gA, gB, gC] <;> rfl)
      · rfl
      intro K hK
      go_simp
      refine hK.out _ _ (by with_reducible first | assumption | exact bx_refl _ _) (fun hcur => ?_)
      clear hK K
      try simp only [Act.put, List.setIfInBounds_toArray, List.set_cons_zero, List.set_cons_succ]
      refine PlanW.done ?_
      have hb3 := bl_tt hwj
      have hbj := bl_tr hb0 hwj
      go_wp2
      go_roundw
      case rel => exact ⟨y, z, by go_num, by simp [hm], hy, by omega, hst.out, hbj⟩
      case measure => simp [intOf, hm]; omega
/-- The smallest common multiple of periods, as long as it is small. -/
def cyS : List Sm → Nat → Option Nat
  | [], n => some n
  | s :: l, n => if 5000 < n / Nat.gcd n s.per.toNat * s.per.toNat then none else cyS l (n / Nat.gcd n s.per.toNat * s.per.toNat)
theorem cyS_drop {l : List Sm} {k : Nat} {x : Sm} (hx : l[k]? = some x) (n : Nat) : cyS (l.drop k) n = if 5000 < n / Nat.gcd n x.per.toNat * x.per.toNat then none else cyS (l.drop (k + 1)) (n / Nat.gcd n x.per.toNat * x.per.toNat) := by
  have hk := (List.getElem?_eq_some_iff.1 hx).1
  rw [List.drop_eq_getElem_cons hk, (List.getElem?_eq_some_iff.1 hx).2]
  rfl
/-- The first number at which a demand is too great. -/
def ovF (f : Int → Int) : Nat → Nat → Option Nat
  | 0, _ => none
  | d + 1, t => if (t : Int) < f t then some t else ovF f d (t + 1)
def ovS (l : List Sm) (c : Nat) : Option Nat := ovF (dmdS l) c 1
theorem cy_step {n p : Nat} (hn : 1 ≤ n) (hn2 : n ≤ 5000) (hp : 1 ≤ p) (hp2 : p ≤ 60) : 1 ≤ n / Nat.gcd n p * p ∧ n / Nat.gcd n p * p ≤ 300000 ∧ 1 ≤ Nat.gcd n p ∧ n / Nat.gcd n p ≤ 5000 := by
  have hg : 0 < Nat.gcd n p := Nat.gcd_pos_of_pos_left _ (by omega)
  have h1 : Nat.gcd n p ≤ n := Nat.gcd_le_left _ (by omega)
  have h2 : 0 < n / Nat.gcd n p := Nat.div_pos h1 hg
  have h3 : n / Nat.gcd n p ≤ n := Nat.div_le_self _ _
  have h4 : n / Nat.gcd n p * p ≤ 5000 * 60 := Nat.mul_le_mul (by omega) hp2
  have h5 : 1 * 1 ≤ n / Nat.gcd n p * p := Nat.mul_le_mul (by omega) hp
  omega
set_option maxHeartbeats 2000000 in
theorem r_Cycle (l : List Sm) (A : Option Addr) (c : Nat) (w : World) (hs : Sl cSm 4 w A l) (hl : l.length ≤ 6) (hok : ∀ o ∈ l, OkSm o) :
    Calls Tryd.prog 62 #[.slice A l.length c] w (fun e w' => Below w.heap.size w w' ∧ ((cyS l 1 = none ∧ e = .returned (.tuple #[.int .i64 0, .bool false])) ∨ ∃ n : Nat, cyS l 1 = some n ∧ 1 ≤ n ∧ n ≤ 5000 ∧ e = .returned (.tuple #[.int .i64 n, .bool true]))) := by
  have Hs := Lib.hid hs
  have hst := Lib.hid fun k x (hx : l[k]? = some x) n => cyS_drop hx n
  have hok' := Lib.hid fun k x (hx : l[k]? = some x) => hok x (List.mem_of_getElem? hx)
  have hend : Hid (∀ n, cyS (l.drop l.length) n = some n) := fun n => by rw [List.drop_length]; rfl
  clear hs hok
  obtain ⟨g, hg⟩ : ∃ g : Nat → Nat → Option Nat, ∀ k n, cyS (l.drop k) n = g k n := ⟨_, fun _ _ => rfl⟩
  have hg0 : cyS l 1 = g 0 1 := hg 0 1
  rw [hg0]
  simp only [hg] at hst hend
  clear hg hg0
  obtain ⟨n, Hn⟩ : ∃ n, Hid (l.length = n) := ⟨_, rfl⟩
  rw [Hn.out] at hl hend ⊢
  go_enter Tryd.func62, Tryd.ntmps62
  go_wp2
  go_loopw [4, 5] (fun s i wr => ∃ k v : Nat, k ≤ n ∧ i = .int .i64 k ∧ s = .int .i64 v ∧ 1 ≤ v ∧ v ≤ 5000 ∧ g 0 1 = g k v ∧ Below w.heap.size w wr) (fun _ i _ => n - (intOf i).toNat)
  case atStart => exact ⟨0, 1, Nat.zero_le _, rfl, rfl, by omega, by omega, rfl, Below.refl _ _⟩
  case round =>
    obtain ⟨k, v, hk, rfl, rfl, hv1, hv2, hi, hb0⟩ := hrel
    replace hi := Lib.hid hi
    by_cases hkn : k < n
    · have hx : l[k]? = some (l[k]'(by rw [Hn.out]; exact hkn)) := List.getElem?_eq_getElem _
      generalize l[k]'(by rw [Hn.out]; exact hkn) = x at hx
      have ho := hok'.out k x hx
      have hs := hst.out k x hx v
      obtain ⟨hp1, hp2, -, -, -, -⟩ := ho
      obtain ⟨b, off, rfl, hc⟩ := (Hs.out.below hb0) k x hx
      obtain ⟨p, hp⟩ : ∃ p : Nat, x.per = p := ⟨x.per.toNat, by omega⟩
      rw [hp] at hs hp1 hp2
      rw [Int.toNat_natCast] at hs
      have c1 : ∀ W, Below wr.heap.size wr W → W.cell? ⟨b, off + k * 4 + 1, none⟩ = some (.int .i64 (p : Nat)) := later (by rw [← hp]; exact hc 1 _ rfl)
      clear hc hx hp
      have hgc := Lib.hid fun W : World => r_Gcd v p W (by omega) (by omega)
      obtain ⟨h5, h6, h7, h8⟩ := cy_step hv1 hv2 (show 1 ≤ p by omega) (show p ≤ 60 by omega)
      have hkn2 : (k : Int) < n := by omega
      have hdv : ((v : Nat) : Int) / ((Nat.gcd v p : Nat) : Int) = ((v / Nat.gcd v p : Nat) : Int) := by simp
      generalize Nat.gcd v p = d at *
      generalize v / d = q at *
      have hmu : (q : Int) * p = ((q * p : Nat) : Int) := by simp
      generalize q * p = r at *
      have hd0 : ¬ d = 0 := by omega
      replace hs := Lib.hid hs
      go_upto_region 5 with fail
      refine wp_any (w0 := wr) ⟨[15], [], [some 12, some 13, some 14, some 15, some 16, some 17, some 18, some 19, some 20, some 21, some 22, some 23, some 24, some 25, some 26, none], [[], [], [], [], [2, 3], [2, 3, 4], [2, 3, 4, 5], [1, 2, 3, 4, 5, 6], [0, 1, 2, 3, 4, 5, 6, 7], [], [], [9, 10], [9, 10, 11], [9, 10, 11, 12], [0, 1, 2, 3, 4, 5, 6, 7, 8, 9, 10, 11, 12, 13], [0, 1, 2, 3, 4, 5, 6, 7, 8, 9, 10, 11, 12, 13, 14]], [[], [], [], [], [2, 3], [4], [5], [1, 6], [0, 7], [], [], [9, 10], [11], [12], [8, 13], []]⟩ (fun _ => []) (by kernel_rfl) (by kernel_rfl) (by (with_reducible (repeat' (first | assumption | apply jA | apply jB | apply jC | apply jD | apply jE | apply jF | apply hb3 | omega | (simp; done) | (simp; omega) | (dsimp only; omega))))) (fun u => by simp only [putD, Act.put, List.setIfInBounds_toArray, List.set_cons_zero, List.set_cons_succ, Nat.zero_add, Nat.reduceAdd]; rfl) ?_
      apply RGW.on (i := 0) rfl
      · (simp only [gA, gB, gC] <;> rfl)
      · intro γ u W hcur hd
        clear hd
        (try dsimp only)
        refine ⟨rfl, ?_⟩
        go_simp <;> (try go_bits) <;> with_reducible rfl
      · exact fun _ _ _ => rfl
      · rfl
      dsimp only [nA, cA]
      apply RGW.on (i := 1) rfl
      · (simp only [gA, gB, gC] <;> rfl)
      · intro γ u W hcur hd
        clear hd
        (try dsimp only)
        refine ⟨rfl, ?_⟩
        go_simp <;> (try go_bits) <;> with_reducible rfl
      · exact fun _ _ _ => rfl
      · rfl
      dsimp only [nA, cA]
      apply RGW.on (i := 2) rfl
      · (simp only [gA, gB, gC] <;> rfl)
      · intro γ u W hcur hd
        clear hd
        (try dsimp only)
        refine ⟨rfl, ?_⟩
        go_simp <;> (try go_bits) <;> with_reducible rfl
      · exact fun _ _ _ => rfl
      · rfl
      dsimp only [nA, cA]
      apply RGW.on (i := 3) rfl
      · (simp only [gA, gB, gC] <;> rfl)
      · intro γ u W hcur hd
        clear hd
        (try dsimp only)
        refine ⟨rfl, ?_⟩
        go_simp <;> (try go_bits) <;> with_reducible rfl
      · exact fun _ _ _ => rfl
      · rfl
      dsimp only [nA, cA]
      apply RGW.on (i := 4) rfl
      · (simp only [gA, gB, gC] <;> rfl)
      · intro γ u W hcur hd
        obtain ⟨⟨h2, -, -⟩, ⟨h3, -, -⟩, -⟩ := hd
        dsimp only at h2 h3
        (try simp only [h2, h3])
        refine ⟨rfl, ?_⟩
        go_simp <;> (try go_bits) <;> with_reducible rfl
      · exact fun _ _ _ => rfl
      · rfl
      dsimp only [nA, cA]
      apply RGW.on (i := 5) rfl
      · (simp only [gA, gB, gC] <;> rfl)
      · intro γ u W hcur hd
        obtain ⟨⟨h4, -, -⟩, -⟩ := hd
        dsimp only at h4
        (try simp only [h4])
        refine ⟨rfl, ?_⟩
        go_simp <;> (try go_bits) <;> with_reducible rfl
      · exact fun _ _ _ => rfl
      · rfl
      dsimp only [nA, cA]
      apply RGW.on (i := 6) rfl
      · (simp only [gA, gB, gC] <;> rfl)
      · intro γ u W hcur hd
        obtain ⟨⟨h5, -, -⟩, -⟩ := hd
        dsimp only at h5
        (try simp only [h5])
        refine ⟨rfl, ?_⟩
        go_simp <;> (try go_bits) <;> with_reducible rfl
      · exact fun _ _ _ => rfl
      · rfl
      dsimp only [nA, cA]
      apply RGW.call (i := 7) rfl
      · (simp only [gA, gB, gC] <;> rfl)
      · intro γ u W hcur hd
        obtain ⟨⟨h1, -, -⟩, ⟨h6, -, -⟩, -⟩ := hd
        dsimp only at h1 h6
        (try simp only [h1, h6])
        refine ⟨rfl, fun K hK => ?_⟩
        go_simp
        (go_at_call 122; (with_reducible refine (hgc.out _).mono ?_); rintro e w3 ⟨rfl, hb3⟩; replace hb3 := bl_tt hb3)
        (try dsimp only)
        exact hK.out _ _ rfl (by (with_reducible (repeat' (first | assumption | apply jA | apply jB | apply jC | apply jD | apply jE | apply jF | apply hb3 | omega | (simp; done) | (simp; omega) | (dsimp only; omega)))))
      · exact fun _ _ _ => rfl
      · rfl
      dsimp only [nA, cA]
      apply RGW.on (i := 8) rfl
      · (simp only [gA, gB, gC] <;> rfl)
      · intro γ u W hcur hd
        obtain ⟨⟨h0, -, -⟩, ⟨h7, -, -⟩, -⟩ := hd
        dsimp only at h0 h7
        (try simp only [h0, h7])
        refine ⟨rfl, ?_⟩
        go_simp <;> (try go_bits) <;> with_reducible rfl
      · exact fun _ _ _ => rfl
      · rfl
      dsimp only [nA, cA]
      apply RGW.on (i := 9) rfl
      · (simp only [gA, gB, gC] <;> rfl)
      · intro γ u W hcur hd
        clear hd
        (try dsimp only)
        refine ⟨rfl, ?_⟩
        go_simp <;> (try go_bits) <;> with_reducible rfl
      · exact fun _ _ _ => rfl
      · rfl
      dsimp only [nA, cA]
      apply RGW.on (i := 10) rfl
      · (simp only [gA, gB, gC] <;> rfl)
      · intro γ u W hcur hd
        clear hd
        (try dsimp only)
        refine ⟨rfl, ?_⟩
        go_simp <;> (try go_bits) <;> with_reducible rfl
      · exact fun _ _ _ => rfl
      · rfl
      dsimp only [nA, cA]
      apply RGW.on (i := 11) rfl
      · (simp only [gA, gB, gC] <;> rfl)
      · intro γ u W hcur hd
        obtain ⟨⟨h9, -, -⟩, ⟨h10, -, -⟩, -⟩ := hd
        dsimp only at h9 h10
        (try simp only [h9, h10])
        refine ⟨rfl, ?_⟩
        go_simp <;> (try go_bits) <;> with_reducible rfl
      · exact fun _ _ _ => rfl
      · rfl
      dsimp only [nA, cA]
      apply RGW.on (i := 12) rfl
      · (simp only [gA, gB, gC] <;> rfl)
      · intro γ u W hcur hd
        obtain ⟨⟨h11, -, -⟩, -⟩ := hd
        dsimp only at h11
        (try simp only [h11])
        refine ⟨rfl, ?_⟩
        go_simp <;> (try go_bits) <;> with_reducible rfl
      · exact fun _ _ _ => rfl
      · rfl
      dsimp only [nA, cA]
      apply RGW.on (i := 13) rfl
      · (simp only [gA, gB, gC] <;> rfl)
      · intro γ u W hcur hd
        obtain ⟨⟨h12, -, -⟩, -⟩ := hd
        dsimp only at h12
        (try simp only [h12])
        refine ⟨rfl, ?_⟩
        go_simp <;> (try go_bits) <;> with_reducible rfl
      · exact fun _ _ _ => rfl
      · rfl
      dsimp only [nA, cA]
      apply RGW.on (i := 14) rfl
      · (simp only [gA, gB, gC] <;> rfl)
      · intro γ u W hcur hd
        obtain ⟨⟨h8, -, -⟩, ⟨h13, -, -⟩, -⟩ := hd
        dsimp only at h8 h13
        (try simp only [h8, h13])
        refine ⟨rfl, ?_⟩
        go_simp <;> (try go_bits) <;> with_reducible rfl
      · exact fun _ _ _ => rfl
      · rfl
      dsimp only [nA, cA]
      refine RGW.skip (i := 15) rfl rfl ?_
      dsimp only [nA, cA]
      refine RGW.fin (fun γ u wj hwj hd hdis => ?_)
      obtain ⟨⟨h0, -, -⟩, ⟨h1, -, -⟩, ⟨h2, -, -⟩, ⟨h3, -, -⟩, ⟨h4, -, -⟩, ⟨h5, -, -⟩, ⟨h6, -, -⟩, ⟨h7, -, -⟩, ⟨h8, -, -⟩, ⟨h9, -, -⟩, ⟨h10, -, -⟩, ⟨h11, -, -⟩, ⟨h12, -, -⟩, ⟨h13, -, -⟩, ⟨h14, -, -⟩, -⟩ := hd
      dsimp only at h0 h1 h2 h3 h4 h5 h6 h7 h8 h9 h10 h11 h12 h13 h14
      clear hdis
      simp only [h0, h1, h2, h3, h4, h5, h6, h7, h8, h9, h10, h11, h12, h13, h14]
      clear h14 h13 h12 h11 h10 h9 h8 h7 h6 h5 h4 h3 h2 h1 h0
      clear u
      simp only [List.map_cons, List.map_nil]
      apply PlanW.step
      · (simp only [gA, gB, gC] <;> rfl)
      · rfl
      intro K hK
      go_simp
      refine hK.out _ _ (by with_reducible first | assumption | exact bx_refl _ _) (fun hcur => ?_)
      clear hK K
      try simp only [Act.put, List.setIfInBounds_toArray, List.set_cons_zero, List.set_cons_succ]
      refine PlanW.done ?_
      have hb3 := bl_tt hwj
      have hbj := bl_tr hb0 hwj
      clear hmu hdv
      by_cases h5000 : 5000 < r
      · have hr : (5000 : Int) < r := by omega
        have e := Lib.hid (show g 0 1 = none by rw [hi.out, hs.out, if_pos h5000])
        go_wp2
        go_ret2
        exact ⟨hbj, .inl ⟨e.out, rfl⟩⟩
      · have hr : ¬ (5000 : Int) < r := by omega
        have e := Lib.hid (show g 0 1 = g (k + 1) r by rw [hi.out, hs.out, if_neg h5000])
        go_wp2
        go_roundw
        case rel => exact ⟨k + 1, r, by omega, by go_num, rfl, by omega, by omega, e.out, hbj⟩
        case measure => simp [intOf]; omega
    · have e : k = n := by omega
      have e2 : Hid (g 0 1 = some v) := Lib.hid (by rw [hi.out, e, hend.out])
      clear e
      go_wp2
      go_ret2
      exact ⟨hb0, .inr ⟨v, e2.out, hv1, hv2, rfl⟩⟩
set_option maxHeartbeats 2000000 in
theorem r_Overload (l : List Sm) (cy : Nat) (A : Option Addr) (c : Nat) (w : World) (hs : Sl cSm 4 w A l) (hl : l.length ≤ 6) (hok : ∀ o ∈ l, OkSm o) (hc1 : cy ≤ 5000) :
    Calls Tryd.prog 63 #[.slice A l.length c, .int .i64 (cy : Nat)] w (fun e w' => Below w.heap.size w w' ∧ ((ovS l cy = none ∧ e = .returned (.tuple #[.int .i64 0, .bool false])) ∨ ∃ t : Nat, ovS l cy = some t ∧ e = .returned (.tuple #[.int .i64 t, .bool true]))) := by
  have hdm := Lib.hid fun (t : Nat) (ht : t ≤ 5000) W (hb : Below w.heap.size w W) => r_Demand l t A c W (hs.below hb) hl hok (by omega) (by omega)
  have hdef : Hid (ovS l cy = ovF (dmdS l) (cy + 1 - 1) 1) := rfl
  clear hs hok
  generalize ovS l cy = R at *
  generalize dmdS l = f at *
  generalize l.length = n at *
  go_enter Tryd.func63, Tryd.ntmps63
  go_wp2
  go_loopw [6] (fun i wr => ∃ t : Nat, 1 ≤ t ∧ t ≤ cy + 1 ∧ i = .int .i64 t ∧ R = ovF f (cy + 1 - t) t ∧ Below w.heap.size w wr) (fun i _ => cy + 1 - (intOf i).toNat)
  case atStart => exact ⟨1, by omega, by omega, rfl, hdef.out, Below.refl _ _⟩
  case round =>
    obtain ⟨t, ht1, ht2, rfl, hi, hb0⟩ := hrel
    replace hi := Lib.hid hi
    by_cases htc : t ≤ cy
    · have e1 : cy + 1 - t = (cy - t) + 1 := by omega
      have hst := Lib.hid (show R = if (t : Int) < f t then some t else ovF f (cy - t) (t + 1) by rw [hi.out, e1]; rfl)
      have e2 : Hid (cy + 1 - (t + 1) = cy - t) := Lib.hid (by omega)
      clear e1
      have hd := Lib.hid (hdm.out t (by omega) wr hb0)
      generalize f t = y at *
      go_wp2_with fail
      refine hd.out.mono ?_
      rintro e w3 ⟨rfl, hb3⟩
      replace hb0 := bl_tr hb0 hb3
      clear hb3 hd
      by_cases hy : (t : Int) < y
      · have e := Lib.hid (show R = some t by rw [hst.out, if_pos hy])
        go_wp2
        go_ret2
        exact ⟨hb0, .inr ⟨t, e.out, rfl⟩⟩
      · have e := Lib.hid (show R = ovF f (cy + 1 - (t + 1)) (t + 1) by rw [hst.out, if_neg hy, e2.out])
        go_wp2
        go_roundw
        case rel => exact ⟨t + 1, by omega, by omega, by go_num, e.out, hb0⟩
        case measure => simp [intOf]; omega
    · have e1 : cy + 1 - t = 0 := by omega
      have e := Lib.hid (show R = none by rw [hi.out, e1]; rfl)
      clear e1
      go_wp2
      go_ret2
      exact ⟨hb0, .inl ⟨e.out, rfl⟩⟩
end Go.Proofs.YtdlmkblmljhbfaaDoor
namespace Go.Proofs.YtdlmkblmljhbfaaDoor
set_option linter.unusedSimpArgs false
set_option linter.unusedVariables false
open Go.RowKit Go.Shelf
attribute [local go_sem] bl_al bl_drew bl_drewN bl_refl bx_al bx_drew bx_drewN bx_refl
set_option maxRecDepth 20000
def dmE (l : List Sm) (t : Int) : Int := fstE [smsErr l, unl (inR t 0 10000) 2]
def dmR (l : List Sm) (t : Int) : Int × Int := if dmE l t = 0 then (dmdS l t, 0) else (0, dmE l t)
theorem dmE_ok {l : List Sm} {t : Int} (h : dmE l t = 0) : smsErr l = 0 ∧ 0 ≤ t ∧ t ≤ 10000 := by
  obtain ⟨h1, h2⟩ := (fst_cons _ _).1 h
  have h3 := (unl_zero (by decide)).1 ((fst_cons _ _).1 h2).1
  exact ⟨h1, inR_iff.1 h3⟩
set_option maxHeartbeats 2000000 in
theorem c_DemandIn (l : List Sm) (t : Int) (A : Option Addr) (c : Nat) (w : World) (hn : SmIn l A c w) :
    Calls Tryd.prog 59 #[.slice A l.length c, .int .i64 t] w (Ret (.tuple #[.int .i64 (dmR l t).1, .int .i64 (dmR l t).2]) w) := by
  have hse := Lib.hid fun W (hb : Below w.heap.size w W) => c_streamsErr l A c W (hn.below hb)
  have hE : Hid (dmE l t = fstE [smsErr l, unl (inR t 0 10000) 2]) := rfl
  have h1 : Hid (dmE l t ≠ 0 → dmR l t = (0, dmE l t)) := fun h => by rw [dmR, if_neg h]
  have h2 : Hid (dmE l t = 0 → dmR l t = (dmdS l t, 0)) := fun h => by rw [dmR, if_pos h]
  have hdm := Lib.hid fun (h : dmE l t = 0) W (hb : Below w.heap.size w W) => c_demand l t A c W (hn.sl.below hb) (sms_ok (dmE_ok h).1).2.1 (fun s hs => ((sms_ok (dmE_ok h).1).2.2 s hs).1) (dmE_ok h).2.1 (dmE_ok h).2.2
  clear hn
  generalize dmR l t = R at *
  generalize dmE l t = E at *
  generalize smsErr l = se at *
  generalize dmdS l t = d at *
  generalize l.length = n at *
  go_enter Tryd.func59, Tryd.ntmps59
  go_upto_region 2 with (first | (go_at_call 98; (with_reducible refine (hse.out _ (by (with_reducible (repeat' (first | assumption | apply jA | apply jB | apply jC | apply jD | apply jE | apply jF | apply hb3 | omega | (simp; done) | (simp; omega) | (dsimp only; omega)))))).mono ?_); rintro e w3 ⟨rfl, hb3⟩; replace hb3 := bl_tt hb3) | (go_at_call 74; (with_reducible refine (c_within _ _ _ _).mono ?_); rintro e w3 ⟨rfl, rfl⟩) | (go_at_call 78; (with_reducible refine (c_unless _ _ _).mono ?_); rintro e w3 ⟨rfl, rfl⟩) | (go_at_call 77; (with_reducible refine (c_first2 (by (with_reducible (repeat' (first | assumption | (apply jL; first | (simp; done) | rfl) | apply jM | apply jN | apply jO | apply jP | apply jQ | apply jR | apply jS | apply jT (hb := hb3 _ (jA _)) | omega | (simp; done) | (simp; omega) | (dsimp only; omega)))))).mono ?_); rintro e w3 ⟨rfl, rfl⟩))
  rw [← hE.out]
  clear hse
  by_cases h0 : E = 0
  · have h0' : (E != 0) = false := by simp [h0]
    have hs := Lib.hid (h2.out h0)
    have hd := Lib.hid (hdm.out h0)
    replace h0 := Lib.hid h0
    clear hE h1 h2 hdm
    go_wp2_with fail
    refine (hd.out _ (by (with_reducible (repeat' (first | assumption | apply jA | apply jB | apply jC | apply jD | apply jE | apply jF | apply hb3 | omega | (simp; done) | (simp; omega) | (dsimp only; omega)))))).mono ?_
    rintro e w4 ⟨rfl, hb4⟩
    replace hb4 := bl_tt hb4
    go_wp2
    go_ret2
    exact ⟨by rw [hs.out] <;> rfl, hb4 _ (by (with_reducible (repeat' (first | assumption | apply jA | apply jB | apply jC | apply jD | apply jE | apply jF | apply hb3 | omega | (simp; done) | (simp; omega) | (dsimp only; omega)))))⟩
  · have h0' : (E != 0) = true := by simp [h0]
    have hs := Lib.hid (h1.out h0)
    replace h0 := Lib.hid h0
    clear hE h1 h2 hdm
    go_wp2
    go_ret2
    exact ⟨by rw [hs.out] <;> rfl, by (with_reducible (repeat' (first | assumption | apply jA | apply jB | apply jC | apply jD | apply jE | apply jF | apply hb3 | omega | (simp; done) | (simp; omega) | (dsimp only; omega))))⟩
/-- The overload, and the error. -/
def ovR (l : List Sm) : Int × Int :=
  if smsErr l = 0 then (match cyS l 1 with
    | none => (0, 8)
    | some n => match ovS l n with
      | none => (0, 12)
      | some t => ((t : Int), 0)) else (0, smsErr l)
set_option maxHeartbeats 4000000 in
theorem c_OverloadIn (l : List Sm) (A : Option Addr) (c : Nat) (w : World) (hn : SmIn l A c w) :
    Calls Tryd.prog 60 #[.slice A l.length c] w (Ret (.tuple #[.int .i64 (ovR l).1, .int .i64 (ovR l).2]) w) := by
  have hse := Lib.hid (c_streamsErr l A c w hn)
  have h1 : Hid (smsErr l ≠ 0 → ovR l = (0, smsErr l)) := fun h => by rw [ovR, if_neg h]
  have h2 : Hid (smsErr l = 0 → cyS l 1 = none → ovR l = (0, 8)) := fun h h' => by rw [ovR, if_pos h, h']
  have h3 : Hid (∀ n, smsErr l = 0 → cyS l 1 = some n → ovS l n = none → ovR l = (0, 12)) := fun n h h' h'' => by rw [ovR, if_pos h, h']; simp [h'']
  have h4 : Hid (∀ n t, smsErr l = 0 → cyS l 1 = some n → ovS l n = some t → ovR l = ((t : Int), 0)) := fun n t h h' h'' => by rw [ovR, if_pos h, h']; simp [h'']
  have hok := Lib.hid fun h : smsErr l = 0 => sms_ok h
  have Hs := Lib.hid hn.sl
  have hdm := Lib.hid fun (h : smsErr l = 0) (t : Nat) (ht : t ≤ 5000) W (hb : Below w.heap.size w W) => c_demand l t A c W (hn.sl.below hb) (sms_ok h).2.1 (fun s hs => ((sms_ok h).2.2 s hs).1) (by omega) (by omega)
  have hst := Lib.hid fun k x (hx : l[k]? = some x) n => cyS_drop hx n
  have hend : Hid (∀ n, cyS (l.drop l.length) n = some n) := fun n => by rw [List.drop_length]; rfl
  clear hn
  obtain ⟨g, hg⟩ : ∃ g : Nat → Nat → Option Nat, ∀ k n, cyS (l.drop k) n = g k n := ⟨_, fun _ _ => rfl⟩
  have hg0 : cyS l 1 = g 0 1 := hg 0 1
  rw [hg0] at h2 h3 h4
  simp only [hg] at hst hend
  clear hg hg0
  have hdef : Hid (∀ cy, ovS l cy = ovF (dmdS l) (cy + 1 - 1) 1) := fun _ => rfl
  obtain ⟨ov, ho⟩ : ∃ ov : Nat → Option Nat, ∀ n, ovS l n = ov n := ⟨_, fun _ => rfl⟩
  simp only [ho] at h3 h4 hdef
  clear ho
  generalize dmdS l = f at *
  generalize ovR l = R at *
  generalize smsErr l = E at *
  obtain ⟨n, Hn⟩ : ∃ n, Hid (l.length = n) := ⟨_, rfl⟩
  rw [Hn.out] at hse hok hdm hend ⊢
  go_enter Tryd.func60, Tryd.ntmps60
  go_wp2_with fail
  refine hse.out.mono ?_
  rintro e wa ⟨rfl, hb0⟩
  by_cases h0 : E = 0
  rotate_left
  · have h0' : (E != 0) = true := by simp [h0]
    have hs := Lib.hid (h1.out h0)
    replace h0 := Lib.hid h0
    go_wp2
    go_ret2
    exact ⟨by rw [hs.out] <;> rfl, hb0⟩
  have h0' : (E != 0) = false := by simp [h0]
  obtain ⟨hn1, hn6, hok1⟩ := hok.out h0
  have hdm1 := Lib.hid (hdm.out h0)
  have h2' := Lib.hid (h2.out h0)
  have h3' := Lib.hid fun n => h3.out n h0
  have h4' := Lib.hid fun n t => h4.out n t h0
  have hok' := Lib.hid fun k x (hx : l[k]? = some x) => (hok1 x (List.mem_of_getElem? hx)).1
  clear hse h1 h2 h3 h4 hok hdm hok1
  subst h0
  go_wp2
  go_loopw [5, 16] (fun s i wr => ∃ k v : Nat, k ≤ n ∧ i = .int .i64 k ∧ s = .int .i64 v ∧ 1 ≤ v ∧ v ≤ 5000 ∧ g 0 1 = g k v ∧ Below w.heap.size w wr) (fun _ i _ => n - (intOf i).toNat)
  case atStart => exact ⟨0, 1, Nat.zero_le _, rfl, rfl, by omega, by omega, rfl, hb0⟩
  case round =>
    clear hb0
    obtain ⟨k, v, hk, rfl, rfl, hv1, hv2, hi, hb0⟩ := hrel
    replace hi := Lib.hid hi
    by_cases hkn : k < n
    · have hx : l[k]? = some (l[k]'(by rw [Hn.out]; exact hkn)) := List.getElem?_eq_getElem _
      generalize l[k]'(by rw [Hn.out]; exact hkn) = x at hx
      have ho := hok'.out k x hx
      have hs := hst.out k x hx v
      obtain ⟨hp1, hp2, -, -, -, -⟩ := ho
      obtain ⟨b, off, rfl, hc⟩ := (Hs.out.below hb0) k x hx
      have c0 := hc 0 _ rfl
      have c1 := hc 1 _ rfl
      have c2 := hc 2 _ rfl
      have c3 := hc 3 _ rfl
      simp only [Nat.add_zero] at c0
      obtain ⟨xn, xp, xd, xl⟩ := x
      dsimp only at *
      obtain ⟨p, rfl⟩ : ∃ p : Nat, xp = p := ⟨xp.toNat, by omega⟩
      rw [Int.toNat_natCast] at hs
      clear hc hx
      have hgc := Lib.hid fun W : World => c_divisor v p W (by omega) (by omega)
      obtain ⟨h5, h6, h7, h8⟩ := cy_step hv1 hv2 (show 1 ≤ p by omega) (show p ≤ 60 by omega)
      have hdv : ((v : Nat) : Int) / ((Nat.gcd v p : Nat) : Int) = ((v / Nat.gcd v p : Nat) : Int) := by simp
      generalize Nat.gcd v p = d at *
      generalize v / d = q at *
      have hmu : (q : Int) * p = ((q * p : Nat) : Int) := by simp
      generalize q * p = r at *
      have hd0 : ¬ d = 0 := by omega
      replace hs := Lib.hid hs
      have hqw := hb0.size
      go_upto_region 8 with fail
      first
      | apply absB1 (w0 := w) (g0 := wr.heap.size)
      | apply absTB1 (w0 := w) (g0 := wr.heap.size)
      | apply absIB1 (w0 := w) (g0 := wr.heap.size)
      iterate 2 (focus ((with_reducible (repeat' (first | assumption | apply jA | apply jB | apply jC | apply jD | apply jE | apply jF | apply hb3 | apply jG | apply jH | apply jI | apply jJ | apply jK | apply hb3x | (apply jL; first | (simp; done) | rfl) | apply jM | apply jN | apply jO | apply jP | apply jQ | apply jR | apply jS | apply jT (hb := hb3 _ (jA _)) | omega | (simp; done) | (simp; omega) | (dsimp only; omega)))); done))
      intro wb hb0' k1'
      (try simp only [List.setIfInBounds_toArray, List.set_cons_zero, List.set_cons_succ] at k1')
      try clear hb3
      try clear hb0
      try clear k1
      have hb0 := hb0'; clear hb0'
      have k1 := k1'; clear k1'
      clear c0 c1 c2 c3
      have Lk1 := k1.later
      have Fk1 := k1.laterF
      have Qk1 := k1.lt
      refine wp_any (w0 := wb) ⟨[9], [], [some 20, some 21, some 22, some 23, some 24, some 25, some 26, some 27, some 28, none], [[], [], [], [2], [1, 2, 3], [0, 1, 2, 3, 4], [], [6], [0, 1, 2, 3, 4, 5, 6, 7], [0, 1, 2, 3, 4, 5, 6, 7, 8]], [[], [], [], [2], [1, 3], [0, 4], [], [6], [5, 7], []]⟩ (fun _ => []) (by kernel_rfl) (by kernel_rfl) (by (with_reducible (repeat' (first | assumption | apply jA | apply jB | apply jC | apply jD | apply jE | apply jF | apply hb3 | omega | (simp; done) | (simp; omega) | (dsimp only; omega))))) (fun u => by simp only [putD, Act.put, List.setIfInBounds_toArray, List.set_cons_zero, List.set_cons_succ, Nat.zero_add, Nat.reduceAdd]; rfl) ?_
      apply RGW.on (i := 0) rfl
      · (simp only [gA, gB, gC] <;> rfl)
      · intro γ u W hcur hd
        clear hd
        (try dsimp only)
        refine ⟨rfl, ?_⟩
        go_simp <;> (try go_bits) <;> with_reducible rfl
      · exact fun _ _ _ => rfl
      · rfl
      dsimp only [nA, cA]
      apply RGW.on (i := 1) rfl
      · (simp only [gA, gB, gC] <;> rfl)
      · intro γ u W hcur hd
        clear hd
        (try dsimp only)
        refine ⟨rfl, ?_⟩
        go_simp <;> (try go_bits) <;> with_reducible rfl
      · exact fun _ _ _ => rfl
      · rfl
      dsimp only [nA, cA]
      apply RGW.on (i := 2) rfl
      · (simp only [gA, gB, gC] <;> rfl)
      · intro γ u W hcur hd
        clear hd
        (try dsimp only)
        refine ⟨rfl, ?_⟩
        go_simp <;> (try go_bits) <;> with_reducible rfl
      · exact fun _ _ _ => rfl
      · rfl
      dsimp only [nA, cA]
      apply RGW.on (i := 3) rfl
      · (simp only [gA, gB, gC] <;> rfl)
      · intro γ u W hcur hd
        obtain ⟨⟨h2, -, -⟩, -⟩ := hd
        dsimp only at h2
        (try simp only [h2])
        refine ⟨rfl, ?_⟩
        go_simp <;> (try go_bits) <;> with_reducible rfl
      · exact fun _ _ _ => rfl
      · rfl
      dsimp only [nA, cA]
      apply RGW.call (i := 4) rfl
      · (simp only [gA, gB, gC] <;> rfl)
      · intro γ u W hcur hd
        obtain ⟨⟨h1, -, -⟩, ⟨h3, -, -⟩, -⟩ := hd
        dsimp only at h1 h3
        (try simp only [h1, h3])
        refine ⟨rfl, fun K hK => ?_⟩
        go_simp
        (go_at_call 120; (with_reducible refine (hgc.out _).mono ?_); rintro e w3 ⟨rfl, hb3⟩; replace hb3 := bl_tt hb3)
        (try dsimp only)
        exact hK.out _ _ rfl (by (with_reducible (repeat' (first | assumption | apply jA | apply jB | apply jC | apply jD | apply jE | apply jF | apply hb3 | omega | (simp; done) | (simp; omega) | (dsimp only; omega)))))
      · exact fun _ _ _ => rfl
      · rfl
      dsimp only [nA, cA]
      apply RGW.on (i := 5) rfl
      · (simp only [gA, gB, gC] <;> rfl)
      · intro γ u W hcur hd
        obtain ⟨⟨h0, -, -⟩, ⟨h4, -, -⟩, -⟩ := hd
        dsimp only at h0 h4
        (try simp only [h0, h4])
        refine ⟨rfl, ?_⟩
        go_simp <;> (try go_bits) <;> with_reducible rfl
      · exact fun _ _ _ => rfl
      · rfl
      dsimp only [nA, cA]
      apply RGW.on (i := 6) rfl
      · (simp only [gA, gB, gC] <;> rfl)
      · intro γ u W hcur hd
        clear hd
        (try dsimp only)
        refine ⟨rfl, ?_⟩
        go_simp <;> (try go_bits) <;> with_reducible rfl
      · exact fun _ _ _ => rfl
      · rfl
      dsimp only [nA, cA]
      apply RGW.on (i := 7) rfl
      · (simp only [gA, gB, gC] <;> rfl)
      · intro γ u W hcur hd
        obtain ⟨⟨h6, -, -⟩, -⟩ := hd
        dsimp only at h6
        (try simp only [h6])
        refine ⟨rfl, ?_⟩
        go_simp <;> (try go_bits) <;> with_reducible rfl
      · exact fun _ _ _ => rfl
      · rfl
      dsimp only [nA, cA]
      apply RGW.on (i := 8) rfl
      · (simp only [gA, gB, gC] <;> rfl)
      · intro γ u W hcur hd
        obtain ⟨⟨h5, -, -⟩, ⟨h7, -, -⟩, -⟩ := hd
        dsimp only at h5 h7
        (try simp only [h5, h7])
        refine ⟨rfl, ?_⟩
        go_simp <;> (try go_bits) <;> with_reducible rfl
      · exact fun _ _ _ => rfl
      · rfl
      dsimp only [nA, cA]
      refine RGW.skip (i := 9) rfl rfl ?_
      dsimp only [nA, cA]
      refine RGW.fin (fun γ u wj hwj hd hdis => ?_)
      obtain ⟨⟨h0, -, -⟩, ⟨h1, -, -⟩, ⟨h2, -, -⟩, ⟨h3, -, -⟩, ⟨h4, -, -⟩, ⟨h5, -, -⟩, ⟨h6, -, -⟩, ⟨h7, -, -⟩, ⟨h8, -, -⟩, -⟩ := hd
      dsimp only at h0 h1 h2 h3 h4 h5 h6 h7 h8
      clear hdis
      simp only [h0, h1, h2, h3, h4, h5, h6, h7, h8]
      clear h8 h7 h6 h5 h4 h3 h2 h1 h0
      clear u
      simp only [List.map_cons, List.map_nil]
      apply PlanW.step
      · (simp only [gA, gB, gC] <;> rfl)
      · rfl
      intro K hK
      go_simp
      refine hK.out _ _ (by with_reducible first | assumption | exact bx_refl _ _) (fun hcur => ?_)
      clear hK K
      try simp only [Act.put, List.setIfInBounds_toArray, List.set_cons_zero, List.set_cons_succ]
      refine PlanW.done ?_
      have hb3 := bl_tt hwj
      have hbj := bl_tr hb0 hwj
      clear hmu hdv Lk1 Fk1
      by_cases h5000 : 5000 < r
      · have hr : (5000 : Int) < r := by omega
        have e := Lib.hid (h2'.out (show g 0 1 = none by rw [hi.out, hs.out, if_pos h5000]))
        go_wp2
        go_ret2
        exact ⟨by rw [e.out] <;> rfl, hbj⟩
      · have hr : ¬ (5000 : Int) < r := by omega
        have e := Lib.hid (show g 0 1 = g (k + 1) r by rw [hi.out, hs.out, if_neg h5000])
        go_wp2
        go_roundw
        case rel => exact ⟨k + 1, r, by omega, by go_num, rfl, by omega, by omega, e.out, hbj⟩
        case measure => simp [intOf]; omega
    · have e : k = n := by omega
      have e2 : g 0 1 = some v := by rw [hi.out, e, hend.out]
      have h3'' := Lib.hid (h3'.out v e2)
      have h4'' := Lib.hid fun t => h4'.out v t e2
      have hdef' := Lib.hid (hdef.out v)
      clear e e2 h2' h3' h4' hi hst hend hok' Hs hdef
      generalize ov v = O at *
      go_wp2
      go_loopw [8] (fun i wr => ∃ t : Nat, 1 ≤ t ∧ t ≤ v + 1 ∧ i = .int .i64 t ∧ O = ovF f (v + 1 - t) t ∧ Below w.heap.size w wr) (fun i _ => v + 1 - (intOf i).toNat)
      case atStart => exact ⟨1, by omega, by omega, rfl, hdef'.out, hb0⟩
      case round =>
        clear hb0
        obtain ⟨t, ht1, ht2, rfl, hi, hb0⟩ := hrel
        replace hi := Lib.hid hi
        by_cases htc : t ≤ v
        · have e1 : v + 1 - t = (v - t) + 1 := by omega
          have hst := Lib.hid (show O = if (t : Int) < f t then some t else ovF f (v - t) (t + 1) by rw [hi.out, e1]; rfl)
          have e2 : Hid (v + 1 - (t + 1) = v - t) := Lib.hid (by omega)
          clear e1
          have hd := Lib.hid (hdm1.out t (by omega) wr hb0)
          generalize f t = y at *
          go_wp2_with fail
          refine hd.out.mono ?_
          rintro e w3 ⟨rfl, hb3⟩
          replace hb0 := bl_tr hb0 hb3
          clear hb3 hd
          by_cases hy : (t : Int) < y
          · have e := Lib.hid (h4''.out t (show O = some t by rw [hst.out, if_pos hy]))
            go_wp2
            go_ret2
            exact ⟨by rw [e.out] <;> rfl, hb0⟩
          · have e := Lib.hid (show O = ovF f (v + 1 - (t + 1)) (t + 1) by rw [hst.out, if_neg hy, e2.out])
            go_wp2
            go_roundw
            case rel => exact ⟨t + 1, by omega, by omega, by go_num, e.out, hb0⟩
            case measure => simp [intOf]; omega
        · have e1 : v + 1 - t = 0 := by omega
          have e := Lib.hid (h3''.out (show O = none by rw [hi.out, e1]; rfl))
          clear e1
          go_wp2
          go_ret2
          exact ⟨by rw [e.out] <;> rfl, hb0⟩
end Go.Proofs.YtdlmkblmljhbfaaDoor
namespace Go.Proofs.YtdlmkblmljhbfaaDoor
set_option linter.unusedSimpArgs false
set_option linter.unusedVariables false
open Go.RowKit Go.Shelf
attribute [local go_sem] bl_al bl_drew bl_drewN bl_refl bx_al bx_drew bx_drewN bx_refl
set_option maxRecDepth 20000
theorem few_ok {l : List Sm} (h : fewB l = true) : l.length ≤ 8 ∧ ∀ s ∈ l, s.name.size ≤ 30 := by
  unfold fewB at h
  rw [Bool.and_eq_true, decide_eq_true_eq, List.all_eq_true] at h
  refine ⟨by omega, fun s hs => ?_⟩
  have := h.2 s hs
  simp at this
  omega
theorem dmE_sms {l : List Sm} {t : Int} (h : smsErr l ≠ 0) : dmE l t = smsErr l := by simp [dmE, fstE, h]
theorem dmE_rng {l : List Sm} {t : Int} (h : smsErr l = 0) : dmE l t = unl (inR t 0 10000) 2 := by
  simp [dmE, fstE, h]
  intro h2
  exact h2.symm
set_option maxHeartbeats 2000000 in
theorem r_BusDemands (l : List Sm) (t : Int) (A : Option Addr) (c : Nat) (w : World) (hs : Sl cSm 4 w A l) (hc : l.length ≤ c) (hnm : ∀ s ∈ l, s.name.size ≤ maxLen) (hT : Tab w) :
    Calls Tryd.prog 10 #[.slice A l.length c, .int .i64 t] w (Ret (.bool true) w) := by
  have haw := Lib.hid fun W (hb : Below w.heap.size w W) => r_awake W (hT.below hb)
  have hfw := Lib.hid fun W (hb : Below w.heap.size w W) => r_fewStreams l A c W (hs.below hb)
  cases hF : fewB l
  · rw [hF] at hfw
    clear hs hT hc hnm hF
    generalize l.length = n at *
    go_enter Tryd.func10, Tryd.ntmps10
    go_wp2_with fail
    refine (haw.out w (bl_refl _)).mono ?_
    rintro e wa ⟨rfl, hb0⟩
    go_wp2_with fail
    refine (hfw.out wa hb0).mono ?_
    rintro e wb ⟨rfl, rfl⟩
    go_wp2
    go_ret
    exact ⟨rfl, hb0⟩
  rw [hF] at hfw
  have hl8 := (few_ok hF).1
  have hn : SmIn l A c w := ⟨by omega, hc, hnm, hs⟩
  clear hF hs hT hc hnm
  have hcp := Lib.hid fun W (hb : Below w.heap.size w W) => r_CopyStreams l A c W (hn.below hb)
  have hdi := Lib.hid fun A2 c2 W (h : SmIn l A2 c2 W) => c_DemandIn l t A2 c2 W h
  have hov := Lib.hid fun A2 c2 W (h : SmIn l A2 c2 W) => c_OverloadIn l A2 c2 W h
  have hse := Lib.hid fun W (hb : Below w.heap.size w W) => r_StreamsErr l A c W (hn.below hb)
  have hok := Lib.hid fun (h : smsErr l = 0) => (show l.length ≤ 6 ∧ ∀ o ∈ l, OkSm o from ⟨(sms_ok h).2.1, fun s hs => ((sms_ok h).2.2 s hs).1⟩)
  have hdm := Lib.hid fun (h : smsErr l = 0) (ht : 0 ≤ t ∧ t ≤ 10000) W (hb : Below w.heap.size w W) => r_Demand l t A c W (hn.sl.below hb) (hok.out h).1 (hok.out h).2 ht.1 ht.2
  have hcy := Lib.hid fun (h : smsErr l = 0) W (hb : Below w.heap.size w W) => r_Cycle l A c W (hn.sl.below hb) (hok.out h).1 (hok.out h).2
  have hol := Lib.hid fun (h : smsErr l = 0) (cy : Nat) (hcy : cy ≤ 5000) W (hb : Below w.heap.size w W) => r_Overload l cy A c W (hn.sl.below hb) (hok.out h).1 (hok.out h).2 hcy
  have o1 : Hid (smsErr l ≠ 0 → ovR l = (0, smsErr l)) := fun h => by rw [ovR, if_neg h]
  have o2 : Hid (smsErr l = 0 → cyS l 1 = none → ovR l = (0, 8)) := fun h h' => by rw [ovR, if_pos h, h']
  have o3 : Hid (∀ n, smsErr l = 0 → cyS l 1 = some n → ovS l n = none → ovR l = (0, 12)) := fun n h h' h'' => by rw [ovR, if_pos h, h']; simp [h'']
  have o4 : Hid (∀ n t, smsErr l = 0 → cyS l 1 = some n → ovS l n = some t → ovR l = ((t : Int), 0)) := fun n t h h' h'' => by rw [ovR, if_pos h, h']; simp [h'']
  have d1 : Hid (smsErr l ≠ 0 → dmR l t = (0, smsErr l)) := fun h => by rw [dmR, dmE_sms h, if_neg h]
  have d2 : Hid (smsErr l = 0 → inR t 0 10000 = false → dmR l t = (0, 2)) := fun h h' => by rw [dmR, dmE_rng h, h']; rfl
  have d3 : Hid (smsErr l = 0 → inR t 0 10000 = true → dmR l t = (dmdS l t, 0)) := fun h h' => by rw [dmR, dmE_rng h, h']; rfl
  clear hn hok
  generalize smsErr l = E at *
  generalize ovR l = O at *
  generalize dmR l t = D at *
  generalize dmdS l t = dd at *
  obtain ⟨x, ix⟩ := D
  obtain ⟨y, iy⟩ := O
  dsimp only at hdi hov
  go_enter Tryd.func10, Tryd.ntmps10
  go_wp2_with fail
  refine (haw.out w (bl_refl _)).mono ?_
  rintro e wa ⟨rfl, hb0⟩
  go_wp2_with fail
  refine (hfw.out wa hb0).mono ?_
  rintro e wb ⟨rfl, rfl⟩
  go_wp2_with fail
  refine (hcp.out _ hb0).mono ?_
  rintro e w1 ⟨A1, c1, rfl, hb1, hn1⟩
  replace hb0 := bl_tr hb0 hb1
  clear hb1
  go_wp2_with fail
  refine (hdi.out _ _ _ hn1).mono ?_
  rintro e w2 ⟨rfl, hb1⟩
  replace hb0 := bl_tr hb0 hb1
  clear hb1 hn1 hdi haw hfw
  go_wp2_with fail
  refine (hcp.out _ hb0).mono ?_
  rintro e w3 ⟨A2, c2, rfl, hb1, hn1⟩
  replace hb0 := bl_tr hb0 hb1
  clear hb1 hcp
  go_wp2_with fail
  refine (hov.out _ _ _ hn1).mono ?_
  rintro e w4 ⟨rfl, hb1⟩
  replace hb0 := bl_tr hb0 hb1
  clear hb1 hn1 hov
  go_wp2_with fail
  refine (hse.out _ hb0).mono ?_
  rintro e w5 ⟨rfl, hb1⟩
  replace hb0 := bl_tr hb0 hb1
  clear hb1 hse
  by_cases hE : E = 0
  rotate_left
  · have hE' : (E != 0) = true := by simp [hE]
    have hE2 : (E == 0) = false := by simp [hE]
    have e1 := d1.out hE
    have e2 := o1.out hE
    injection e1 with e1 e3
    injection e2 with e2 e4
    subst e1 e2 e3 e4
    clear d1 d2 d3 o1 o2 o3 o4 hdm hcy hol
    replace hE := Lib.hid hE
    go_wp2
    go_ret
    exact ⟨rfl, hb0⟩
  subst hE
  have hcy' := Lib.hid (hcy.out rfl)
  have hol' := Lib.hid (hol.out rfl)
  have hdm' := Lib.hid (hdm.out rfl)
  have d2' := Lib.hid (d2.out rfl)
  have d3' := Lib.hid (d3.out rfl)
  have o2' := Lib.hid (o2.out rfl)
  have o3' := Lib.hid fun n => o3.out n rfl
  have o4' := Lib.hid fun n t => o4.out n t rfl
  clear hcy hol hdm d1 d2 d3 o1 o2 o3 o4
  cases hR : inR t 0 10000
  · have e1 := d2'.out hR
    injection e1 with e1 e3
    subst e1 e3
    clear d2' d3' hdm'
    go_upto_region 15 with (go_at_call 21; (with_reducible refine (hR ▸ r_Within t 0 10000 _).mono ?_); rintro e w3 ⟨rfl, rfl⟩)
    go_wp2_with fail
    refine (hcy'.out _ hb0).mono ?_
    rintro e w7 ⟨hb7, ⟨hn, rfl⟩ | ⟨n, hn, hn1, hn2, rfl⟩⟩
    · have e1 := o2'.out hn
      injection e1 with e1 e3
      subst e1 e3
      replace hb0 := bl_tr hb0 hb7
      clear hn o2' o3' o4' hcy' hol'
      go_wp2
      go_ret
      exact ⟨rfl, hb0⟩
    · replace hb0 := bl_tr hb0 hb7
      clear o2' hcy'
      go_wp2_with fail
      refine (hol'.out n hn2 _ hb0).mono ?_
      rintro e w8 ⟨hb8, ⟨ho, rfl⟩ | ⟨t2, ho, rfl⟩⟩
      · have e1 := o3'.out n hn ho
        injection e1 with e1 e3
        subst e1 e3
        replace hb0 := bl_tr hb0 hb8
        clear hn ho o3' o4' hol'
        go_wp2
        go_ret
        exact ⟨rfl, hb0⟩
      · have e1 := o4'.out n t2 hn ho
        injection e1 with e1 e3
        subst e1 e3
        replace hb0 := bl_tr hb0 hb8
        clear hn ho o3' o4' hol'
        go_wp2
        go_ret
        exact ⟨by simp, hb0⟩
  · have e1 := d3'.out hR
    injection e1 with e1 e3
    subst e1 e3
    have hdm2 := Lib.hid (hdm'.out (inR_iff.1 hR))
    clear d2' d3' hdm'
    go_upto_region 15 with (first | (go_at_call 21; (with_reducible refine (hR ▸ r_Within t 0 10000 _).mono ?_); rintro e w3 ⟨rfl, rfl⟩) | (go_at_call 61; (with_reducible refine (hdm2.out _ hb0).mono ?_); rintro e w6 ⟨rfl, hb6⟩; replace hb0 := bl_tr hb0 hb6))
    go_wp2_with fail
    refine (hcy'.out _ hb0).mono ?_
    rintro e w7 ⟨hb7, ⟨hn, rfl⟩ | ⟨n, hn, hn1, hn2, rfl⟩⟩
    · have e1 := o2'.out hn
      injection e1 with e1 e3
      subst e1 e3
      replace hb0 := bl_tr hb0 hb7
      clear hn o2' o3' o4' hcy' hol'
      go_wp2
      go_ret
      exact ⟨rfl, hb0⟩
    · replace hb0 := bl_tr hb0 hb7
      clear o2' hcy'
      go_wp2_with fail
      refine (hol'.out n hn2 _ hb0).mono ?_
      rintro e w8 ⟨hb8, ⟨ho, rfl⟩ | ⟨t2, ho, rfl⟩⟩
      · have e1 := o3'.out n hn ho
        injection e1 with e1 e3
        subst e1 e3
        replace hb0 := bl_tr hb0 hb8
        clear hn ho o3' o4' hol'
        go_wp2
        go_ret
        exact ⟨rfl, hb0⟩
      · have e1 := o4'.out n t2 hn ho
        injection e1 with e1 e3
        subst e1 e3
        replace hb0 := bl_tr hb0 hb8
        clear hn ho o3' o4' hol'
        go_wp2
        go_ret
        exact ⟨by simp, hb0⟩
end Go.Proofs.YtdlmkblmljhbfaaDoor
