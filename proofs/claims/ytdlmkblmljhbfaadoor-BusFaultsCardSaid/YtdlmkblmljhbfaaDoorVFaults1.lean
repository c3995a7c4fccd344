/-
  Walks: the reference's remainder of a division, and whether a list has a number.
  Walk: the reference's names.
  Plain: what a net says, without where it lies.
  Walks: which nets are valid, by the reference: names met before, ascending indexes.
  Walk: which nets are valid, by the reference.
  Plain: failures as sets and as lists; which functions work, and the smallest failures that stop one.
  Walks: which streams are late; the worst responses.
  'append' onto a slice of the call's own: its block is the one it had, or a new one.
-/
import Derived.Test.YtdlmkblmljhbfaaDoorU6
import Derived.Test.YtdlmkblmljhbfaaDoorU2
import Derived.Test.YtdlmkblmljhbfaaDoorU1
import Derived.Test.YtdlmkblmljhbfaaDoorU3
import Derived.Test.YtdlmkblmljhbfaaDoorU5
namespace Go.Proofs.YtdlmkblmljhbfaaDoor
set_option linter.unusedSimpArgs false
set_option linter.unusedVariables false
open Go.RowKit Go.Shelf
attribute [local go_sem] bl_al bl_drew bl_drewN bl_refl bx_al bx_drew bx_drewN bx_refl
set_option maxRecDepth 20000
theorem md_neg {n d : Int} (hd : 0 < d) (h : n.tmod d < 0) : n.tmod d + d = n % d := by
  have h1 := Int.mul_tdiv_add_tmod n d
  have h2 := Int.lt_tmod_of_pos n hd
  have h3 := (Int.ediv_emod_unique (a := n) (b := d) (r := n.tmod d + d) (q := n.tdiv d - 1) hd).2 ⟨by rw [Int.mul_sub]; omega, by omega, by omega⟩
  exact h3.2.symm
theorem md_pos {n d : Int} (hd : 0 < d) (h : ¬ n.tmod d < 0) : n.tmod d = n % d := by
  have h1 := Int.mul_tdiv_add_tmod n d
  have h2 := Int.tmod_lt_of_pos n hd
  have h3 := (Int.ediv_emod_unique (a := n) (b := d) (r := n.tmod d) (q := n.tdiv d) hd).2 ⟨by omega, by omega, h2⟩
  exact h3.2.symm
theorem r_Mod (n d : Int) (w : World) (h3 : 0 < d) (h4 : d ≤ 1000000000000) : Calls Tryd.prog 31 #[.int .i64 n, .int .i64 d] w (Same (.int .i64 (n % d)) w) := by
  have q3 := Int.lt_tmod_of_pos n h3
  have q4 := Int.tmod_lt_of_pos n h3
  have hd : d ≠ 0 := by omega
  by_cases hT : n.tmod d < 0
  · have e := Lib.hid (md_neg h3 hT)
    have hT' : decide (n.tmod d < 0) = true := by simp [hT]
    go_enter Tryd.func31, Tryd.ntmps31
    go_wp2
    all_goals (go_ret; exact ⟨by rw [← e.out] <;> rfl, rfl⟩)
  · have e := Lib.hid (md_pos h3 hT)
    have hT' : decide (n.tmod d < 0) = false := by simp [hT]
    go_enter Tryd.func31, Tryd.ntmps31
    go_wp2
    all_goals (go_ret; exact ⟨by rw [← e.out] <;> rfl, rfl⟩)
set_option maxHeartbeats 2000000 in
theorem r_Has (l : List Int) (x : Int) (A : Option Addr) (c : Nat) (w : World) (hl : Sl cI 1 w A l) (hll : l.length ≤ 1000) :
    Calls Tryd.prog 48 #[.slice A l.length c, .int .i64 x] w (Ret (.bool (l.contains x)) w) := by
  have Hl := Lib.hid hl
  obtain ⟨n, Hn⟩ : ∃ n, Hid (l.length = n) := ⟨_, rfl⟩
  rw [Hn.out] at hll ⊢
  clear hl
  go_enter Tryd.func48, Tryd.ntmps48
  go_wp2
  go_loopw [5] (fun i wr => ∃ k : Nat, k ≤ n ∧ i = .int .i64 k ∧ Below w.heap.size w wr ∧ l.contains x = (l.drop k).contains x) (fun i _ => n - (intOf i).toNat)
  case atStart => exact ⟨0, Nat.zero_le _, rfl, Below.refl _ _, rfl⟩
  case round =>
    obtain ⟨k, hk, rfl, hb, hi⟩ := hrel
    replace hi := Lib.hid hi
    by_cases hlt : k < n
    · have hx : l[k]? = some (l[k]'(by rw [Hn.out]; exact hlt)) := List.getElem?_eq_getElem _
      generalize l[k]'(by rw [Hn.out]; exact hlt) = y at hx
      obtain ⟨b, off, hA, hc⟩ := Hl.out k y hx
      have c0 : wr.cell? ⟨b, off + k, none⟩ = some (.int .i64 y) := by have := kcell hb (hc 0 _ rfl); simpa using this
      have hd : Hid (l.drop k = y :: l.drop (k + 1)) := by
        have hk' := (List.getElem?_eq_some_iff.1 hx).1
        refine Lib.hid ?_
        rw [List.drop_eq_getElem_cons hk', (List.getElem?_eq_some_iff.1 hx).2]
      clear hc hx
      subst hA
      cases hyx : y == x
      · have hyx' : (x == y) = false := by rw [Bool.eq_false_iff] at hyx ⊢; intro h; exact hyx (by rw [beq_iff_eq] at h ⊢; exact h.symm)
        go_wp2
        go_roundw
        case rel => exact ⟨k + 1, by omega, by go_num, hb, by rw [hi.out, hd.out, List.contains_cons, hyx', Bool.false_or]⟩
        case measure => simp [intOf]; omega
      · have hyx' : (x == y) = true := by rw [beq_iff_eq] at hyx ⊢; exact hyx.symm
        go_wp2
        go_ret
        exact ⟨by rw [hi.out, hd.out, List.contains_cons, hyx', Bool.true_or] <;> rfl, hb⟩
    · go_wp2
      go_ret
      have : k = l.length := by have := Hn.out; omega
      exact ⟨by rw [hi.out, this]; simp, hb⟩
end Go.Proofs.YtdlmkblmljhbfaaDoor
namespace Go.Proofs.YtdlmkblmljhbfaaDoor
set_option linter.unusedSimpArgs false
set_option linter.unusedVariables false
open Go.RowKit Go.Shelf
attribute [local go_sem] bl_al bl_drew bl_drewN bl_refl
set_option maxRecDepth 20000
set_option maxHeartbeats 2000000 in
theorem r_IsName (s : ByteArray) (w : World) (hs : s.size ≤ maxLen) :
    Calls Tryd.prog 114 #[.string s] w (Ret (.bool (nameB s)) w) := by
  unfold maxLen at hs
  obtain ⟨l, Hl⟩ : ∃ l, Hid (s.data.toList = l) := ⟨_, rfl⟩
  obtain ⟨n, Hn⟩ : ∃ n, Hid (s.size = n) := ⟨_, rfl⟩
  have Hln : Hid (l.length = n) := by rw [← Hl.out, ← Hn.out]; exact (by simp : s.data.toList.length = s.size)
  have hR : Hid (nameB s = (nameFrom 0 l && inR n 1 12)) := by unfold nameB; rw [Hl.out, Hn.out]; rfl
  rw [Hn.out] at hs
  have hsz : s.size = n := Hn.out
  by_cases hlow : n < 1
  · have e : Hid (nameB s = false) := by rw [hR.out]; refine Lib.hid ?_; have : inR n 1 12 = false := by simp [inR]; intro; omega
                                         rw [this, Bool.and_false]
    have hb1 : decide ((n : Int) < 1) = true := by simp; omega
    go_enter Tryd.func114, Tryd.ntmps114
    go_wp2
    go_ret
    exact ⟨by rw [e.out] <;> rfl, bl_refl _⟩
  have hb1 : decide ((n : Int) < 1) = false := by simp; omega
  by_cases hhi : 12 < n
  · have e : Hid (nameB s = false) := by rw [hR.out]; refine Lib.hid ?_; have : inR n 1 12 = false := by simp [inR]; intro; omega
                                         rw [this, Bool.and_false]
    have hb2 : decide ((12 : Int) < n) = true := by simp; omega
    go_enter Tryd.func114, Tryd.ntmps114
    go_wp2
    go_ret
    exact ⟨by rw [e.out] <;> rfl, bl_refl _⟩
  have hb2 : decide ((12 : Int) < n) = false := by simp; omega
  replace hR : Hid (nameB s = nameFrom 0 l) := by rw [hR.out]; refine Lib.hid ?_; have : inR n 1 12 = true := by simp [inR]; omega
                                                  rw [this, Bool.and_true]
  go_enter Tryd.func114, Tryd.ntmps114
  go_wp2
  go_loopw [3] (fun i wr => ∃ k : Nat, k ≤ n ∧ i = .int .i64 k ∧ wr = w ∧ nameFrom 0 l = nameFrom k (l.drop k)) (fun i _ => n - (intOf i).toNat)
  case atStart => exact ⟨0, Nat.zero_le _, rfl, rfl, rfl⟩
  case round =>
    obtain ⟨k, hk, rfl, rfl, hi⟩ := hrel
    replace hi := Lib.hid hi
    by_cases hlt : k < n
    · have hx : l[k]? = some (l[k]'(by rw [Hln.out]; exact hlt)) := List.getElem?_eq_getElem _
      generalize l[k]'(by rw [Hln.out]; exact hlt) = c at hx
      have hd := Lib.hid (nameFrom_drop l k c hx)
      have hks : k < s.size := by rw [hsz]; exact hlt
      have hget : s.data[k]'(by simpa using hks) = c := by
        have := hx
        rw [← Hl.out] at this
        simpa using (List.getElem?_eq_some_iff.1 this).2
      have hget' : (s[k]'hks) = c := hget
      have hm0 := c.toNat_lt
      have hlet := Lib.hid (letter_iff c)
      have hoth := Lib.hid (other_iff c)
      have hyes : Hid ((97 ≤ c.toNat ∧ c.toNat ≤ 122 ∨ 65 ≤ c.toNat ∧ c.toNat ≤ 90) ∨ k ≠ 0 ∧ (48 ≤ c.toNat ∧ c.toNat ≤ 57 ∨ c.toNat = 45) → nameFrom 0 l = nameFrom (k + 1) (l.drop (k + 1))) := by
        intro h
        rw [hi.out, hd.out]
        rcases h with h | ⟨h0, h⟩
        · simp [hlet.out.2 h]
        · simp [hoth.out.2 h, h0]
      have hno : Hid (¬ ((97 ≤ c.toNat ∧ c.toNat ≤ 122 ∨ 65 ≤ c.toNat ∧ c.toNat ≤ 90) ∨ k ≠ 0 ∧ (48 ≤ c.toNat ∧ c.toNat ≤ 57 ∨ c.toNat = 45)) → nameFrom 0 l = false) := by
        intro h
        rw [hi.out, hd.out]
        have h1 : letter c = false := by rw [Bool.eq_false_iff]; intro hh; exact h (.inl (hlet.out.1 hh))
        by_cases h0 : k = 0
        · simp [h1, h0]
        · have h2 : other c = false := by rw [Bool.eq_false_iff]; intro hh; exact h (.inr ⟨h0, hoth.out.1 hh⟩)
          simp [h1, h2]
      clear hx hlet hoth hd hi
      go_upto_region 7 with fail
      clear hget hget'
      generalize c.toNat = m at *
      have hcase : m < 45 ∨ m = 45 ∨ (45 < m ∧ m < 48) ∨ (48 ≤ m ∧ m ≤ 57) ∨ (57 < m ∧ m < 65) ∨ (65 ≤ m ∧ m ≤ 90) ∨ (90 < m ∧ m < 97) ∨ (97 ≤ m ∧ m ≤ 122) ∨ 122 < m := by omega
      by_cases h0 : k = 0
      · subst h0
        rcases hcase with h | rfl | ⟨h, h'⟩ | ⟨h, h'⟩ | ⟨h, h'⟩ | ⟨h, h'⟩ | ⟨h, h'⟩ | ⟨h, h'⟩ | h
        all_goals
          go_wp2
        all_goals first
          | (go_roundw
             case rel => exact ⟨1, by omega, by go_num, trivial, hyes.out (by omega)⟩
             case measure => simp [intOf]; omega)
          | (go_ret
             exact ⟨by rw [hR.out, hno.out (by omega)] <;> rfl, bl_refl _⟩)
          | (exfalso; simp at *; omega)
      · have h0' : ((k : Int) == 0) = false := by simp; omega
        rcases hcase with h | rfl | ⟨h, h'⟩ | ⟨h, h'⟩ | ⟨h, h'⟩ | ⟨h, h'⟩ | ⟨h, h'⟩ | ⟨h, h'⟩ | h
        all_goals
          go_wp2
        all_goals first
          | (go_roundw
             case rel => exact ⟨k + 1, by omega, by go_num, trivial, hyes.out (by omega)⟩
             case measure => simp [intOf]; omega)
          | (go_ret
             exact ⟨by rw [hR.out, hno.out (by omega)] <;> rfl, bl_refl _⟩)
          | (exfalso; simp at *; omega)
    · go_wp2
      go_ret
      have : k = l.length := by have := Hln.out; omega
      exact ⟨by rw [hR.out, hi.out, this]; simp [nameFrom], bl_refl _⟩
end Go.Proofs.YtdlmkblmljhbfaaDoor
namespace Go.Proofs.YtdlmkblmljhbfaaDoor
set_option linter.unusedSimpArgs false
set_option linter.unusedVariables false
def Fu.con (f : Fu) : ByteArray × List (List Int) := (f.name, f.ws.map fun r : Rw => r.l)
def Md.con (m : Md) : ByteArray × List Int := (m.name, m.r.l)
/-- Two nets say the same. -/
structure NtEq (n m : Nt) : Prop where
  ps : m.ps = n.ps
  fs : m.fs.map Fu.con = n.fs.map Fu.con
  ms : m.ms.map Md.con = n.ms.map Md.con
theorem NtEq.refl (n : Nt) : NtEq n n := ⟨rfl, rfl, rfl⟩
theorem NtEq.flen {n m : Nt} (h : NtEq n m) : m.fs.length = n.fs.length := by have := congrArg List.length h.fs; simpa using this
theorem NtEq.mlen {n m : Nt} (h : NtEq n m) : m.ms.length = n.ms.length := by have := congrArg List.length h.ms; simpa using this
theorem eachS_map {α β : Type} (g : α → β) (err : Nat → β → Int) : ∀ (l : List α) (k : Nat), eachS (fun k x => err k (g x)) l k = eachS err (l.map g) k
  | [], _ => rfl
  | x :: l, k => by
    simp only [eachS, List.map_cons]
    rw [eachS_map g err l (k + 1)]
def wayC (parts : Int) (e : Int) (ws : List (List Int)) : Int := ws.foldl (fun e w => fstE [e, unl (decide (0 < w.length)) 10, idxErr w parts]) e
def fuErrC (parts : Int) (names : List ByteArray) (i : Nat) (f : ByteArray × List (List Int)) : Int :=
  wayC parts (fstE [nmErr names i f.1, unl (decide (0 < f.2.length)) 10, unl (decide ((f.2.length : Int) ≤ 6)) 8]) f.2
def mdErrC (funs : Int) (names : List ByteArray) (i : Nat) (m : ByteArray × List Int) : Int := fstE [nmErr names i m.1, idxErr m.2 funs]
theorem waysE_con (parts e : Int) (ws : List Rw) : waysE parts e ws = wayC parts e (ws.map fun r : Rw => r.l) := by
  unfold waysE wayC
  rw [List.foldl_map]
theorem fuErr_con (parts : Int) (names : List ByteArray) : fuErr parts names = fun i f => fuErrC parts names i f.con := by
  funext i f
  unfold fuErr fuErrC Fu.con
  rw [waysE_con]
  simp
theorem mdErr_con (funs : Int) (names : List ByteArray) : mdErr funs names = fun i f => mdErrC funs names i f.con := rfl
theorem NtEq.fnames {n m : Nt} (h : NtEq n m) : (m.fs.map fun f : Fu => f.name) = n.fs.map fun f : Fu => f.name := by
  have := congrArg (List.map Prod.fst) h.fs
  rw [List.map_map, List.map_map] at this
  exact this
theorem NtEq.mnames {n m : Nt} (h : NtEq n m) : (m.ms.map fun f : Md => f.name) = n.ms.map fun f : Md => f.name := by
  have := congrArg (List.map Prod.fst) h.ms
  rw [List.map_map, List.map_map] at this
  exact this
theorem NtEq.chk {n m : Nt} (h : NtEq n m) : netChk m = netChk n := by
  have e0 : m.e0 = n.e0 := by
    unfold Nt.e0
    rw [h.ps, h.flen, h.mlen]
  have e1 : eachS (fuErr m.ps.length (m.fs.map fun f : Fu => f.name)) m.fs 0 = eachS (fuErr n.ps.length (n.fs.map fun f : Fu => f.name)) n.fs 0 := by
    rw [fuErr_con, fuErr_con, eachS_map Fu.con, eachS_map Fu.con, h.fs, h.ps, h.fnames]
  have e2 : eachS (mdErr m.fs.length (m.ms.map fun f : Md => f.name)) m.ms 0 = eachS (mdErr n.fs.length (n.ms.map fun f : Md => f.name)) n.ms 0 := by
    rw [mdErr_con, mdErr_con, eachS_map Md.con, eachS_map Md.con, h.ms, h.flen, h.mnames]
  unfold netChk
  rw [e0, e1, e2, h.ps]
theorem NtEq.err {n m : Nt} (h : NtEq n m) : netErr m = netErr n := by unfold netErr; rw [h.chk]
theorem worksB_con {f g : Fu} (h : f.con = g.con) (s : Nat) : worksB f s = worksB g s := by
  have h2 : (f.ws.map fun r : Rw => r.l) = g.ws.map fun r : Rw => r.l := congrArg Prod.snd h
  have e : ∀ u : Fu, worksB u s = (u.ws.map fun r : Rw => r.l).any fun l => setN l &&& s == 0 := fun u => by
    unfold worksB
    rw [List.any_map]
    rfl
  rw [e, e, h2]
theorem NtEq.fget {n m : Nt} (h : NtEq n m) {k : Nat} {f : Fu} (hf : n.fs[k]? = some f) : ∃ g, m.fs[k]? = some g ∧ g.con = f.con := by
  have h1 := congrArg (fun l => l[k]?) h.fs
  simp only [List.getElem?_map, hf, Option.map_some] at h1
  cases hg : m.fs[k]? with
  | none => rw [hg] at h1; cases h1
  | some g => rw [hg] at h1; exact ⟨g, rfl, by injection h1⟩
theorem NtEq.mget {n m : Nt} (h : NtEq n m) {k : Nat} {f : Md} (hf : n.ms[k]? = some f) : ∃ g, m.ms[k]? = some g ∧ g.con = f.con := by
  have h1 := congrArg (fun l => l[k]?) h.ms
  simp only [List.getElem?_map, hf, Option.map_some] at h1
  cases hg : m.ms[k]? with
  | none => rw [hg] at h1; cases h1
  | some g => rw [hg] at h1; exact ⟨g, rfl, by injection h1⟩
theorem NtEq.symm {n m : Nt} (h : NtEq n m) : NtEq m n := ⟨h.ps.symm, h.fs.symm, h.ms.symm⟩
theorem cutTo_con {f g : Fu} (h : f.con = g.con) (b : Nat) : ∀ k, cutTo f b k = cutTo g b k
  | 0 => rfl
  | k + 1 => by rw [cutTo, cutTo, cutTo_con h b k, worksB_con h]
theorem cutS_con {f g : Fu} (h : f.con = g.con) (p : Nat) : cutS f p = cutS g p := cutTo_con h _ _
theorem workN_con {a b : List Fu} (h : a.map Fu.con = b.map Fu.con) (s : Nat) : ∀ k, workN a s k = workN b s k
  | 0 => rfl
  | k + 1 => by
    rw [workN, workN, workN_con h s k]
    have h1 := congrArg (fun l => l[k]?) h
    simp only [List.getElem?_map] at h1
    cases ha : a[k]? with
    | none =>
      rw [ha] at h1
      cases hb : b[k]? with
      | none => rfl
      | some y => rw [hb] at h1; cases h1
    | some x =>
      rw [ha] at h1
      cases hb : b[k]? with
      | none => rw [hb] at h1; cases h1
      | some y =>
        rw [hb] at h1
        have : x.con = y.con := by injection h1
        simp only [worksB_con this]
end Go.Proofs.YtdlmkblmljhbfaaDoor
namespace Go.Proofs.YtdlmkblmljhbfaaDoor
set_option linter.unusedSimpArgs false
set_option linter.unusedVariables false
open Go.RowKit Go.Shelf
attribute [local go_sem] bl_al bl_drew bl_drewN bl_refl bx_al bx_drew bx_drewN bx_refl
set_option maxRecDepth 20000
set_option maxHeartbeats 2000000 in
theorem r_HasText (l : List ByteArray) (s : ByteArray) (A : Option Addr) (c : Nat) (w : World) (hl : Sl cS 1 w A l) (hll : l.length ≤ 1000) :
    Calls Tryd.prog 115 #[.slice A l.length c, .string s] w (Same (.bool (knownB l s)) w) := by
  have Hl := Lib.hid hl
  have hst := Lib.hid fun (k : Nat) (x : ByteArray) (hx : l[k]? = some x) => (show knownB (l.drop k) s = ((x.toList == s.toList) || knownB (l.drop (k + 1)) s) by
    have hk' := (List.getElem?_eq_some_iff.1 hx).1
    unfold knownB
    rw [List.drop_eq_getElem_cons hk', (List.getElem?_eq_some_iff.1 hx).2, List.any_cons])
  have hen : Hid (knownB (l.drop l.length) s = false) := Lib.hid (by rw [List.drop_length]; rfl)
  obtain ⟨g, hg⟩ : ∃ g : Nat → Bool, ∀ k, knownB (l.drop k) s = g k := ⟨_, fun _ => rfl⟩
  have he0 : knownB l s = g 0 := by rw [← hg]; rfl
  rw [he0]
  simp only [hg] at hst hen
  clear hg he0 hl
  obtain ⟨n, Hn⟩ : ∃ n, Hid (l.length = n) := ⟨_, rfl⟩
  rw [Hn.out] at hen hll ⊢
  go_enter Tryd.func115, Tryd.ntmps115
  go_wp2
  go_loopw [5] (fun i wr => ∃ k : Nat, k ≤ n ∧ i = .int .i64 k ∧ w = wr ∧ g 0 = g k) (fun i _ => n - (intOf i).toNat)
  case atStart => exact ⟨0, Nat.zero_le _, rfl, rfl, rfl⟩
  case round =>
    obtain ⟨k, hk, rfl, rfl, hi⟩ := hrel
    replace hi := Lib.hid hi
    by_cases hlt : k < n
    · have hx : l[k]? = some (l[k]'(by rw [Hn.out]; exact hlt)) := List.getElem?_eq_getElem _
      generalize l[k]'(by rw [Hn.out]; exact hlt) = y at hx
      obtain ⟨b, off, rfl, hc⟩ := Hl.out k y hx
      have c0 : w.cell? ⟨b, off + k, none⟩ = some (.string y) := by simpa using hc 0 _ rfl
      have hd := Lib.hid (hst.out k y hx)
      clear hc hx
      cases hyx : y.toList == s.toList
      · have e2 := Lib.hid (show g 0 = g (k + 1) by rw [hi.out, hd.out, hyx, Bool.false_or])
        go_wp2
        go_roundw
        case rel => exact ⟨k + 1, by omega, by go_num, by trivial, e2.out⟩
        case measure => simp [intOf]; omega
      · have e2 := Lib.hid (show g 0 = true by rw [hi.out, hd.out, hyx, Bool.true_or])
        go_wp2
        go_ret
        exact ⟨by rw [e2.out] <;> rfl, rfl⟩
    · obtain rfl : k = n := by omega
      have e2 := Lib.hid (hi.out.trans hen.out)
      go_wp2
      go_ret
      exact ⟨by rw [e2.out] <;> rfl, rfl⟩
def ixErr (l : List Int) (ct : Int) (k : Nat) (n : Int) : Int := fstE [unl (inR n 0 (ct - 1)) 6, unl (decide (prevI l k < n)) 9]
theorem idxErr_eq (l : List Int) (ct : Int) : idxErr l ct = (eachS (ixErr l ct) l 0).2 := rfl
set_option maxHeartbeats 8000000 in
theorem r_IndexesErrL (l : List Int) (ct : Int) (A : Option Addr) (c : Nat) (w : World) (hs : Sl cI 1 w A l) (hl : l.length ≤ maxLen) (hc : 0 ≤ ct ∧ ct ≤ 1000000) :
    Calls Tryd.prog 53 #[.slice A l.length c, .int .i64 ct] w (Ret (.int .i64 (idxErr l ct)) w) := by
  have Hs := Lib.hid hs
  unfold maxLen at hl
  rw [idxErr_eq]
  obtain ⟨hc0, hc1⟩ := hc
  obtain ⟨n, Hn⟩ : ∃ n, Hid (l.length = n) := ⟨_, rfl⟩
  rw [Hn.out] at hl ⊢
  clear hs
  go_enter Tryd.func53, Tryd.ntmps53
  go_wp2
  go_loopw [5] (fun i wr => ∃ k : Nat, k ≤ n ∧ i = .int .i64 k ∧ Below w.heap.size w wr ∧ eachS (ixErr l ct) l 0 = eachS (ixErr l ct) (l.drop k) k) (fun i _ => n - (intOf i).toNat)
  case atStart => exact ⟨0, Nat.zero_le _, rfl, bl_refl _, rfl⟩
  case round =>
    obtain ⟨k, hk, rfl, hb0, hi0⟩ := hrel
    replace hi0 := Lib.hid hi0
    by_cases hkn : k < n
    · have hx : l[k]? = some (l[k]'(by rw [Hn.out]; exact hkn)) := List.getElem?_eq_getElem _
      generalize l[k]'(by rw [Hn.out]; exact hkn) = x at hx
      have hd := Lib.hid (eachS_drop (ixErr l ct) l k x hx)
      obtain ⟨b, off, rfl, hc⟩ := Hs.out k x hx
      have c0 : ∀ W, Below wr.heap.size wr W → W.cell? ⟨b, off + k, none⟩ = some (.int .i64 x) := later (by have := kcell hb0 (hc 0 _ rfl); simpa using this)
      clear hc
      cases hT : inR x 0 (ct - 1)
      · have hh : ixErr l ct k x = 6 := by simp [ixErr, hT, fstE, unl]
        have hE : Hid ((eachS (ixErr l ct) l 0).2 = 6) := Lib.hid (by rw [hi0.out, hd.out, hh]; rfl)
        clear hi0 hd hh
        have c0' := c0 wr (bl_refl _)
        go_wp2_with (go_at_call 21; (with_reducible refine (hT ▸ r_Within x 0 (ct - 1) _).mono ?_); rintro e w3 ⟨rfl, rfl⟩)
        go_ret
        exact ⟨by rw [hE.out] <;> rfl, hb0⟩
      · have hx0 : 0 ≤ x := by simp [inR] at hT; omega
        have c0' := c0 wr (bl_refl _)
        go_upto_region 6 with (go_at_call 21; (with_reducible refine (hT ▸ r_Within x 0 (ct - 1) _).mono ?_); rintro e w3 ⟨rfl, rfl⟩)
        clear c0'
        by_cases hk0 : k = 0
        · subst hk0
          have hh : ixErr l ct 0 x = 0 := by simp [ixErr, hT, fstE, unl, prevI]; omega
          have hi1 := Lib.hid (show eachS (ixErr l ct) l 0 = eachS (ixErr l ct) (l.drop 1) 1 by rw [hi0.out, hd.out, if_pos hh])
          clear hi0 hd hh
          refine wp_any (w0 := wr) ⟨[], [], [some 20, some 21, some 22, some 23, some 24, some 25, some 26, some 27, some 28, some 29, some 30, some 31, some 32, some 33], [[], [0], [0, 1], [0, 1, 2], [0, 1, 2], [0, 1, 2, 3, 4], [0, 1, 2, 3, 4, 5], [0, 1, 2], [0, 1, 2], [0, 1, 2, 8], [0, 1, 2, 7, 8, 9], [0, 1, 2, 7, 8, 9, 10], [0, 1, 2, 3, 4, 5, 6, 7, 8, 9, 10, 11], [0, 1, 2, 3, 4, 5, 6, 7, 8, 9, 10, 11, 12]], [[], [0], [1], [2], [2], [2, 3, 4], [2, 5], [2], [2], [2, 8], [2, 7, 9], [2, 10], [2, 6, 11], [2, 12]]⟩ (fun _ => []) (by kernel_rfl) (by kernel_rfl) (by (with_reducible (repeat' (first | assumption | apply jA | apply jB | apply jC | apply jD | apply jE | apply jF | apply hb3 | omega | (simp; done) | (simp; omega) | (dsimp only; omega))))) (fun u => by simp only [putD, Act.put, List.setIfInBounds_toArray, List.set_cons_zero, List.set_cons_succ, Nat.zero_add, Nat.reduceAdd]; rfl) ?_
          apply RGW.on (i := 0) rfl
          · (simp only [gA, gB, gC] <;> rfl)
          · intro γ u W hcur hd
            clear hd
            (try dsimp only)
            refine ⟨rfl, ?_⟩
            go_simp <;> (try go_bits) <;> with_reducible rfl
          · exact fun _ _ _ => rfl
          · rfl
          dsimp only [nA, cA]
          apply RGW.on (i := 1) rfl
          · (simp only [gA, gB, gC] <;> rfl)
          · intro γ u W hcur hd
            obtain ⟨⟨h0, -, -⟩, -⟩ := hd
            dsimp only at h0
            (try simp only [h0])
            refine ⟨rfl, ?_⟩
            go_simp <;> (try go_bits) <;> with_reducible rfl
          · exact fun _ _ _ => rfl
          · rfl
          dsimp only [nA, cA]
          apply RGW.on (i := 2) rfl
          · (simp only [gA, gB, gC] <;> rfl)
          · intro γ u W hcur hd
            obtain ⟨⟨h1, -, -⟩, -⟩ := hd
            dsimp only at h1
            (try simp only [h1])
            refine ⟨rfl, ?_⟩
            go_simp <;> (try go_bits) <;> with_reducible rfl
          · exact fun _ _ _ => rfl
          · rfl
          dsimp only [nA, cA]
          first
          | apply RGW.on (i := 3) rfl
            · (simp only [gA, gB, gC] <;> rfl)
            · intro γ u W hcur hd
              obtain ⟨⟨h2, -, -⟩, -⟩ := hd
              dsimp only at h2
              (try simp only [h2])
              refine ⟨?_, ?_⟩
              · (simp [Region.wanted, yielded, undef, *]; done)
              go_simp <;> (try go_bits) <;> with_reducible rfl
            · exact fun _ _ _ => rfl
            · rfl
          | apply RGW.off (i := 3) rfl
            · (simp only [gA, gB, gC] <;> rfl)
            · intro γ u W hcur hd
              obtain ⟨⟨h2, -, -⟩, -⟩ := hd
              dsimp only at h2
              (try simp only [h2])
              simp [Region.wanted, yielded, undef, *]
            · rfl
          dsimp only [nA, cA]
          first
          | apply RGW.on (i := 4) rfl
            · (simp only [gA, gB, gC] <;> rfl)
            · intro γ u W hcur hd
              obtain ⟨⟨h2, -, -⟩, -⟩ := hd
              dsimp only at h2
              (try simp only [h2])
              refine ⟨?_, ?_⟩
              · (simp [Region.wanted, yielded, undef, *]; done)
              go_simp <;> (try go_bits) <;> with_reducible rfl
            · exact fun _ _ _ => rfl
            · rfl
          | apply RGW.off (i := 4) rfl
            · (simp only [gA, gB, gC] <;> rfl)
            · intro γ u W hcur hd
              obtain ⟨⟨h2, -, -⟩, -⟩ := hd
              dsimp only at h2
              (try simp only [h2])
              simp [Region.wanted, yielded, undef, *]
            · rfl
          dsimp only [nA, cA]
          first
          | apply RGW.on (i := 5) rfl
            · (simp only [gA, gB, gC] <;> rfl)
            · intro γ u W hcur hd
              obtain ⟨⟨h2, -, -⟩, ⟨h3, -, -⟩, ⟨h4, -, -⟩, -⟩ := hd
              dsimp only at h2 h3 h4
              (try simp only [h2, h3, h4])
              refine ⟨?_, ?_⟩
              · (simp [Region.wanted, yielded, undef, *]; done)
              go_simp <;> (try go_bits) <;> with_reducible rfl
            · exact fun _ _ _ => rfl
            · rfl
          | apply RGW.off (i := 5) rfl
            · (simp only [gA, gB, gC] <;> rfl)
            · intro γ u W hcur hd
              obtain ⟨⟨h2, -, -⟩, ⟨h3, -, -⟩, ⟨h4, -, -⟩, -⟩ := hd
              dsimp only at h2 h3 h4
              (try simp only [h2, h3, h4])
              simp [Region.wanted, yielded, undef, *]
            · rfl
          dsimp only [nA, cA]
          first
          | apply RGW.on (i := 6) rfl
            · (simp only [gA, gB, gC] <;> rfl)
            · intro γ u W hcur hd
              obtain ⟨⟨h2, -, -⟩, ⟨h5, -, -⟩, -⟩ := hd
              dsimp only at h2 h5
              (try simp only [h2, h5])
              refine ⟨?_, ?_⟩
              · (simp [Region.wanted, yielded, undef, *]; done)
              go_simp <;> (try go_bits) <;> with_reducible rfl
            · exact fun _ _ _ => rfl
            · rfl
          | apply RGW.off (i := 6) rfl
            · (simp only [gA, gB, gC] <;> rfl)
            · intro γ u W hcur hd
              obtain ⟨⟨h2, -, -⟩, ⟨h5, -, -⟩, -⟩ := hd
              dsimp only at h2 h5
              (try simp only [h2, h5])
              simp [Region.wanted, yielded, undef, *]
            · rfl
          dsimp only [nA, cA]
          first
          | apply RGW.on (i := 7) rfl
            · (simp only [gA, gB, gC] <;> rfl)
            · intro γ u W hcur hd
              obtain ⟨⟨h2, -, -⟩, -⟩ := hd
              dsimp only at h2
              (try simp only [h2])
              refine ⟨?_, ?_⟩
              · (simp [Region.wanted, yielded, undef, *]; done)
              go_simp <;> (try go_bits) <;> with_reducible rfl
            · exact fun _ _ _ => rfl
            · rfl
          | apply RGW.off (i := 7) rfl
            · (simp only [gA, gB, gC] <;> rfl)
            · intro γ u W hcur hd
              obtain ⟨⟨h2, -, -⟩, -⟩ := hd
              dsimp only at h2
              (try simp only [h2])
              simp [Region.wanted, yielded, undef, *]
            · rfl
          dsimp only [nA, cA]
          first
          | apply RGW.on (i := 8) rfl
            · (simp only [gA, gB, gC] <;> rfl)
            · intro γ u W hcur hd
              obtain ⟨⟨h2, -, -⟩, -⟩ := hd
              dsimp only at h2
              (try simp only [h2])
              refine ⟨?_, ?_⟩
              · (simp [Region.wanted, yielded, undef, *]; done)
              go_simp <;> (try go_bits) <;> with_reducible rfl
            · exact fun _ _ _ => rfl
            · rfl
          | apply RGW.off (i := 8) rfl
            · (simp only [gA, gB, gC] <;> rfl)
            · intro γ u W hcur hd
              obtain ⟨⟨h2, -, -⟩, -⟩ := hd
              dsimp only at h2
              (try simp only [h2])
              simp [Region.wanted, yielded, undef, *]
            · rfl
          dsimp only [nA, cA]
          first
          | apply RGW.on (i := 9) rfl
            · (simp only [gA, gB, gC] <;> rfl)
            · intro γ u W hcur hd
              obtain ⟨⟨h2, -, -⟩, ⟨h8, -, -⟩, -⟩ := hd
              dsimp only at h2 h8
              (try simp only [h2, h8])
              refine ⟨?_, ?_⟩
              · (simp [Region.wanted, yielded, undef, *]; done)
              go_simp <;> (try go_bits) <;> with_reducible rfl
            · exact fun _ _ _ => rfl
            · rfl
          | apply RGW.off (i := 9) rfl
            · (simp only [gA, gB, gC] <;> rfl)
            · intro γ u W hcur hd
              obtain ⟨⟨h2, -, -⟩, ⟨h8, -, -⟩, -⟩ := hd
              dsimp only at h2 h8
              (try simp only [h2, h8])
              simp [Region.wanted, yielded, undef, *]
            · rfl
          dsimp only [nA, cA]
          first
          | apply RGW.on (i := 10) rfl
            · (simp only [gA, gB, gC] <;> rfl)
            · intro γ u W hcur hd
              obtain ⟨⟨h2, -, -⟩, ⟨h7, -, -⟩, ⟨h9, -, -⟩, -⟩ := hd
              dsimp only at h2 h7 h9
              (try simp only [h2, h7, h9])
              refine ⟨?_, ?_⟩
              · (simp [Region.wanted, yielded, undef, *]; done)
              go_simp <;> (try go_bits) <;> with_reducible rfl
            · exact fun _ _ _ => rfl
            · rfl
          | apply RGW.off (i := 10) rfl
            · (simp only [gA, gB, gC] <;> rfl)
            · intro γ u W hcur hd
              obtain ⟨⟨h2, -, -⟩, ⟨h7, -, -⟩, ⟨h9, -, -⟩, -⟩ := hd
              dsimp only at h2 h7 h9
              (try simp only [h2, h7, h9])
              simp [Region.wanted, yielded, undef, *]
            · rfl
          dsimp only [nA, cA]
          first
          | apply RGW.on (i := 11) rfl
            · (simp only [gA, gB, gC] <;> rfl)
            · intro γ u W hcur hd
              obtain ⟨⟨h2, -, -⟩, ⟨h10, -, -⟩, -⟩ := hd
              dsimp only at h2 h10
              (try simp only [h2, h10])
              refine ⟨?_, ?_⟩
              · (simp [Region.wanted, yielded, undef, *]; done)
              go_simp <;> (try go_bits) <;> with_reducible rfl
            · exact fun _ _ _ => rfl
            · rfl
          | apply RGW.off (i := 11) rfl
            · (simp only [gA, gB, gC] <;> rfl)
            · intro γ u W hcur hd
              obtain ⟨⟨h2, -, -⟩, ⟨h10, -, -⟩, -⟩ := hd
              dsimp only at h2 h10
              (try simp only [h2, h10])
              simp [Region.wanted, yielded, undef, *]
            · rfl
          dsimp only [nA, cA]
          first
          | apply RGW.on (i := 12) rfl
            · (simp only [gA, gB, gC] <;> rfl)
            · intro γ u W hcur hd
              obtain ⟨⟨h2, -, -⟩, ⟨h6, -, -⟩, ⟨h11, -, -⟩, -⟩ := hd
              dsimp only at h2 h6 h11
              (try simp only [h2, h6, h11])
              refine ⟨?_, ?_⟩
              · (simp [Region.wanted, yielded, undef, *]; done)
              go_simp <;> (try go_bits) <;> with_reducible rfl
            · exact fun _ _ _ => rfl
            · rfl
          | apply RGW.off (i := 12) rfl
            · (simp only [gA, gB, gC] <;> rfl)
            · intro γ u W hcur hd
              obtain ⟨⟨h2, -, -⟩, ⟨h6, -, -⟩, ⟨h11, -, -⟩, -⟩ := hd
              dsimp only at h2 h6 h11
              (try simp only [h2, h6, h11])
              simp [Region.wanted, yielded, undef, *]
            · rfl
          dsimp only [nA, cA]
          apply RGW.on (i := 13) rfl
          · (simp only [gA, gB, gC] <;> rfl)
          · intro γ u W hcur hd
            obtain ⟨⟨h2, -, -⟩, ⟨h12, -, -⟩, -⟩ := hd
            dsimp only at h2 h12
            (try simp only [h2, h12])
            refine ⟨rfl, ?_⟩
            go_simp <;> (try go_bits) <;> with_reducible rfl
          · exact fun _ _ _ => rfl
          · rfl
          dsimp only [nA, cA]
          refine RGW.fin (fun γ u wj hwj hd hdis => ?_)
          obtain ⟨⟨h0, -, -⟩, ⟨h1, -, -⟩, ⟨h2, -, -⟩, ⟨h3, -, -⟩, ⟨h4, -, -⟩, ⟨h5, -, -⟩, ⟨h6, -, -⟩, ⟨h7, -, -⟩, ⟨h8, -, -⟩, ⟨h9, -, -⟩, ⟨h10, -, -⟩, ⟨h11, -, -⟩, ⟨h12, -, -⟩, ⟨h13, -, -⟩, -⟩ := hd
          dsimp only at h0 h1 h2 h3 h4 h5 h6 h7 h8 h9 h10 h11 h12 h13
          clear hdis
          simp only [h0, h1, h2, h3, h4, h5, h6, h7, h8, h9, h10, h11, h12, h13]
          clear h13 h12 h11 h10 h9 h8 h7 h6 h5 h4 h3 h2 h1 h0
          clear u
          simp only [List.map_nil]
          refine PlanW.done ?_
          have hb3 := bl_tt hwj
          have hbj := bl_tr hb0 hwj
          go_wp2
          go_roundw
          case rel => exact ⟨1, by omega, by go_num, hbj, hi1.out⟩
          case measure => simp [intOf]; omega
        · obtain ⟨j, rfl⟩ : ∃ j, k = j + 1 := ⟨k - 1, by omega⟩
          have hy : l[j]? = some (l[j]'(by rw [Hn.out]; omega)) := List.getElem?_eq_getElem _
          generalize l[j]'(by rw [Hn.out]; omega) = y at hy
          obtain ⟨b2, off2, e2, hc⟩ := Hs.out j y hy
          injection e2 with e2
          injection e2 with e2 e3 _
          subst e2 e3
          have c1 : ∀ W, Below wr.heap.size wr W → W.cell? ⟨b, off + j, none⟩ = some (.int .i64 y) := later (by have := kcell hb0 (hc 0 _ rfl); simpa using this)
          have hp : prevI l (j + 1) = y := by simp [prevI, hy]
          have hh : ixErr l ct (j + 1) x = unl (decide (y < x)) 9 := by
            unfold ixErr
            rw [hp, hT]
            by_cases h : y < x <;> simp [fstE, unl, h]
          have hnx := Lib.hid fun h : ixErr l ct (j + 1) x = 0 => (show eachS (ixErr l ct) l 0 = eachS (ixErr l ct) (l.drop (j + 2)) (j + 2) by rw [hi0.out, hd.out, if_pos h])
          have hno := Lib.hid fun h : ixErr l ct (j + 1) x ≠ 0 => (show (eachS (ixErr l ct) l 0).2 = ixErr l ct (j + 1) x by rw [hi0.out, hd.out, if_neg h])
          replace hh := Lib.hid hh
          have hj0 : (0 : Int) < (j : Int) + 1 := by omega
          have hjn : j < n := by omega
          have hj1 : (j : Int) + 1 < n := by omega
          have hj2 : ((j + 1 : Nat) : Int) < n := by omega
          have hj3 : (j : Int) < n := by omega
          have hj4 : (0 : Int) ≤ (j : Int) + 1 := by omega
          clear hi0 hd hc hp hx hy hT
          refine wp_any (w0 := wr) ⟨[], [], [some 20, some 21, some 22, some 23, some 24, some 25, some 26, some 27, some 28, some 29, some 30, some 31, some 32, some 33], [[], [0], [0, 1], [0, 1, 2], [0, 1, 2], [0, 1, 2, 3, 4], [0, 1, 2, 3, 4, 5], [0, 1, 2], [0, 1, 2], [0, 1, 2, 8], [0, 1, 2, 7, 8, 9], [0, 1, 2, 7, 8, 9, 10], [0, 1, 2, 3, 4, 5, 6, 7, 8, 9, 10, 11], [0, 1, 2, 3, 4, 5, 6, 7, 8, 9, 10, 11, 12]], [[], [0], [1], [2], [2], [2, 3, 4], [2, 5], [2], [2], [2, 8], [2, 7, 9], [2, 10], [2, 6, 11], [2, 12]]⟩ (fun _ => []) (by kernel_rfl) (by kernel_rfl) (by (with_reducible (repeat' (first | assumption | apply jA | apply jB | apply jC | apply jD | apply jE | apply jF | apply hb3 | omega | (simp; done) | (simp; omega) | (dsimp only; omega))))) (fun u => by simp only [putD, Act.put, List.setIfInBounds_toArray, List.set_cons_zero, List.set_cons_succ, Nat.zero_add, Nat.reduceAdd]; rfl) ?_
          apply RGW.on (i := 0) rfl
          · (simp only [gA, gB, gC] <;> rfl)
          · intro γ u W hcur hd
            clear hd
            (try dsimp only)
            refine ⟨rfl, ?_⟩
            go_simp <;> (try go_bits) <;> with_reducible rfl
          · exact fun _ _ _ => rfl
          · rfl
          dsimp only [nA, cA]
          apply RGW.on (i := 1) rfl
          · (simp only [gA, gB, gC] <;> rfl)
          · intro γ u W hcur hd
            obtain ⟨⟨h0, -, -⟩, -⟩ := hd
            dsimp only at h0
            (try simp only [h0])
            refine ⟨rfl, ?_⟩
            go_simp <;> (try go_bits) <;> with_reducible rfl
          · exact fun _ _ _ => rfl
          · rfl
          dsimp only [nA, cA]
          apply RGW.on (i := 2) rfl
          · (simp only [gA, gB, gC] <;> rfl)
          · intro γ u W hcur hd
            obtain ⟨⟨h1, -, -⟩, -⟩ := hd
            dsimp only at h1
            (try simp only [h1])
            refine ⟨rfl, ?_⟩
            go_simp <;> (try go_bits) <;> with_reducible rfl
          · exact fun _ _ _ => rfl
          · rfl
          dsimp only [nA, cA]
          first
          | apply RGW.on (i := 3) rfl
            · (simp only [gA, gB, gC] <;> rfl)
            · intro γ u W hcur hd
              obtain ⟨⟨h2, -, -⟩, -⟩ := hd
              dsimp only at h2
              (try simp only [h2])
              refine ⟨?_, ?_⟩
              · (simp [Region.wanted, yielded, undef, *]; done)
              go_simp <;> (try go_bits) <;> with_reducible rfl
            · exact fun _ _ _ => rfl
            · rfl
          | apply RGW.off (i := 3) rfl
            · (simp only [gA, gB, gC] <;> rfl)
            · intro γ u W hcur hd
              obtain ⟨⟨h2, -, -⟩, -⟩ := hd
              dsimp only at h2
              (try simp only [h2])
              simp [Region.wanted, yielded, undef, *]
            · rfl
          dsimp only [nA, cA]
          first
          | apply RGW.on (i := 4) rfl
            · (simp only [gA, gB, gC] <;> rfl)
            · intro γ u W hcur hd
              obtain ⟨⟨h2, -, -⟩, -⟩ := hd
              dsimp only at h2
              (try simp only [h2])
              refine ⟨?_, ?_⟩
              · (simp [Region.wanted, yielded, undef, *]; done)
              go_simp <;> (try go_bits) <;> with_reducible rfl
            · exact fun _ _ _ => rfl
            · rfl
          | apply RGW.off (i := 4) rfl
            · (simp only [gA, gB, gC] <;> rfl)
            · intro γ u W hcur hd
              obtain ⟨⟨h2, -, -⟩, -⟩ := hd
              dsimp only at h2
              (try simp only [h2])
              simp [Region.wanted, yielded, undef, *]
            · rfl
          dsimp only [nA, cA]
          first
          | apply RGW.on (i := 5) rfl
            · (simp only [gA, gB, gC] <;> rfl)
            · intro γ u W hcur hd
              obtain ⟨⟨h2, -, -⟩, ⟨h3, -, -⟩, ⟨h4, -, -⟩, -⟩ := hd
              dsimp only at h2 h3 h4
              (try simp only [h2, h3, h4])
              refine ⟨?_, ?_⟩
              · (simp [Region.wanted, yielded, undef, *]; done)
              go_simp <;> (try go_bits) <;> with_reducible rfl
            · exact fun _ _ _ => rfl
            · rfl
          | apply RGW.off (i := 5) rfl
            · (simp only [gA, gB, gC] <;> rfl)
            · intro γ u W hcur hd
              obtain ⟨⟨h2, -, -⟩, ⟨h3, -, -⟩, ⟨h4, -, -⟩, -⟩ := hd
              dsimp only at h2 h3 h4
              (try simp only [h2, h3, h4])
              simp [Region.wanted, yielded, undef, *]
            · rfl
          dsimp only [nA, cA]
          first
          | apply RGW.on (i := 6) rfl
            · (simp only [gA, gB, gC] <;> rfl)
            · intro γ u W hcur hd
              obtain ⟨⟨h2, -, -⟩, ⟨h5, -, -⟩, -⟩ := hd
              dsimp only at h2 h5
              (try simp only [h2, h5])
              refine ⟨?_, ?_⟩
              · (simp [Region.wanted, yielded, undef, *]; done)
              go_simp <;> (try go_bits) <;> with_reducible rfl
            · exact fun _ _ _ => rfl
            · rfl
          | apply RGW.off (i := 6) rfl
            · (simp only [gA, gB, gC] <;> rfl)
            · intro γ u W hcur hd
              obtain ⟨⟨h2, -, -⟩, ⟨h5, -, -⟩, -⟩ := hd
              dsimp only at h2 h5
              (try simp only [h2, h5])
              simp [Region.wanted, yielded, undef, *]
            · rfl
          dsimp only [nA, cA]
          first
          | apply RGW.on (i := 7) rfl
            · (simp only [gA, gB, gC] <;> rfl)
            · intro γ u W hcur hd
              obtain ⟨⟨h2, -, -⟩, -⟩ := hd
              dsimp only at h2
              (try simp only [h2])
              refine ⟨?_, ?_⟩
              · (simp [Region.wanted, yielded, undef, *]; done)
              go_simp <;> (try go_bits) <;> with_reducible rfl
            · exact fun _ _ _ => rfl
            · rfl
          | apply RGW.off (i := 7) rfl
            · (simp only [gA, gB, gC] <;> rfl)
            · intro γ u W hcur hd
              obtain ⟨⟨h2, -, -⟩, -⟩ := hd
              dsimp only at h2
              (try simp only [h2])
              simp [Region.wanted, yielded, undef, *]
            · rfl
          dsimp only [nA, cA]
          first
          | apply RGW.on (i := 8) rfl
            · (simp only [gA, gB, gC] <;> rfl)
            · intro γ u W hcur hd
              obtain ⟨⟨h2, -, -⟩, -⟩ := hd
              dsimp only at h2
              (try simp only [h2])
              refine ⟨?_, ?_⟩
              · (simp [Region.wanted, yielded, undef, *]; done)
              go_simp <;> (try go_bits) <;> with_reducible rfl
            · exact fun _ _ _ => rfl
            · rfl
          | apply RGW.off (i := 8) rfl
            · (simp only [gA, gB, gC] <;> rfl)
            · intro γ u W hcur hd
              obtain ⟨⟨h2, -, -⟩, -⟩ := hd
              dsimp only at h2
              (try simp only [h2])
              simp [Region.wanted, yielded, undef, *]
            · rfl
          dsimp only [nA, cA]
          first
          | apply RGW.on (i := 9) rfl
            · (simp only [gA, gB, gC] <;> rfl)
            · intro γ u W hcur hd
              obtain ⟨⟨h2, -, -⟩, ⟨h8, -, -⟩, -⟩ := hd
              dsimp only at h2 h8
              (try simp only [h2, h8])
              refine ⟨?_, ?_⟩
              · (simp [Region.wanted, yielded, undef, *]; done)
              go_simp <;> (try go_bits) <;> with_reducible rfl
            · exact fun _ _ _ => rfl
            · rfl
          | apply RGW.off (i := 9) rfl
            · (simp only [gA, gB, gC] <;> rfl)
            · intro γ u W hcur hd
              obtain ⟨⟨h2, -, -⟩, ⟨h8, -, -⟩, -⟩ := hd
              dsimp only at h2 h8
              (try simp only [h2, h8])
              simp [Region.wanted, yielded, undef, *]
            · rfl
          dsimp only [nA, cA]
          first
          | apply RGW.on (i := 10) rfl
            · (simp only [gA, gB, gC] <;> rfl)
            · intro γ u W hcur hd
              obtain ⟨⟨h2, -, -⟩, ⟨h7, -, -⟩, ⟨h9, -, -⟩, -⟩ := hd
              dsimp only at h2 h7 h9
              (try simp only [h2, h7, h9])
              refine ⟨?_, ?_⟩
              · (simp [Region.wanted, yielded, undef, *]; done)
              go_simp <;> (try go_bits) <;> with_reducible rfl
            · exact fun _ _ _ => rfl
            · rfl
          | apply RGW.off (i := 10) rfl
            · (simp only [gA, gB, gC] <;> rfl)
            · intro γ u W hcur hd
              obtain ⟨⟨h2, -, -⟩, ⟨h7, -, -⟩, ⟨h9, -, -⟩, -⟩ := hd
              dsimp only at h2 h7 h9
              (try simp only [h2, h7, h9])
              simp [Region.wanted, yielded, undef, *]
            · rfl
          dsimp only [nA, cA]
          first
          | apply RGW.on (i := 11) rfl
            · (simp only [gA, gB, gC] <;> rfl)
            · intro γ u W hcur hd
              obtain ⟨⟨h2, -, -⟩, ⟨h10, -, -⟩, -⟩ := hd
              dsimp only at h2 h10
              (try simp only [h2, h10])
              refine ⟨?_, ?_⟩
              · (simp [Region.wanted, yielded, undef, *]; done)
              go_simp <;> (try go_bits) <;> with_reducible rfl
            · exact fun _ _ _ => rfl
            · rfl
          | apply RGW.off (i := 11) rfl
            · (simp only [gA, gB, gC] <;> rfl)
            · intro γ u W hcur hd
              obtain ⟨⟨h2, -, -⟩, ⟨h10, -, -⟩, -⟩ := hd
              dsimp only at h2 h10
              (try simp only [h2, h10])
              simp [Region.wanted, yielded, undef, *]
            · rfl
          dsimp only [nA, cA]
          first
          | apply RGW.on (i := 12) rfl
            · (simp only [gA, gB, gC] <;> rfl)
            · intro γ u W hcur hd
              obtain ⟨⟨h2, -, -⟩, ⟨h6, -, -⟩, ⟨h11, -, -⟩, -⟩ := hd
              dsimp only at h2 h6 h11
              (try simp only [h2, h6, h11])
              refine ⟨?_, ?_⟩
              · (simp [Region.wanted, yielded, undef, *]; done)
              go_simp <;> (try go_bits) <;> with_reducible rfl
            · exact fun _ _ _ => rfl
            · rfl
          | apply RGW.off (i := 12) rfl
            · (simp only [gA, gB, gC] <;> rfl)
            · intro γ u W hcur hd
              obtain ⟨⟨h2, -, -⟩, ⟨h6, -, -⟩, ⟨h11, -, -⟩, -⟩ := hd
              dsimp only at h2 h6 h11
              (try simp only [h2, h6, h11])
              simp [Region.wanted, yielded, undef, *]
            · rfl
          dsimp only [nA, cA]
          apply RGW.on (i := 13) rfl
          · (simp only [gA, gB, gC] <;> rfl)
          · intro γ u W hcur hd
            obtain ⟨⟨h2, -, -⟩, ⟨h12, -, -⟩, -⟩ := hd
            dsimp only at h2 h12
            (try simp only [h2, h12])
            refine ⟨rfl, ?_⟩
            go_simp <;> (try go_bits) <;> with_reducible rfl
          · exact fun _ _ _ => rfl
          · rfl
          dsimp only [nA, cA]
          refine RGW.fin (fun γ u wj hwj hd hdis => ?_)
          obtain ⟨⟨h0, -, -⟩, ⟨h1, -, -⟩, ⟨h2, -, -⟩, ⟨h3, -, -⟩, ⟨h4, -, -⟩, ⟨h5, -, -⟩, ⟨h6, -, -⟩, ⟨h7, -, -⟩, ⟨h8, -, -⟩, ⟨h9, -, -⟩, ⟨h10, -, -⟩, ⟨h11, -, -⟩, ⟨h12, -, -⟩, ⟨h13, -, -⟩, -⟩ := hd
          dsimp only at h0 h1 h2 h3 h4 h5 h6 h7 h8 h9 h10 h11 h12 h13
          clear hdis
          simp only [h0, h1, h2, h3, h4, h5, h6, h7, h8, h9, h10, h11, h12, h13]
          clear h13 h12 h11 h10 h9 h8 h7 h6 h5 h4 h3 h2 h1 h0
          clear u
          simp only [List.map_nil]
          refine PlanW.done ?_
          have hb3 := bl_tt hwj
          have hbj := bl_tr hb0 hwj
          by_cases hyx : y < x
          · have hi1 := Lib.hid (hnx.out (by rw [hh.out]; simp [unl, hyx]))
            have hle : ¬ x ≤ y := by omega
            clear hh hnx hno
            go_wp2
            go_roundw
            case rel => exact ⟨j + 2, by omega, by go_num, hbj, hi1.out⟩
            case measure => simp [intOf]; omega
          · have hE : Hid ((eachS (ixErr l ct) l 0).2 = 9) := Lib.hid (by
              have e1 : ixErr l ct (j + 1) x = 9 := by rw [hh.out]; simp [unl, hyx]
              have e := hno.out (by rw [e1]; decide)
              rw [e, e1])
            have hle : x ≤ y := by omega
            clear hh hnx hno
            go_wp2
            go_ret
            exact ⟨by rw [hE.out] <;> rfl, hbj⟩
    · have e : k = n := by omega
      subst e
      have hz := Lib.hid (show (eachS (ixErr l ct) l 0).2 = 0 by rw [hi0.out, List.drop_of_length_le (by rw [Hn.out]; exact Nat.le_refl _)]; rfl)
      go_wp2
      go_ret
      exact ⟨by rw [hz.out] <;> rfl, hb0⟩
theorem r_IndexesErr (l : List Int) (ct : Int) (A : Option Addr) (c : Nat) (w : World) (hs : Sl cI 1 w A l) (hl : l.length ≤ 1000) (hc : 0 ≤ ct ∧ ct ≤ 1000000) :
    Calls Tryd.prog 53 #[.slice A l.length c, .int .i64 ct] w (Ret (.int .i64 (idxErr l ct)) w) := r_IndexesErrL l ct A c w hs (by unfold maxLen; omega) hc
end Go.Proofs.YtdlmkblmljhbfaaDoor
namespace Go.Proofs.YtdlmkblmljhbfaaDoor
set_option linter.unusedSimpArgs false
set_option linter.unusedVariables false
open Go.RowKit Go.Shelf
attribute [local go_sem] bl_al bl_drew bl_drewN bl_refl bx_al bx_drew bx_drewN bx_refl
set_option maxRecDepth 20000
theorem knownN_step (l : List ByteArray) (s : ByteArray) (j : Nat) (y : ByteArray) (hy : l[j]? = some y) : knownB (l.take (j + 1)) s = (knownB (l.take j) s || (y.toList == s.toList)) := by
  unfold knownB
  rw [List.take_add_one, hy]
  simp [List.any_append]
theorem knownN_hit (l : List ByteArray) (s : ByteArray) (j k : Nat) (y : ByteArray) (hy : l[j]? = some y) (hjk : j < k) (h : (y.toList == s.toList) = true) : knownB (l.take k) s = true := by
  unfold knownB
  rw [List.any_eq_true]
  refine ⟨y, ?_, h⟩
  have : (l.take k)[j]? = some y := by rw [List.getElem?_take, if_pos hjk]; exact hy
  exact List.mem_of_getElem? this
theorem waysE_stay (p : Int) : ∀ (ws : List Rw) (e : Int), e ≠ 0 → waysE p e ws = e
  | [], e, _ => rfl
  | r :: ws, e, h => by
    have e1 : fstE [e, unl (decide (0 < r.l.length)) 10, idxErr r.l p] = e := by simp [fstE, h]
    have := waysE_stay p ws e h
    unfold waysE at this ⊢
    rw [List.foldl_cons, e1]
    exact this
theorem waysE_hit {p e v : Int} {ws : List Rw} {j : Nat} {r : Rw} (h : ws[j]? = some r) (h0 : waysE p e (ws.take j) = 0) (hv : fstE [0, unl (decide (0 < r.l.length)) 10, idxErr r.l p] = v) (hv0 : v ≠ 0) : waysE p e ws = v := by
  have e1 : waysE p e (ws.take (j + 1)) = v := by
    rw [List.take_add_one, h]
    have := ways_snoc p e (ws.take j) r
    rw [h0, hv] at this
    exact this
  have e2 : waysE p e ws = waysE p (waysE p e (ws.take (j + 1))) (ws.drop (j + 1)) := by
    conv => lhs; rw [← List.take_append_drop (j + 1) ws]
    unfold waysE
    rw [List.foldl_append]
  rw [e2, e1, waysE_stay p _ v hv0]
theorem e0_zero {n : Nt} (h : n.ps.length = 0) : n.e0 = 10 := by
  unfold Nt.e0
  simp [h, fstE, unl]
theorem e0_large {n : Nt} (h : 0 < n.ps.length) (h2 : 10 < n.ps.length ∨ 10 < n.fs.length ∨ 6 < n.ms.length) : n.e0 = 8 := by
  unfold Nt.e0
  rw [decide_eq_true h]
  have : (decide (max (n.ps.length : Int) n.fs.length ≤ 10) && decide ((n.ms.length : Int) ≤ 6)) = false := by
    rw [Bool.eq_false_iff]
    intro h
    rw [Bool.and_eq_true, decide_eq_true_eq, decide_eq_true_eq] at h
    omega
  rw [this]
  rfl
theorem e0_fine {n : Nt} (h : 0 < n.ps.length) (h1 : n.ps.length ≤ 10) (h2 : n.fs.length ≤ 10) (h3 : n.ms.length ≤ 6) : n.e0 = 0 := by
  unfold Nt.e0
  have : (decide (max (n.ps.length : Int) n.fs.length ≤ 10) && decide ((n.ms.length : Int) ≤ 6)) = true := by
    rw [Bool.and_eq_true, decide_eq_true_eq, decide_eq_true_eq]
    omega
  rw [decide_eq_true h, this]
  rfl
theorem eachS_end {α : Type} (err : Nat → α → Int) (l : List α) (k : Nat) : eachS err (l.drop l.length) k = (0, 0) := by rw [List.drop_length]; rfl
set_option maxHeartbeats 0 in
theorem r_CheckNet (n : Nt) (Ap Af Am : Option Addr) (cp cf cm : Nat) (w : World) (hn : NtIn n Ap Af Am cp cf cm w) :
    Calls Tryd.prog 52 #[vNt Ap Af Am n.ps.length n.fs.length n.ms.length cp cf cm] w (Ret (.tuple #[.int .i64 (netChk n).1, .int .i64 (netChk n).2]) w) := by
  have Hn := Lib.hid hn
  have hcp := hn.pcap
  have z0 := Lib.hid fun h => e0_zero (n := n) h
  have z1 := Lib.hid fun h h' => e0_large (n := n) h h'
  have z2 := Lib.hid fun h h1 h2 h3 => e0_fine (n := n) h h1 h2 h3
  have r0 : Hid (n.e0 ≠ 0 → netChk n = (0, n.e0)) := fun h => by rw [netChk, if_neg h]
  have r1 : Hid (n.e0 = 0 → (eachS (nmErr n.ps) n.ps 0).2 ≠ 0 → netChk n = eachS (nmErr n.ps) n.ps 0) := fun h h' => by rw [netChk, if_pos h, if_neg h']
  have r2 : Hid (n.e0 = 0 → (eachS (nmErr n.ps) n.ps 0).2 = 0 → (eachS (fuErr n.ps.length (n.fs.map fun f : Fu => f.name)) n.fs 0).2 ≠ 0 → netChk n = eachS (fuErr n.ps.length (n.fs.map fun f : Fu => f.name)) n.fs 0) := fun h h' h'' => by rw [netChk, if_pos h, if_pos h', if_neg h'']
  have r3 : Hid (n.e0 = 0 → (eachS (nmErr n.ps) n.ps 0).2 = 0 → (eachS (fuErr n.ps.length (n.fs.map fun f : Fu => f.name)) n.fs 0).2 = 0 → netChk n = eachS (mdErr n.fs.length (n.ms.map fun f : Md => f.name)) n.ms 0) := fun h h' h'' => by rw [netChk, if_pos h, if_pos h', if_pos h'']
  have a1 := Lib.hid fun (k : Nat) (x : ByteArray) (hx : n.ps[k]? = some x) => eachS_drop (nmErr n.ps) n.ps k x hx
  have a2 := Lib.hid fun (k : Nat) (x : Fu) (hx : n.fs[k]? = some x) => eachS_drop (fuErr n.ps.length (n.fs.map fun f : Fu => f.name)) n.fs k x hx
  have a3 := Lib.hid fun (k : Nat) (x : Md) (hx : n.ms[k]? = some x) => eachS_drop (mdErr n.fs.length (n.ms.map fun f : Md => f.name)) n.ms k x hx
  have b1 := Lib.hid (eachS_end (nmErr n.ps) n.ps n.ps.length)
  have b2 := Lib.hid (eachS_end (fuErr n.ps.length (n.fs.map fun f : Fu => f.name)) n.fs n.fs.length)
  have b3 := Lib.hid (eachS_end (mdErr n.fs.length (n.ms.map fun f : Md => f.name)) n.ms n.ms.length)
  have d1 : Hid (∀ k x, nmErr n.ps k x = fstE [unl (nameB x) 4, unl (!knownB (n.ps.take k) x) 5]) := fun _ _ => rfl
  have d2 : Hid (∀ k x, fuErr n.ps.length (n.fs.map fun f : Fu => f.name) k x = waysE n.ps.length (fstE [fstE [unl (nameB x.name) 4, unl (!knownB ((n.fs.map fun f : Fu => f.name).take k) x.name) 5], unl (decide (0 < x.ws.length)) 10, unl (decide ((x.ws.length : Int) ≤ 6)) 8]) x.ws) := fun _ _ => rfl
  have d3 : Hid (∀ k x, mdErr n.fs.length (n.ms.map fun f : Md => f.name) k x = fstE [fstE [unl (nameB x.name) 4, unl (!knownB ((n.ms.map fun f : Md => f.name).take k) x.name) 5], idxErr x.r.l n.fs.length]) := fun _ _ => rfl
  obtain ⟨g1, hg⟩ : ∃ g : Nat → Int × Int, ∀ k, eachS (nmErr n.ps) (n.ps.drop k) k = g k := ⟨_, fun _ => rfl⟩
  have e := hg 0
  rw [List.drop_zero] at e
  simp only [hg, e] at a1 b1 r1 r2 r3
  clear hg e
  obtain ⟨g2, hg⟩ : ∃ g : Nat → Int × Int, ∀ k, eachS (fuErr n.ps.length (n.fs.map fun f : Fu => f.name)) (n.fs.drop k) k = g k := ⟨_, fun _ => rfl⟩
  have e := hg 0
  rw [List.drop_zero] at e
  simp only [hg, e] at a2 b2 r2 r3
  clear hg e
  obtain ⟨g3, hg⟩ : ∃ g : Nat → Int × Int, ∀ k, eachS (mdErr n.fs.length (n.ms.map fun f : Md => f.name)) (n.ms.drop k) k = g k := ⟨_, fun _ => rfl⟩
  have e := hg 0
  rw [List.drop_zero] at e
  simp only [hg, e] at a3 b3 r3
  clear hg e hn
  generalize nmErr n.ps = e1 at *
  generalize fuErr n.ps.length (n.fs.map fun f : Fu => f.name) = e2 at *
  generalize mdErr n.fs.length (n.ms.map fun f : Md => f.name) = e3 at *
  generalize netChk n = R at *
  change Calls Tryd.prog 52 #[.agg #[.slice Ap n.ps.length cp, .slice Af n.fs.length cf, .slice Am n.ms.length cm]] w _
  obtain ⟨np, Hp⟩ : ∃ k, Hid (n.ps.length = k) := ⟨_, rfl⟩
  obtain ⟨nf, Hf⟩ : ∃ k, Hid (n.fs.length = k) := ⟨_, rfl⟩
  obtain ⟨nm, Hm⟩ : ∃ k, Hid (n.ms.length = k) := ⟨_, rfl⟩
  rw [Hp.out] at z0 z1 z2 b1 d2 hcp ⊢
  rw [Hf.out] at z1 z2 b2 d3 ⊢
  rw [Hm.out] at z1 z2 b3 ⊢
  by_cases h0 : np = 0
  · subst h0
    have e := Lib.hid (show R = (0, 10) by rw [r0.out (by rw [z0.out rfl]; decide), z0.out rfl])
    clear a1 a2 a3 b1 b2 b3 d1 d2 d3 z0 z1 z2 r0 r1 r2 r3
    go_enter Tryd.func52, Tryd.ntmps52
    go_wp2
    go_ret2
    exact ⟨by rw [e.out] <;> rfl, by (with_reducible (repeat' (first | assumption | apply jA | apply jB | apply jC | apply jD | apply jE | apply jF | apply hb3 | omega | (simp; done) | (simp; omega) | (dsimp only; omega))))⟩
  have h0' : ((np : Int) == 0) = false := by simp; omega
  by_cases hL : 10 < np ∨ 10 < nf ∨ 6 < nm
  · have e := Lib.hid (show R = (0, 8) by rw [r0.out (by rw [z1.out (by omega) hL]; decide), z1.out (by omega) hL])
    clear a1 a2 a3 b1 b2 b3 d1 d2 d3 z0 z1 z2 r0 r1 r2 r3
    by_cases q1 : (10 : Int) < np
    · clear hL
      go_enter Tryd.func52, Tryd.ntmps52
      go_wp2
      go_ret2
      exact ⟨by rw [e.out] <;> rfl, by (with_reducible (repeat' (first | assumption | apply jA | apply jB | apply jC | apply jD | apply jE | apply jF | apply hb3 | omega | (simp; done) | (simp; omega) | (dsimp only; omega))))⟩
    · by_cases q2 : (10 : Int) < nf
      · clear hL
        go_enter Tryd.func52, Tryd.ntmps52
        go_wp2
        go_ret2
        exact ⟨by rw [e.out] <;> rfl, by (with_reducible (repeat' (first | assumption | apply jA | apply jB | apply jC | apply jD | apply jE | apply jF | apply hb3 | omega | (simp; done) | (simp; omega) | (dsimp only; omega))))⟩
      · have q3 : (6 : Int) < nm := by omega
        clear hL
        go_enter Tryd.func52, Tryd.ntmps52
        go_wp2
        go_ret2
        exact ⟨by rw [e.out] <;> rfl, by (with_reducible (repeat' (first | assumption | apply jA | apply jB | apply jC | apply jD | apply jE | apply jF | apply hb3 | omega | (simp; done) | (simp; omega) | (dsimp only; omega))))⟩
  have ez := z2.out (by omega) (by omega) (by omega) (by omega)
  replace r1 := Lib.hid (r1.out ez)
  replace r2 := Lib.hid (r2.out ez)
  replace r3 := Lib.hid (r3.out ez)
  have q1 : ¬ (10 : Int) < np := by omega
  have q2 : ¬ (10 : Int) < nf := by omega
  have q3 : ¬ (6 : Int) < nm := by omega
  have p1 : np ≤ 10 := by omega
  have p2 : nf ≤ 10 := by omega
  have p3 : nm ≤ 6 := by omega
  clear z0 z1 z2 r0 ez hL h0
  go_enter Tryd.func52, Tryd.ntmps52
  go_upto_region 1 with fail
  first
  | apply absB1 (w0 := w) (g0 := w.heap.size)
  | apply absTB1 (w0 := w) (g0 := w.heap.size)
  | apply absIB1 (w0 := w) (g0 := w.heap.size)
  iterate 2 (focus ((with_reducible (repeat' (first | assumption | apply jA | apply jB | apply jC | apply jD | apply jE | apply jF | apply hb3 | apply jG | apply jH | apply jI | apply jJ | apply jK | apply hb3x | (apply jL; first | (simp; done) | rfl) | apply jM | apply jN | apply jO | apply jP | apply jQ | apply jR | apply jS | apply jT (hb := hb3 _ (jA _)) | omega | (simp; done) | (simp; omega) | (dsimp only; omega)))); done))
  intro wa hb0' k0'
  (try simp only [List.setIfInBounds_toArray, List.set_cons_zero, List.set_cons_succ] at k0')
  try clear hb3
  try clear hb0
  try clear k0
  have hb0 := hb0'; clear hb0'
  have k0 := k0'; clear k0'
  have L0 := k0.cell
  go_wp2
  clear L0 h0' q1 q2 q3
  go_loopw [4] (fun i wr => ∃ k : Nat, k ≤ np ∧ i = .int .i64 k ∧ Below w.heap.size w wr ∧ Blk wr w.heap.size 61 #[.slice Ap np cp, .slice Af nf cf, .slice Am nm cm] ∧ g1 0 = g1 k) (fun i _ => np - (intOf i).toNat)
  case atStart => exact ⟨0, Nat.zero_le _, rfl, hb0, k0, rfl⟩
  case round =>
    clear hb0 k0
    obtain ⟨k, hk, rfl, hb0, k0, hi⟩ := hrel
    replace hi := Lib.hid hi
    by_cases hkn : k < np
    · have hx : n.ps[k]? = some (n.ps[k]'(by rw [Hp.out]; exact hkn)) := List.getElem?_eq_getElem _
      generalize n.ps[k]'(by rw [Hp.out]; exact hkn) = x at hx
      have hd := Lib.hid (hi.out.trans (a1.out k x hx))
      have hr1 := Lib.hid fun h : e1 k x ≠ 0 => (show R = ((k : Int), e1 k x) by
        have h2 := hd.out
        rw [if_neg h] at h2
        rw [r1.out (by rw [h2]; exact h), h2])
      have hr2 := Lib.hid fun h : e1 k x = 0 => (show g1 0 = g1 (k + 1) by
        have h2 := hd.out
        rwa [if_pos h] at h2)
      have hde := Lib.hid (d1.out k x)
      have hsz := Hn.out.pnm x (List.mem_of_getElem? hx)
      have hS := Lib.hid fun W (hb : Below w.heap.size w W) => (Hn.out.psl.below hb).take k
      obtain ⟨b, off, rfl, hc⟩ := Hn.out.psl k x hx
      have c0 : ∀ W, Below wr.heap.size wr W → W.cell? ⟨b, off + k, none⟩ = some (.string x) := later (by simpa using kcell hb0 (hc 0 _ rfl))
      have hkl : (n.ps.take k).length = k := by rw [List.length_take, Hp.out]; omega
      have hht := Lib.hid fun W (hb : Below w.heap.size w W) => (show Calls Tryd.prog 115 #[.slice (some ⟨b, off, none⟩) k cp, .string x] W (Same (.bool (knownB (n.ps.take k) x)) W) by
        have := r_HasText (n.ps.take k) x (some ⟨b, off, none⟩) cp W (hS.out W hb) (by omega)
        rw [hkl] at this
        exact this)
      clear hc hx hd hS hkl
      have hni := Lib.hid fun W : World => r_IsName x W hsz
      generalize e1 k x = E at *
      generalize knownB (n.ps.take k) x = K at *
      generalize nameB x = N at *
      have hkc : k ≤ cp := by omega
      have L0 := k0.cell
      have c0' := c0 wr (bl_refl _)
      cases N
      · have hE : E = 4 := by rw [hde.out]; rfl
        subst hE
        have hR := Lib.hid (hr1.out (by decide))
        clear hr1 hr2 hde hht c0
        go_wp2_with fail
        refine (hni.out _).mono ?_
        rintro e w3 ⟨rfl, hb3⟩
        go_wp2
        go_ret2
        exact ⟨by rw [hR.out] <;> rfl, bl_tr hb0 hb3⟩
      go_wp2_with fail
      refine (hni.out _).mono ?_
      rintro e w3 ⟨rfl, hb3⟩
      have c1 : ∀ W, Below w3.heap.size w3 W → W.cell? ⟨b, off + k, none⟩ = some (.string x) := later (c0 w3 hb3)
      replace hb0 := bl_tr hb0 hb3
      replace k0 := k0.below hb3
      clear c0 c0' L0 hb3 hni
      go_upto_region 10 with fail
      have Lk0 := k0.later
      have Fk0 := k0.laterF
      have Qk0 := k0.lt
      refine wp_any (w0 := w3) ⟨[], [], [some 49, some 50, some 51, some 52, some 53, some 54, some 55, some 56, some 57, some 58], [[], [0], [], [0, 1, 2], [], [4], [], [4, 5, 6], [4, 5, 6, 7], [0, 1, 2, 3, 4, 5, 6, 7, 8]], [[], [0], [], [1, 2], [], [4], [], [5, 6], [7], [3, 8]]⟩ (fun _ => []) (by kernel_rfl) (by kernel_rfl) (by (with_reducible (repeat' (first | assumption | apply jA | apply jB | apply jC | apply jD | apply jE | apply jF | apply hb3 | omega | (simp; done) | (simp; omega) | (dsimp only; omega))))) (fun u => by simp only [putD, Act.put, List.setIfInBounds_toArray, List.set_cons_zero, List.set_cons_succ, Nat.zero_add, Nat.reduceAdd]; rfl) ?_
      apply RGW.on (i := 0) rfl
      · (simp only [gA, gB, gC] <;> rfl)
      · intro γ u W hcur hd
        clear hd
        (try dsimp only)
        refine ⟨rfl, ?_⟩
        go_simp <;> (try go_bits) <;> with_reducible rfl
      · exact fun _ _ _ => rfl
      · rfl
      dsimp only [nA, cA]
      apply RGW.on (i := 1) rfl
      · (simp only [gA, gB, gC] <;> rfl)
      · intro γ u W hcur hd
        obtain ⟨⟨h0, -, -⟩, -⟩ := hd
        dsimp only at h0
        (try simp only [h0])
        refine ⟨rfl, ?_⟩
        go_simp <;> (try go_bits) <;> with_reducible rfl
      · exact fun _ _ _ => rfl
      · rfl
      dsimp only [nA, cA]
      apply RGW.on (i := 2) rfl
      · (simp only [gA, gB, gC] <;> rfl)
      · intro γ u W hcur hd
        clear hd
        (try dsimp only)
        refine ⟨rfl, ?_⟩
        go_simp <;> (try go_bits) <;> with_reducible rfl
      · exact fun _ _ _ => rfl
      · rfl
      dsimp only [nA, cA]
      apply RGW.on (i := 3) rfl
      · (simp only [gA, gB, gC] <;> rfl)
      · intro γ u W hcur hd
        obtain ⟨⟨h1, -, -⟩, ⟨h2, -, -⟩, -⟩ := hd
        dsimp only at h1 h2
        (try simp only [h1, h2])
        refine ⟨rfl, ?_⟩
        go_simp <;> (try go_bits) <;> with_reducible rfl
      · exact fun _ _ _ => rfl
      · rfl
      dsimp only [nA, cA]
      apply RGW.on (i := 4) rfl
      · (simp only [gA, gB, gC] <;> rfl)
      · intro γ u W hcur hd
        clear hd
        (try dsimp only)
        refine ⟨rfl, ?_⟩
        go_simp <;> (try go_bits) <;> with_reducible rfl
      · exact fun _ _ _ => rfl
      · rfl
      dsimp only [nA, cA]
      apply RGW.on (i := 5) rfl
      · (simp only [gA, gB, gC] <;> rfl)
      · intro γ u W hcur hd
        obtain ⟨⟨h4, -, -⟩, -⟩ := hd
        dsimp only at h4
        (try simp only [h4])
        refine ⟨rfl, ?_⟩
        go_simp <;> (try go_bits) <;> with_reducible rfl
      · exact fun _ _ _ => rfl
      · rfl
      dsimp only [nA, cA]
      apply RGW.on (i := 6) rfl
      · (simp only [gA, gB, gC] <;> rfl)
      · intro γ u W hcur hd
        clear hd
        (try dsimp only)
        refine ⟨rfl, ?_⟩
        go_simp <;> (try go_bits) <;> with_reducible rfl
      · exact fun _ _ _ => rfl
      · rfl
      dsimp only [nA, cA]
      apply RGW.on (i := 7) rfl
      · (simp only [gA, gB, gC] <;> rfl)
      · intro γ u W hcur hd
        obtain ⟨⟨h5, -, -⟩, ⟨h6, -, -⟩, -⟩ := hd
        dsimp only at h5 h6
        (try simp only [h5, h6])
        refine ⟨rfl, ?_⟩
        go_simp <;> (try go_bits) <;> with_reducible rfl
      · exact fun _ _ _ => rfl
      · rfl
      dsimp only [nA, cA]
      apply RGW.on (i := 8) rfl
      · (simp only [gA, gB, gC] <;> rfl)
      · intro γ u W hcur hd
        obtain ⟨⟨h7, -, -⟩, -⟩ := hd
        dsimp only at h7
        (try simp only [h7])
        refine ⟨rfl, ?_⟩
        go_simp <;> (try go_bits) <;> with_reducible rfl
      · exact fun _ _ _ => rfl
      · rfl
      dsimp only [nA, cA]
      apply RGW.call (i := 9) rfl
      · (simp only [gA, gB, gC] <;> rfl)
      · intro γ u W hcur hd
        obtain ⟨⟨h3, -, -⟩, ⟨h8, -, -⟩, -⟩ := hd
        dsimp only at h3 h8
        (try simp only [h3, h8])
        refine ⟨rfl, fun K hK => ?_⟩
        go_simp
        (go_at_call 115; (with_reducible refine (hht.out _ (bl_tr hb0 hcur)).mono ?_); rintro e w3 ⟨rfl, rfl⟩)
        (try dsimp only)
        exact hK.out _ _ rfl (by (with_reducible (repeat' (first | assumption | apply jA | apply jB | apply jC | apply jD | apply jE | apply jF | apply hb3 | omega | (simp; done) | (simp; omega) | (dsimp only; omega)))))
      · exact fun _ _ _ => rfl
      · rfl
      dsimp only [nA, cA]
      refine RGW.fin (fun γ u wj hwj hd hdis => ?_)
      obtain ⟨⟨h0, -, -⟩, ⟨h1, -, -⟩, ⟨h2, -, -⟩, ⟨h3, -, -⟩, ⟨h4, -, -⟩, ⟨h5, -, -⟩, ⟨h6, -, -⟩, ⟨h7, -, -⟩, ⟨h8, -, -⟩, ⟨h9, -, -⟩, -⟩ := hd
      dsimp only at h0 h1 h2 h3 h4 h5 h6 h7 h8 h9
      clear hdis
      simp only [h0, h1, h2, h3, h4, h5, h6, h7, h8, h9]
      clear h9 h8 h7 h6 h5 h4 h3 h2 h1 h0
      clear u
      simp only [List.map_nil]
      refine PlanW.done ?_
      have hb3 := bl_tt hwj
      have hbj := bl_tr hb0 hwj
      have kj := k0.below hwj
      cases K
      · have hE : E = 0 := by rw [hde.out]; rfl
        have hR := Lib.hid (hr2.out hE)
        clear hr1 hr2 hde hht
        go_wp2
        go_roundw
        case rel => exact ⟨k + 1, by omega, by go_num, hbj, kj, hR.out⟩
        case measure => simp [intOf]; omega
      · have hE : E = 5 := by rw [hde.out]; rfl
        subst hE
        have hR := Lib.hid (hr1.out (by decide))
        clear hr1 hr2 hde hht
        go_wp2
        go_ret2
        exact ⟨by rw [hR.out] <;> rfl, hbj⟩
    as_aux_lemma =>
      obtain rfl : np = k := by omega
      have hz1 := hi.out.trans b1.out
      replace r2 := Lib.hid (r2.out (by rw [hz1]))
      replace r3 := Lib.hid (r3.out (by rw [hz1]))
      clear hi hz1 r1 a1 b1 d1 hkn hk
      have L0 := k0.cell
      go_wp2
      clear L0
      go_loopw [5] (fun i wr => ∃ k : Nat, k ≤ nf ∧ i = .int .i64 k ∧ Below w.heap.size w wr ∧ Blk wr w.heap.size 61 #[.slice Ap np cp, .slice Af nf cf, .slice Am nm cm] ∧ g2 0 = g2 k) (fun i _ => nf - (intOf i).toNat)
      case atStart => exact ⟨0, Nat.zero_le _, rfl, hb0, k0, rfl⟩
      case round =>
        clear hb0 k0
        obtain ⟨k, hk, rfl, hb0, k0, hi⟩ := hrel
        replace hi := Lib.hid hi
        by_cases hkn : k < nf
        · clear r3 a3 b3 d3 b2
          have hx : n.fs[k]? = some (n.fs[k]'(by rw [Hf.out]; exact hkn)) := List.getElem?_eq_getElem _
          generalize n.fs[k]'(by rw [Hf.out]; exact hkn) = f at hx
          have hd := Lib.hid (hi.out.trans (a2.out k f hx))
          have hr1 := Lib.hid fun h : e2 k f ≠ 0 => (show R = ((k : Int), e2 k f) by
            have h2 := hd.out
            rw [if_neg h] at h2
            rw [r2.out (by rw [h2]; exact h), h2])
          have hr2 := Lib.hid fun h : e2 k f = 0 => (show g2 0 = g2 (k + 1) by
            have h2 := hd.out
            rwa [if_pos h] at h2)
          have hde := d2.out k f
          have hE1 := Lib.hid fun (v : Int) (h : fstE [fstE [unl (nameB f.name) 4, unl (!knownB ((n.fs.map fun f : Fu => f.name).take k) f.name) 5], unl (decide (0 < f.ws.length)) 10, unl (decide ((f.ws.length : Int) ≤ 6)) 8] = v) (h0 : v ≠ 0) => (show e2 k f = v by rw [hde, h, waysE_stay _ _ _ h0])
          have hE2 := Lib.hid fun (h : fstE [fstE [unl (nameB f.name) 4, unl (!knownB ((n.fs.map fun f : Fu => f.name).take k) f.name) 5], unl (decide (0 < f.ws.length)) 10, unl (decide ((f.ws.length : Int) ≤ 6)) 8] = 0) => (show e2 k f = waysE np 0 f.ws by rw [hde, h])
          have hwh := Lib.hid fun (j : Nat) (r : Rw) (v : Int) (h : f.ws[j]? = some r) (h0 : waysE np 0 (f.ws.take j) = 0) (hv : fstE [0, unl (decide (0 < r.l.length)) 10, idxErr r.l np] = v) (hv0 : v ≠ 0) => waysE_hit h h0 hv hv0
          have hws := Lib.hid fun (j : Nat) (r : Rw) (h : f.ws[j]? = some r) => (show waysE np 0 (f.ws.take (j + 1)) = fstE [waysE np 0 (f.ws.take j), unl (decide (0 < r.l.length)) 10, idxErr r.l np] by rw [List.take_add_one, h]; exact ways_snoc np 0 _ r)
          have hw0 : Hid (waysE np 0 (f.ws.take 0) = 0) := rfl
          have hwe : Hid (waysE np 0 (f.ws.take f.ws.length) = waysE np 0 f.ws) := Lib.hid (by rw [List.take_length])
          have hfi := Lib.hid (Hn.out.fin f (List.mem_of_getElem? hx))
          have hsz := Lib.hid hfi.out.nm
          obtain ⟨b, off, hA, hc⟩ := Hn.out.fsl k f hx
          have hS : Hid (Sl cFu 2 w (some ⟨b, off, none⟩) n.fs) := by rw [← hA]; exact Hn.out.fsl
          have hks := Lib.hid fun (j : Nat) (y : Fu) (hy : n.fs[j]? = some y) => knownN_step (n.fs.map fun f : Fu => f.name) f.name j y.name (by rw [List.getElem?_map, hy]; rfl)
          have hkh := Lib.hid fun (j : Nat) (y : Fu) (hy : n.fs[j]? = some y) (hjk : j < k) (h : (y.name.toList == f.name.toList) = true) => knownN_hit (n.fs.map fun f : Fu => f.name) f.name j k y.name (by rw [List.getElem?_map, hy]; rfl) hjk h
          have hk0 : Hid (knownB ((n.fs.map fun f : Fu => f.name).take 0) f.name = false) := rfl
          obtain ⟨KK, hKK⟩ : ∃ g : Nat → Bool, ∀ j, knownB ((n.fs.map fun f : Fu => f.name).take j) f.name = g j := ⟨_, fun _ => rfl⟩
          simp only [hKK] at hE1 hE2 hks hkh hk0
          obtain ⟨WW, hWW⟩ : ∃ g : Nat → Int, ∀ j, waysE np 0 (f.ws.take j) = g j := ⟨_, fun _ => rfl⟩
          simp only [hWW] at hwh hws hw0 hwe
          generalize waysE np 0 f.ws = WA at *
          have hni := Lib.hid fun W : World => r_IsName f.name W hsz.out
          generalize nameB f.name = N at *
          generalize e2 k f = E at *
          clear hd hde hi hKK hWW a2 d2 r2 hx hsz
          subst hA
          have c0 : wr.cell? ⟨b, off + k * 2, none⟩ = some (.string f.name) := by simpa using kcell hb0 (hc 0 _ rfl)
          have c1 : wr.cell? ⟨b, off + k * 2 + 1, none⟩ = some (.slice f.A f.ws.length f.c) := kcell hb0 (hc 1 _ rfl)
          clear hc
          obtain ⟨nw, Hw⟩ : ∃ k, Hid (f.ws.length = k) := ⟨_, rfl⟩
          rw [Hw.out] at hE1 hE2 hwe c1
          generalize f.name = fn at *
          generalize f.c = fc at *
          generalize hfA : f.A = fA at *
          replace hfA := Lib.hid hfA
          have L0 := k0.cell
          go_upto_region 16 with fail
          clear L0
          have k1 := Blk.new wr 129 #[.string fn, .slice fA nw fc]
          replace k0 := k0.alloc (.cells #[.string fn, .slice fA nw fc] 129)
          replace hb0 := bl_al (.cells #[.string fn, .slice fA nw fc] 129) hb0
          clear c0 c1
          generalize wr.alloc (.cells #[.string fn, .slice fA nw fc] 129) = wb at *
          have L1 := k1.cell
          cases N
          · have hE : E = 4 := hE1.out 4 (by simp [fstE, unl]) (by decide)
            subst hE
            have hR := Lib.hid (hr1.out (by decide))
            clear hr1 hr2 hE1 hE2 hwh hws hw0 hwe hfi hS hks hkh hk0
            go_wp2_with fail
            refine (hni.out _).mono ?_
            rintro e w3 ⟨rfl, hb3⟩
            go_wp2
            go_ret2
            exact ⟨by rw [hR.out] <;> rfl, bl_tr hb0 hb3⟩
          go_wp2_with fail
          refine (hni.out _).mono ?_
          rintro e w3 ⟨rfl, hb3⟩
          replace hb0 := bl_tr hb0 hb3
          replace k0 := k0.below hb3
          replace k1 := k1.below hb3
          clear hb3 hni L1
          obtain ⟨wo, rfl⟩ : ∃ wo : World, wo = wr := ⟨_, rfl⟩
          go_wp2
          go_loopw [7] (fun i wi => ∃ j : Nat, j ≤ k ∧ i = .int .i64 j ∧ Below w.heap.size w wi ∧ Blk wi w.heap.size 61 #[.slice Ap np cp, .slice (some ⟨b, off, none⟩) nf cf, .slice Am nm cm] ∧ Blk wi wo.heap.size 129 #[.string fn, .slice fA nw fc] ∧ KK j = false) (fun i _ => k - (intOf i).toNat)
          case atStart => exact ⟨0, Nat.zero_le _, rfl, hb0, k0, k1, hk0.out⟩
          case round =>
            clear hb0 k0 k1
            obtain ⟨j, hj, rfl, hb0, k0, k1, hkj⟩ := hrel
            replace hkj := Lib.hid hkj
            by_cases hjk : j < k
            · have hy : n.fs[j]? = some (n.fs[j]'(by rw [Hf.out]; omega)) := List.getElem?_eq_getElem _
              generalize n.fs[j]'(by rw [Hf.out]; omega) = y at hy
              obtain ⟨b2, off2, e2, hc2⟩ := hS.out j y hy
              cases e2
              have d0 : ∀ W, Below wr.heap.size wr W → W.cell? ⟨b, off + j * 2, none⟩ = some (.string y.name) := later (by simpa using kcell hb0 (hc2 0 _ rfl))
              have hksj := Lib.hid (hks.out j y hy)
              have hkhj := Lib.hid (hkh.out j y hy hjk)
              clear hc2 hy hr2 hE2 hwh hws hw0 hwe hfi hS hks hkh
              generalize y.name = yn at *
              have hjn : (j : Int) < nf := by omega
              have hjn2 : j < nf := by omega
              go_upto_region 21 with fail
              have Lk0 := k0.later
              have Fk0 := k0.laterF
              have Qk0 := k0.lt
              have Lk1 := k1.later
              have Fk1 := k1.laterF
              have Qk1 := k1.lt
              refine wp_any (w0 := wr) ⟨[], [], [some 82, some 83, some 84, some 85, some 86, some 87, some 88, some 89, some 90], [[], [0], [], [0, 1, 2], [0, 1, 2, 3], [0, 1, 2, 3, 4], [], [6], [0, 1, 2, 3, 4, 5, 6, 7]], [[], [0], [], [1, 2], [3], [4], [], [6], [5, 7]]⟩ (fun _ => []) (by kernel_rfl) (by kernel_rfl) (by (with_reducible (repeat' (first | assumption | apply jA | apply jB | apply jC | apply jD | apply jE | apply jF | apply hb3 | omega | (simp; done) | (simp; omega) | (dsimp only; omega))))) (fun u => by simp only [putD, Act.put, List.setIfInBounds_toArray, List.set_cons_zero, List.set_cons_succ, Nat.zero_add, Nat.reduceAdd]; rfl) ?_
              apply RGW.on (i := 0) rfl
              · (simp only [gA, gB, gC] <;> rfl)
              · intro γ u W hcur hd
                clear hd
                (try dsimp only)
                refine ⟨rfl, ?_⟩
                go_simp <;> (try go_bits) <;> with_reducible rfl
              · exact fun _ _ _ => rfl
              · rfl
              dsimp only [nA, cA]
              apply RGW.on (i := 1) rfl
              · (simp only [gA, gB, gC] <;> rfl)
              · intro γ u W hcur hd
                obtain ⟨⟨h0, -, -⟩, -⟩ := hd
                dsimp only at h0
                (try simp only [h0])
                refine ⟨rfl, ?_⟩
                go_simp <;> (try go_bits) <;> with_reducible rfl
              · exact fun _ _ _ => rfl
              · rfl
              dsimp only [nA, cA]
              apply RGW.on (i := 2) rfl
              · (simp only [gA, gB, gC] <;> rfl)
              · intro γ u W hcur hd
                clear hd
                (try dsimp only)
                refine ⟨rfl, ?_⟩
                go_simp <;> (try go_bits) <;> with_reducible rfl
              · exact fun _ _ _ => rfl
              · rfl
              dsimp only [nA, cA]
              apply RGW.on (i := 3) rfl
              · (simp only [gA, gB, gC] <;> rfl)
              · intro γ u W hcur hd
                obtain ⟨⟨h1, -, -⟩, ⟨h2, -, -⟩, -⟩ := hd
                dsimp only at h1 h2
                (try simp only [h1, h2])
                refine ⟨rfl, ?_⟩
                go_simp <;> (try go_bits) <;> with_reducible rfl
              · exact fun _ _ _ => rfl
              · rfl
              dsimp only [nA, cA]
              apply RGW.on (i := 4) rfl
              · (simp only [gA, gB, gC] <;> rfl)
              · intro γ u W hcur hd
                obtain ⟨⟨h3, -, -⟩, -⟩ := hd
                dsimp only at h3
                (try simp only [h3])
                refine ⟨rfl, ?_⟩
                go_simp <;> (try go_bits) <;> with_reducible rfl
              · exact fun _ _ _ => rfl
              · rfl
              dsimp only [nA, cA]
              apply RGW.on (i := 5) rfl
              · (simp only [gA, gB, gC] <;> rfl)
              · intro γ u W hcur hd
                obtain ⟨⟨h4, -, -⟩, -⟩ := hd
                dsimp only at h4
                (try simp only [h4])
                refine ⟨rfl, ?_⟩
                go_simp <;> (try go_bits) <;> with_reducible rfl
              · exact fun _ _ _ => rfl
              · rfl
              dsimp only [nA, cA]
              apply RGW.on (i := 6) rfl
              · (simp only [gA, gB, gC] <;> rfl)
              · intro γ u W hcur hd
                clear hd
                (try dsimp only)
                refine ⟨rfl, ?_⟩
                go_simp <;> (try go_bits) <;> with_reducible rfl
              · exact fun _ _ _ => rfl
              · rfl
              dsimp only [nA, cA]
              apply RGW.on (i := 7) rfl
              · (simp only [gA, gB, gC] <;> rfl)
              · intro γ u W hcur hd
                obtain ⟨⟨h6, -, -⟩, -⟩ := hd
                dsimp only at h6
                (try simp only [h6])
                refine ⟨rfl, ?_⟩
                go_simp <;> (try go_bits) <;> with_reducible rfl
              · exact fun _ _ _ => rfl
              · rfl
              dsimp only [nA, cA]
              apply RGW.on (i := 8) rfl
              · (simp only [gA, gB, gC] <;> rfl)
              · intro γ u W hcur hd
                obtain ⟨⟨h5, -, -⟩, ⟨h7, -, -⟩, -⟩ := hd
                dsimp only at h5 h7
                (try simp only [h5, h7])
                refine ⟨rfl, ?_⟩
                go_simp <;> (try go_bits) <;> with_reducible rfl
              · exact fun _ _ _ => rfl
              · rfl
              dsimp only [nA, cA]
              refine RGW.fin (fun γ u wj hwj hd hdis => ?_)
              obtain ⟨⟨h0, -, -⟩, ⟨h1, -, -⟩, ⟨h2, -, -⟩, ⟨h3, -, -⟩, ⟨h4, -, -⟩, ⟨h5, -, -⟩, ⟨h6, -, -⟩, ⟨h7, -, -⟩, ⟨h8, -, -⟩, -⟩ := hd
              dsimp only at h0 h1 h2 h3 h4 h5 h6 h7 h8
              clear hdis
              simp only [h0, h1, h2, h3, h4, h5, h6, h7, h8]
              clear h8 h7 h6 h5 h4 h3 h2 h1 h0
              clear u
              simp only [List.map_nil]
              refine PlanW.done ?_
              have hb3 := bl_tt hwj
              have hbj := bl_tr hb0 hwj
              replace k0 := k0.below hwj
              replace k1 := k1.below hwj
              cases hyx : yn.toList == fn.toList
              · have e3 := Lib.hid (show KK (j + 1) = false by rw [hksj.out, hkj.out, hyx]; rfl)
                go_wp2
                go_roundw
                case rel => exact ⟨j + 1, by omega, by go_num, hbj, k0, k1, e3.out⟩
                case measure => simp [intOf]; omega
              · have hE : E = 5 := hE1.out 5 (by rw [hkhj.out hyx]; simp [fstE, unl]) (by decide)
                subst hE
                have hR := Lib.hid (hr1.out (by decide))
                clear hr1 hE1
                go_wp2
                go_ret2
                exact ⟨by rw [hR.out] <;> rfl, hbj⟩
            obtain rfl : k = j := by omega
            clear hks hkh hk0 hS hjk
            rw [hkj.out] at hE1 hE2
            have L0 := k0.cell
            have L1 := k1.cell
            by_cases hw9 : nw = 0
            · subst hw9
              have hE : E = 10 := hE1.out 10 (by simp [fstE, unl]) (by decide)
              subst hE
              have hR := Lib.hid (hr1.out (by decide))
              clear hr1 hr2 hE1 hE2 hwh hws hw0 hwe
              go_wp2
              go_ret2
              exact ⟨by rw [hR.out] <;> rfl, hb0⟩
            have hw8 : ((nw : Int) == 0) = false := by simp; omega
            have hwp : 0 < nw := by omega
            by_cases hw6 : (6 : Int) < nw
            · have hE : E = 8 := hE1.out 8 (by
                rw [decide_eq_true hwp, decide_eq_false (show ¬ (nw : Int) ≤ 6 by omega)]
                simp [fstE, unl]) (by decide)
              subst hE
              have hR := Lib.hid (hr1.out (by decide))
              clear hr1 hr2 hE1 hE2 hwh hws hw0 hwe
              go_wp2
              go_ret2
              exact ⟨by rw [hR.out] <;> rfl, hb0⟩
            have hE2' := hE2.out (by
                rw [decide_eq_true hwp, decide_eq_true (show (nw : Int) ≤ 6 by omega)]
                simp [fstE, unl])
            clear hE1 hE2
            go_wp2
            clear L0 L1 hw8 hw9
            go_loopw [8] (fun i wi => ∃ m : Nat, m ≤ nw ∧ i = .int .i64 m ∧ Below w.heap.size w wi ∧ Blk wi w.heap.size 61 #[.slice Ap np cp, .slice (some ⟨b, off, none⟩) nf cf, .slice Am nm cm] ∧ Blk wi wo.heap.size 129 #[.string fn, .slice fA nw fc] ∧ WW m = 0) (fun i _ => nw - (intOf i).toNat)
            case atStart => exact ⟨0, Nat.zero_le _, rfl, hb0, k0, k1, hw0.out⟩
            case round =>
              clear hb0 k0 k1
              obtain ⟨m, hm, rfl, hb0, k0, k1, hwm⟩ := hrel
              replace hwm := Lib.hid hwm
              by_cases hmn : m < nw
              · have hx : f.ws[m]? = some (f.ws[m]'(by rw [Hw.out]; exact hmn)) := List.getElem?_eq_getElem _
                generalize f.ws[m]'(by rw [Hw.out]; exact hmn) = r at hx
                have hr := hfi.out.rows r (List.mem_of_getElem? hx)
                obtain ⟨b3, o3, e3, hc3⟩ := hfi.out.sl m r hx
                rw [hfA.out] at e3
                subst e3
                have c0 : ∀ W, Below wr.heap.size wr W → W.cell? ⟨b3, o3 + m, none⟩ = some (.slice r.A r.l.length r.c) := later (by simpa using kcell hb0 (hc3 0 _ rfl))
                have hvm := Lib.hid fun v hv hv0 => hE2'.trans (hwh.out m r v hx hwm.out hv hv0)
                have hsm := Lib.hid (hws.out m r hx)
                have hie := Lib.hid fun W (hb : Below w.heap.size w W) => r_IndexesErr r.l np r.A r.c W (hr.sl.below hb) hr.len (by omega)
                clear hc3 hx hr hwh hws hw0 hfi
                generalize idxErr r.l np = X at *
                generalize hrl : r.l.length = rl at *
                replace hrl := Lib.hid hrl
                generalize r.A = rA at *
                generalize r.c = rc at *
                have hmn2 : (m : Int) < nw := by omega
                have L0 := k0.cell
                have L1 := k1.cell
                have c0' := c0 wr (bl_refl _)
                by_cases hr0 : rl = 0
                · subst hr0
                  have hE : E = 10 := hvm.out 10 (by simp [fstE, unl]) (by decide)
                  subst hE
                  have hR := Lib.hid (hr1.out (by decide))
                  clear hr1 hr2 hE2' hvm hsm hwe c0
                  go_wp2
                  go_ret2
                  exact ⟨by rw [hR.out] <;> rfl, hb0⟩
                have hr8 : ((rl : Int) == 0) = false := by simp; omega
                have hrp : 0 < rl := by omega
                rw [decide_eq_true hrp] at hvm hsm
                go_upto_region 32 with fail
                clear L0 L1 c0'
                have Lk0 := k0.later
                have Fk0 := k0.laterF
                have Qk0 := k0.lt
                have Lk1 := k1.later
                have Fk1 := k1.laterF
                have Qk1 := k1.lt
                refine wp_any (w0 := wr) ⟨[], [], [some 117, some 118, some 119, some 120, some 121, some 122, some 123, some 124, some 125, some 9], [[], [0], [], [0, 1, 2], [0, 1, 2, 3], [], [5], [5, 6], [0, 1, 2, 3, 4, 5, 6, 7], [0, 1, 2, 3, 4, 5, 6, 7, 8]], [[], [0], [], [1, 2], [3], [], [5], [6], [4, 7], [8]]⟩ (fun _ => []) (by kernel_rfl) (by kernel_rfl) (by (with_reducible (repeat' (first | assumption | apply jA | apply jB | apply jC | apply jD | apply jE | apply jF | apply hb3 | omega | (simp; done) | (simp; omega) | (dsimp only; omega))))) (fun u => by simp only [putD, Act.put, List.setIfInBounds_toArray, List.set_cons_zero, List.set_cons_succ, Nat.zero_add, Nat.reduceAdd]; rfl) ?_
                apply RGW.on (i := 0) rfl
                · (simp only [gA, gB, gC] <;> rfl)
                · intro γ u W hcur hd
                  clear hd
                  (try dsimp only)
                  refine ⟨rfl, ?_⟩
                  go_simp <;> (try go_bits) <;> with_reducible rfl
                · exact fun _ _ _ => rfl
                · rfl
                dsimp only [nA, cA]
                apply RGW.on (i := 1) rfl
                · (simp only [gA, gB, gC] <;> rfl)
                · intro γ u W hcur hd
                  obtain ⟨⟨h0, -, -⟩, -⟩ := hd
                  dsimp only at h0
                  (try simp only [h0])
                  refine ⟨rfl, ?_⟩
                  go_simp <;> (try go_bits) <;> with_reducible rfl
                · exact fun _ _ _ => rfl
                · rfl
                dsimp only [nA, cA]
                apply RGW.on (i := 2) rfl
                · (simp only [gA, gB, gC] <;> rfl)
                · intro γ u W hcur hd
                  clear hd
                  (try dsimp only)
                  refine ⟨rfl, ?_⟩
                  go_simp <;> (try go_bits) <;> with_reducible rfl
                · exact fun _ _ _ => rfl
                · rfl
                dsimp only [nA, cA]
                apply RGW.on (i := 3) rfl
                · (simp only [gA, gB, gC] <;> rfl)
                · intro γ u W hcur hd
                  obtain ⟨⟨h1, -, -⟩, ⟨h2, -, -⟩, -⟩ := hd
                  dsimp only at h1 h2
                  (try simp only [h1, h2])
                  refine ⟨rfl, ?_⟩
                  go_simp <;> (try go_bits) <;> with_reducible rfl
                · exact fun _ _ _ => rfl
                · rfl
                dsimp only [nA, cA]
                apply RGW.on (i := 4) rfl
                · (simp only [gA, gB, gC] <;> rfl)
                · intro γ u W hcur hd
                  obtain ⟨⟨h3, -, -⟩, -⟩ := hd
                  dsimp only at h3
                  (try simp only [h3])
                  refine ⟨rfl, ?_⟩
                  go_simp <;> (try go_bits) <;> with_reducible rfl
                · exact fun _ _ _ => rfl
                · rfl
                dsimp only [nA, cA]
                apply RGW.on (i := 5) rfl
                · (simp only [gA, gB, gC] <;> rfl)
                · intro γ u W hcur hd
                  clear hd
                  (try dsimp only)
                  refine ⟨rfl, ?_⟩
                  go_simp <;> (try go_bits) <;> with_reducible rfl
                · exact fun _ _ _ => rfl
                · rfl
                dsimp only [nA, cA]
                apply RGW.on (i := 6) rfl
                · (simp only [gA, gB, gC] <;> rfl)
                · intro γ u W hcur hd
                  obtain ⟨⟨h5, -, -⟩, -⟩ := hd
                  dsimp only at h5
                  (try simp only [h5])
                  refine ⟨rfl, ?_⟩
                  go_simp <;> (try go_bits) <;> with_reducible rfl
                · exact fun _ _ _ => rfl
                · rfl
                dsimp only [nA, cA]
                apply RGW.on (i := 7) rfl
                · (simp only [gA, gB, gC] <;> rfl)
                · intro γ u W hcur hd
                  obtain ⟨⟨h6, -, -⟩, -⟩ := hd
                  dsimp only at h6
                  (try simp only [h6])
                  refine ⟨rfl, ?_⟩
                  go_simp <;> (try go_bits) <;> with_reducible rfl
                · exact fun _ _ _ => rfl
                · rfl
                dsimp only [nA, cA]
                apply RGW.call (i := 8) rfl
                · (simp only [gA, gB, gC] <;> rfl)
                · intro γ u W hcur hd
                  obtain ⟨⟨h4, -, -⟩, ⟨h7, -, -⟩, -⟩ := hd
                  dsimp only at h4 h7
                  (try simp only [h4, h7])
                  refine ⟨rfl, fun K hK => ?_⟩
                  go_simp
                  (go_at_call 53; (with_reducible refine (hie.out _ (bl_tr hb0 hcur)).mono ?_); rintro e w3 ⟨rfl, hb3⟩; replace hb3 := bl_tt hb3)
                  (try dsimp only)
                  exact hK.out _ _ rfl (by (with_reducible (repeat' (first | assumption | apply jA | apply jB | apply jC | apply jD | apply jE | apply jF | apply hb3 | omega | (simp; done) | (simp; omega) | (dsimp only; omega)))))
                · exact fun _ _ _ => rfl
                · rfl
                dsimp only [nA, cA]
                apply RGW.on (i := 9) rfl
                · (simp only [gA, gB, gC] <;> rfl)
                · intro γ u W hcur hd
                  obtain ⟨⟨h8, -, -⟩, -⟩ := hd
                  dsimp only at h8
                  (try simp only [h8])
                  refine ⟨rfl, ?_⟩
                  go_simp <;> (try go_bits) <;> with_reducible rfl
                · exact fun _ _ _ => rfl
                · rfl
                dsimp only [nA, cA]
                refine RGW.fin (fun γ u wj hwj hd hdis => ?_)
                obtain ⟨⟨h0, -, -⟩, ⟨h1, -, -⟩, ⟨h2, -, -⟩, ⟨h3, -, -⟩, ⟨h4, -, -⟩, ⟨h5, -, -⟩, ⟨h6, -, -⟩, ⟨h7, -, -⟩, ⟨h8, -, -⟩, ⟨h9, -, -⟩, -⟩ := hd
                dsimp only at h0 h1 h2 h3 h4 h5 h6 h7 h8 h9
                clear hdis
                simp only [h0, h1, h2, h3, h4, h5, h6, h7, h8, h9]
                clear h9 h8 h7 h6 h5 h4 h3 h2 h1 h0
                clear u
                simp only [List.map_nil]
                refine PlanW.done ?_
                have hb3 := bl_tt hwj
                have hbj := bl_tr hb0 hwj
                replace k0 := k0.below hwj
                replace k1 := k1.below hwj
                by_cases hX : X = 0
                · have hX' : (X != 0) = false := by simp [hX]
                  have e9 := Lib.hid (show WW (m + 1) = 0 by rw [hsm.out, hwm.out, hX]; rfl)
                  replace hX := Lib.hid hX
                  clear hvm hsm
                  go_wp2
                  go_roundw
                  case rel => exact ⟨m + 1, by omega, by go_num, hbj, k0, k1, e9.out⟩
                  case measure => simp [intOf]; omega
                · have hX' : (X != 0) = true := by simp [hX]
                  have hE : E = X := hvm.out X (by simp [fstE, unl]; exact fun h => h.symm) hX
                  have hR := Lib.hid (hr1.out (by rw [hE]; exact hX))
                  replace hE := Lib.hid hE
                  replace hX := Lib.hid hX
                  clear hvm hsm hr1 hr2
                  go_wp2
                  go_ret2
                  exact ⟨by rw [hR.out, hE.out] <;> rfl, hbj⟩
              obtain rfl : nw = m := by omega
              have hE : E = 0 := by rw [hE2', ← hwe.out, hwm.out]
              have hR := Lib.hid (hr2.out hE)
              have L0 := k0.cell
              have L1 := k1.cell
              clear hE hE2' hr1 hr2 hwh hws
              go_wp2
              go_roundw
              case rel => exact ⟨k + 1, by omega, by go_num, hb0, k0, hR.out⟩
              case measure => simp [intOf]; omega
        as_aux_lemma =>
          obtain rfl : nf = k := by omega
          have hz2 := hi.out.trans b2.out
          replace r3 := Lib.hid (r3.out (by rw [hz2]))
          clear hi hz2 r2 a2 b2 d2 hkn hk
          have L0 := k0.cell
          go_wp2
          clear L0
          go_loopw [10] (fun i wr => ∃ k : Nat, k ≤ nm ∧ i = .int .i64 k ∧ Below w.heap.size w wr ∧ Blk wr w.heap.size 61 #[.slice Ap np cp, .slice Af nf cf, .slice Am nm cm] ∧ g3 0 = g3 k) (fun i _ => nm - (intOf i).toNat)
          case atStart => exact ⟨0, Nat.zero_le _, rfl, hb0, k0, rfl⟩
          case round =>
            clear hb0 k0
            obtain ⟨k, hk, rfl, hb0, k0, hi⟩ := hrel
            replace hi := Lib.hid hi
            by_cases hkn : k < nm
            rotate_left
            · obtain rfl : nm = k := by omega
              have hz3 := Lib.hid (show R = (0, 0) by rw [r3.out, hi.out, b3.out])
              have L0 := k0.cell
              go_wp2
              go_ret2
              exact ⟨by rw [hz3.out] <;> rfl, hb0⟩
            have hx : n.ms[k]? = some (n.ms[k]'(by rw [Hm.out]; exact hkn)) := List.getElem?_eq_getElem _
            generalize n.ms[k]'(by rw [Hm.out]; exact hkn) = f at hx
            have hd := Lib.hid (hi.out.trans (a3.out k f hx))
            have hr1 := Lib.hid fun h : e3 k f ≠ 0 => (show R = ((k : Int), e3 k f) by
              have h2 := hd.out
              rw [if_neg h] at h2
              rw [r3.out, h2])
            have hr2 := Lib.hid fun h : e3 k f = 0 => (show g3 0 = g3 (k + 1) by
              have h2 := hd.out
              rwa [if_pos h] at h2)
            have hde := Lib.hid (d3.out k f)
            have hfi := Hn.out.min f (List.mem_of_getElem? hx)
            have hsz := Lib.hid hfi.nm
            have hrl1 := hfi.row.len
            have hie := Lib.hid fun W (hb : Below w.heap.size w W) => r_IndexesErr f.r.l nf f.r.A f.r.c W (hfi.row.sl.below hb) hfi.row.len (by omega)
            obtain ⟨b, off, hA, hc⟩ := Hn.out.msl k f hx
            have hS : Hid (Sl cMd 2 w (some ⟨b, off, none⟩) n.ms) := by rw [← hA]; exact Hn.out.msl
            have hks := Lib.hid fun (j : Nat) (y : Md) (hy : n.ms[j]? = some y) => knownN_step (n.ms.map fun f : Md => f.name) f.name j y.name (by rw [List.getElem?_map, hy]; rfl)
            have hkh := Lib.hid fun (j : Nat) (y : Md) (hy : n.ms[j]? = some y) (hjk : j < k) (h : (y.name.toList == f.name.toList) = true) => knownN_hit (n.ms.map fun f : Md => f.name) f.name j k y.name (by rw [List.getElem?_map, hy]; rfl) hjk h
            have hk0 : Hid (knownB ((n.ms.map fun f : Md => f.name).take 0) f.name = false) := rfl
            obtain ⟨KK, hKK⟩ : ∃ g : Nat → Bool, ∀ j, knownB ((n.ms.map fun f : Md => f.name).take j) f.name = g j := ⟨_, fun _ => rfl⟩
            simp only [hKK] at hde hks hkh hk0
            have hni := Lib.hid fun W : World => r_IsName f.name W hsz.out
            generalize nameB f.name = N at *
            generalize e3 k f = E at *
            generalize idxErr f.r.l nf = X at *
            clear hd hi hKK a3 d3 r3 hx hsz hfi
            subst hA
            have c0 : wr.cell? ⟨b, off + k * 2, none⟩ = some (.string f.name) := by simpa using kcell hb0 (hc 0 _ rfl)
            have c1 : wr.cell? ⟨b, off + k * 2 + 1, none⟩ = some (.slice f.r.A f.r.l.length f.r.c) := kcell hb0 (hc 1 _ rfl)
            clear hc
            generalize hrl : f.r.l.length = rl at *
            replace hrl := Lib.hid hrl
            generalize f.name = fn at *
            generalize f.r.A = rA at *
            generalize f.r.c = rc at *
            have L0 := k0.cell
            go_upto_region 39 with fail
            clear L0
            have k1 := Blk.new wr 71 #[.string fn, .slice rA rl rc]
            replace k0 := k0.alloc (.cells #[.string fn, .slice rA rl rc] 71)
            replace hb0 := bl_al (.cells #[.string fn, .slice rA rl rc] 71) hb0
            clear c0 c1
            generalize wr.alloc (.cells #[.string fn, .slice rA rl rc] 71) = wb at *
            have L1 := k1.cell
            cases N
            · have hE : E = 4 := by rw [hde.out]; simp [fstE, unl]
              subst hE
              have hR := Lib.hid (hr1.out (by decide))
              clear hr1 hr2 hde hS hks hkh hk0
              go_wp2_with fail
              refine (hni.out _).mono ?_
              rintro e w3 ⟨rfl, hb3⟩
              go_wp2
              go_ret2
              exact ⟨by rw [hR.out] <;> rfl, bl_tr hb0 hb3⟩
            go_wp2_with fail
            refine (hni.out _).mono ?_
            rintro e w3 ⟨rfl, hb3⟩
            replace hb0 := bl_tr hb0 hb3
            replace k0 := k0.below hb3
            replace k1 := k1.below hb3
            clear hb3 hni L1
            obtain ⟨wo, rfl⟩ : ∃ wo : World, wo = wr := ⟨_, rfl⟩
            go_wp2
            go_loopw [12] (fun i wi => ∃ j : Nat, j ≤ k ∧ i = .int .i64 j ∧ Below w.heap.size w wi ∧ Blk wi w.heap.size 61 #[.slice Ap np cp, .slice Af nf cf, .slice (some ⟨b, off, none⟩) nm cm] ∧ Blk wi wo.heap.size 71 #[.string fn, .slice rA rl rc] ∧ KK j = false) (fun i _ => k - (intOf i).toNat)
            case atStart => exact ⟨0, Nat.zero_le _, rfl, hb0, k0, k1, hk0.out⟩
            case round =>
              clear hb0 k0 k1
              obtain ⟨j, hj, rfl, hb0, k0, k1, hkj⟩ := hrel
              replace hkj := Lib.hid hkj
              by_cases hjk : j < k
              · have hy : n.ms[j]? = some (n.ms[j]'(by rw [Hm.out]; omega)) := List.getElem?_eq_getElem _
                generalize n.ms[j]'(by rw [Hm.out]; omega) = y at hy
                obtain ⟨b2, off2, e2, hc2⟩ := hS.out j y hy
                cases e2
                have d0 : ∀ W, Below wr.heap.size wr W → W.cell? ⟨b, off + j * 2, none⟩ = some (.string y.name) := later (by simpa using kcell hb0 (hc2 0 _ rfl))
                have hksj := Lib.hid (hks.out j y hy)
                have hkhj := Lib.hid (hkh.out j y hy hjk)
                clear hc2 hy hr2 hS hks hkh
                generalize y.name = yn at *
                have hjn : (j : Int) < nm := by omega
                have hjn2 : j < nm := by omega
                go_upto_region 44 with fail
                have Lk0 := k0.later
                have Fk0 := k0.laterF
                have Qk0 := k0.lt
                have Lk1 := k1.later
                have Fk1 := k1.laterF
                have Qk1 := k1.lt
                refine wp_any (w0 := wr) ⟨[], [], [some 152, some 153, some 154, some 155, some 156, some 157, some 158, some 159, some 160], [[], [0], [], [0, 1, 2], [0, 1, 2, 3], [0, 1, 2, 3, 4], [], [6], [0, 1, 2, 3, 4, 5, 6, 7]], [[], [0], [], [1, 2], [3], [4], [], [6], [5, 7]]⟩ (fun _ => []) (by kernel_rfl) (by kernel_rfl) (by (with_reducible (repeat' (first | assumption | apply jA | apply jB | apply jC | apply jD | apply jE | apply jF | apply hb3 | omega | (simp; done) | (simp; omega) | (dsimp only; omega))))) (fun u => by simp only [putD, Act.put, List.setIfInBounds_toArray, List.set_cons_zero, List.set_cons_succ, Nat.zero_add, Nat.reduceAdd]; rfl) ?_
                apply RGW.on (i := 0) rfl
                · (simp only [gA, gB, gC] <;> rfl)
                · intro γ u W hcur hd
                  clear hd
                  (try dsimp only)
                  refine ⟨rfl, ?_⟩
                  go_simp <;> (try go_bits) <;> with_reducible rfl
                · exact fun _ _ _ => rfl
                · rfl
                dsimp only [nA, cA]
                apply RGW.on (i := 1) rfl
                · (simp only [gA, gB, gC] <;> rfl)
                · intro γ u W hcur hd
                  obtain ⟨⟨h0, -, -⟩, -⟩ := hd
                  dsimp only at h0
                  (try simp only [h0])
                  refine ⟨rfl, ?_⟩
                  go_simp <;> (try go_bits) <;> with_reducible rfl
                · exact fun _ _ _ => rfl
                · rfl
                dsimp only [nA, cA]
                apply RGW.on (i := 2) rfl
                · (simp only [gA, gB, gC] <;> rfl)
                · intro γ u W hcur hd
                  clear hd
                  (try dsimp only)
                  refine ⟨rfl, ?_⟩
                  go_simp <;> (try go_bits) <;> with_reducible rfl
                · exact fun _ _ _ => rfl
                · rfl
                dsimp only [nA, cA]
                apply RGW.on (i := 3) rfl
                · (simp only [gA, gB, gC] <;> rfl)
                · intro γ u W hcur hd
                  obtain ⟨⟨h1, -, -⟩, ⟨h2, -, -⟩, -⟩ := hd
                  dsimp only at h1 h2
                  (try simp only [h1, h2])
                  refine ⟨rfl, ?_⟩
                  go_simp <;> (try go_bits) <;> with_reducible rfl
                · exact fun _ _ _ => rfl
                · rfl
                dsimp only [nA, cA]
                apply RGW.on (i := 4) rfl
                · (simp only [gA, gB, gC] <;> rfl)
                · intro γ u W hcur hd
                  obtain ⟨⟨h3, -, -⟩, -⟩ := hd
                  dsimp only at h3
                  (try simp only [h3])
                  refine ⟨rfl, ?_⟩
                  go_simp <;> (try go_bits) <;> with_reducible rfl
                · exact fun _ _ _ => rfl
                · rfl
                dsimp only [nA, cA]
                apply RGW.on (i := 5) rfl
                · (simp only [gA, gB, gC] <;> rfl)
                · intro γ u W hcur hd
                  obtain ⟨⟨h4, -, -⟩, -⟩ := hd
                  dsimp only at h4
                  (try simp only [h4])
                  refine ⟨rfl, ?_⟩
                  go_simp <;> (try go_bits) <;> with_reducible rfl
                · exact fun _ _ _ => rfl
                · rfl
                dsimp only [nA, cA]
                apply RGW.on (i := 6) rfl
                · (simp only [gA, gB, gC] <;> rfl)
                · intro γ u W hcur hd
                  clear hd
                  (try dsimp only)
                  refine ⟨rfl, ?_⟩
                  go_simp <;> (try go_bits) <;> with_reducible rfl
                · exact fun _ _ _ => rfl
                · rfl
                dsimp only [nA, cA]
                apply RGW.on (i := 7) rfl
                · (simp only [gA, gB, gC] <;> rfl)
                · intro γ u W hcur hd
                  obtain ⟨⟨h6, -, -⟩, -⟩ := hd
                  dsimp only at h6
                  (try simp only [h6])
                  refine ⟨rfl, ?_⟩
                  go_simp <;> (try go_bits) <;> with_reducible rfl
                · exact fun _ _ _ => rfl
                · rfl
                dsimp only [nA, cA]
                apply RGW.on (i := 8) rfl
                · (simp only [gA, gB, gC] <;> rfl)
                · intro γ u W hcur hd
                  obtain ⟨⟨h5, -, -⟩, ⟨h7, -, -⟩, -⟩ := hd
                  dsimp only at h5 h7
                  (try simp only [h5, h7])
                  refine ⟨rfl, ?_⟩
                  go_simp <;> (try go_bits) <;> with_reducible rfl
                · exact fun _ _ _ => rfl
                · rfl
                dsimp only [nA, cA]
                refine RGW.fin (fun γ u wj hwj hd hdis => ?_)
                obtain ⟨⟨h0, -, -⟩, ⟨h1, -, -⟩, ⟨h2, -, -⟩, ⟨h3, -, -⟩, ⟨h4, -, -⟩, ⟨h5, -, -⟩, ⟨h6, -, -⟩, ⟨h7, -, -⟩, ⟨h8, -, -⟩, -⟩ := hd
                dsimp only at h0 h1 h2 h3 h4 h5 h6 h7 h8
                clear hdis
                simp only [h0, h1, h2, h3, h4, h5, h6, h7, h8]
                clear h8 h7 h6 h5 h4 h3 h2 h1 h0
                clear u
                simp only [List.map_nil]
                refine PlanW.done ?_
                have hb3 := bl_tt hwj
                have hbj := bl_tr hb0 hwj
                replace k0 := k0.below hwj
                replace k1 := k1.below hwj
                cases hyx : yn.toList == fn.toList
                · have e3 := Lib.hid (show KK (j + 1) = false by rw [hksj.out, hkj.out, hyx]; rfl)
                  go_wp2
                  go_roundw
                  case rel => exact ⟨j + 1, by omega, by go_num, hbj, k0, k1, e3.out⟩
                  case measure => simp [intOf]; omega
                · have hE : E = 5 := by rw [hde.out, hkhj.out hyx]; simp [fstE, unl]
                  subst hE
                  have hR := Lib.hid (hr1.out (by decide))
                  clear hr1 hde
                  go_wp2
                  go_ret2
                  exact ⟨by rw [hR.out] <;> rfl, hbj⟩
              obtain rfl : k = j := by omega
              clear hks hkh hk0 hS hjk
              have hE : E = X := by
                rw [hde.out, hkj.out]
                simp [fstE, unl]
                exact fun h => h.symm
              replace hE := Lib.hid hE
              have L0 := k0.cell
              have L1 := k1.cell
              clear hde hkj
              go_wp2_with fail
              refine (hie.out _ hb0).mono ?_
              rintro e w4 ⟨rfl, hb4⟩
              replace hb0 := bl_tr hb0 hb4
              replace k0 := k0.below hb4
              clear L0 L1 k1 hb4 hie
              by_cases hX : X = 0
              · have hX' : (X != 0) = false := by simp [hX]
                have hR := Lib.hid (hr2.out (hE.out.trans hX))
                replace hX := Lib.hid hX
                clear hr1 hr2
                go_wp2
                go_roundw
                case rel => exact ⟨k + 1, by omega, by go_num, hb0, k0, hR.out⟩
                case measure => simp [intOf]; omega
              · have hX' : (X != 0) = true := by simp [hX]
                have hR := Lib.hid (hr1.out (by rw [hE.out]; exact hX))
                replace hX := Lib.hid hX
                clear hr1 hr2
                go_wp2
                go_ret2
                exact ⟨by rw [hR.out, hE.out] <;> rfl, hb0⟩
theorem r_NetErr (n : Nt) (Ap Af Am : Option Addr) (cp cf cm : Nat) (w : World) (hn : NtIn n Ap Af Am cp cf cm w) :
    Calls Tryd.prog 36 #[vNt Ap Af Am n.ps.length n.fs.length n.ms.length cp cf cm] w (Ret (.int .i64 (netErr n)) w) := by
  have hc := Lib.hid fun W (hb : Below w.heap.size w W) => r_CheckNet n Ap Af Am cp cf cm W (hn.below hb)
  have he : Hid ((netChk n).2 = netErr n) := rfl
  clear hn
  change Calls Tryd.prog 36 #[.agg #[.slice Ap n.ps.length cp, .slice Af n.fs.length cf, .slice Am n.ms.length cm]] w _
  dsimp only [vNt, aNt] at hc
  generalize netChk n = P at *
  obtain ⟨p, q⟩ := P
  dsimp only at *
  rw [← he.out]
  clear he
  generalize n.ps.length = np at *
  generalize n.fs.length = nf at *
  generalize n.ms.length = nm at *
  go_enter Tryd.func36, Tryd.ntmps36
  go_upto_region 1 with fail
  first
  | apply absB1 (w0 := w) (g0 := w.heap.size)
  | apply absTB1 (w0 := w) (g0 := w.heap.size)
  | apply absIB1 (w0 := w) (g0 := w.heap.size)
  iterate 2 (focus ((with_reducible (repeat' (first | assumption | apply jA | apply jB | apply jC | apply jD | apply jE | apply jF | apply hb3 | apply jG | apply jH | apply jI | apply jJ | apply jK | apply hb3x | (apply jL; first | (simp; done) | rfl) | apply jM | apply jN | apply jO | apply jP | apply jQ | apply jR | apply jS | apply jT (hb := hb3 _ (jA _)) | omega | (simp; done) | (simp; omega) | (dsimp only; omega)))); done))
  intro wa hb0' k0'
  (try simp only [List.setIfInBounds_toArray, List.set_cons_zero, List.set_cons_succ] at k0')
  try clear hb3
  try clear hb0
  try clear k0
  have hb0 := hb0'; clear hb0'
  have k0 := k0'; clear k0'
  have L0 := k0.cell
  go_wp2_with fail
  refine (hc.out wa hb0).mono ?_
  rintro e w3 ⟨rfl, hb3⟩
  replace hb0 := bl_tr hb0 hb3
  go_wp2
  go_ret
  exact ⟨rfl, hb0⟩
end Go.Proofs.YtdlmkblmljhbfaaDoor
namespace Go.Proofs.YtdlmkblmljhbfaaDoor
set_option linter.unusedSimpArgs false
set_option linter.unusedVariables false
theorem setN_bit : ∀ (l : List Int), (∀ x ∈ l, 0 ≤ x) → ∀ k : Nat, (setN l).testBit k = decide ((k : Int) ∈ l) := by
  suffices h : ∀ (l : List Int) (s : Nat), (∀ x ∈ l, 0 ≤ x) → ∀ k : Nat, (l.foldl (fun s n => s ||| 2 ^ n.toNat) s).testBit k = (s.testBit k || decide ((k : Int) ∈ l)) by
    intro l hl k
    have := h l 0 hl k
    simpa [setN] using this
  intro l
  induction l with
  | nil => intro s _ k; simp
  | cons x l ih =>
    intro s hl k
    rw [List.foldl_cons, ih _ (fun y hy => hl y (List.mem_cons_of_mem _ hy)), Nat.testBit_or, Nat.testBit_two_pow]
    have hx := hl x (by simp)
    have e : decide (x.toNat = k) = decide ((k : Int) = x) := by
      apply decide_eq_decide.2
      omega
    rw [e, Bool.or_assoc]
    congr 1
    by_cases e1 : (k : Int) = x <;> by_cases e2 : (k : Int) ∈ l <;> simp [e1, e2]
theorem setN_and {a b : List Int} (ha : ∀ x ∈ a, 0 ≤ x) (hb : ∀ x ∈ b, 0 ≤ x) : (setN a &&& setN b == 0) = a.all fun x => !b.contains x := by
  rw [Bool.eq_iff_iff]
  simp only [beq_iff_eq, List.all_eq_true, Bool.not_eq_true']
  constructor
  · intro h x hx
    rw [Bool.eq_false_iff]
    intro hc
    have hxb : x ∈ b := by simpa using hc
    have h0 := ha x hx
    obtain ⟨k, rfl⟩ : ∃ k : Nat, x = k := ⟨x.toNat, by omega⟩
    have := congrArg (fun n => n.testBit k) h
    simp only [Nat.testBit_and, setN_bit a ha, setN_bit b hb, hx, hxb, decide_true, Bool.and_self, Nat.zero_testBit] at this
    cases this
  · intro h
    apply Nat.eq_of_testBit_eq
    intro k
    rw [Nat.testBit_and, setN_bit a ha, setN_bit b hb, Nat.zero_testBit]
    by_cases hx : (k : Int) ∈ a
    · have := h _ hx
      have hn : (k : Int) ∉ b := fun hm => by
        have : b.contains (k : Int) = true := by simpa using hm
        rw [h _ hx] at this
        cases this
      simp [hn]
    · simp [hx]
/-- A function works after faults, by lists. -/
def wksB (f : Fu) (failed : List Int) : Bool := f.ws.any fun w : Rw => w.l.all fun x => !failed.contains x
def NonNeg (f : Fu) : Prop := ∀ r ∈ f.ws, ∀ x ∈ r.l, (0 : Int) ≤ x
theorem any_congr {α : Type} {l : List α} {p q : α → Bool} (h : ∀ x ∈ l, p x = q x) : l.any p = l.any q := by
  induction l with
  | nil => rfl
  | cons x l ih => rw [List.any_cons, List.any_cons, h x (by simp), ih fun y hy => h y (List.mem_cons_of_mem _ hy)]
theorem wks_works {f : Fu} {failed : List Int} (hf : NonNeg f) (hb : ∀ x ∈ failed, 0 ≤ x) : worksB f (setN failed) = wksB f failed :=
  any_congr fun r hr => setN_and (hf r hr) hb
theorem setL_mem (s : Nat) : ∀ (k : Nat) (x : Int), x ∈ setL s k ↔ ∃ j : Nat, j < k ∧ x = j ∧ s.testBit j = true
  | 0, x => by simp [setL]
  | k + 1, x => by
    rw [setL, List.mem_append, setL_mem s k x]
    constructor
    · rintro (⟨j, h1, h2, h3⟩ | h)
      · exact ⟨j, by omega, h2, h3⟩
      · split at h
        · rename_i hb
          exact ⟨k, by omega, by simpa using h, hb⟩
        · simp at h
    · rintro ⟨j, h1, h2, h3⟩
      by_cases e : j = k
      · subst e
        right
        rw [if_pos h3]
        simpa using h2
      · exact .inl ⟨j, by omega, h2, h3⟩
theorem setL_nonneg (s k : Nat) : ∀ x ∈ setL s k, (0 : Int) ≤ x := fun x hx => by
  obtain ⟨j, -, rfl, -⟩ := (setL_mem s k x).1 hx
  omega
theorem setL_more {s k : Nat} (hs : s < 2 ^ k) : ∀ d, setL s (k + d) = setL s k
  | 0 => rfl
  | d + 1 => by
    rw [← Nat.add_assoc, setL, setL_more hs d, Nat.testBit_lt_two_pow (Nat.lt_of_lt_of_le hs (Nat.pow_le_pow_right (by decide) (by omega)))]
    simp
theorem setL_list {s p : Nat} (hp : p ≤ 10) (hs : s < 2 ^ p) : setL s p = listS s := by
  have := setL_more hs (10 - p)
  rw [show p + (10 - p) = 10 by omega] at this
  exact this.symm
theorem setN_list {s : Nat} (hs : s < 1024) : setN (listS s) = s := by
  apply Nat.eq_of_testBit_eq
  intro k
  have e0 : (setN (listS s)).testBit k = decide ((k : Int) ∈ listS s) := setN_bit _ (setL_nonneg s 10) k
  rw [e0]
  by_cases hb : s.testBit k = true
  · rw [hb, decide_eq_true_eq]
    refine (setL_mem s 10 _).2 ⟨k, ?_, rfl, hb⟩
    apply Nat.lt_of_not_le
    intro hk
    have := Nat.testBit_lt_two_pow (Nat.lt_of_lt_of_le hs (Nat.pow_le_pow_right (n := 2) (by decide) hk))
    rw [this] at hb
    cases hb
  · rw [Bool.not_eq_true] at hb
    rw [hb, decide_eq_false_iff_not]
    intro hm
    obtain ⟨j, -, h2, h3⟩ := (setL_mem s 10 _).1 hm
    have : k = j := by omega
    subst this
    rw [h3] at hb
    cases hb
theorem wks_list {f : Fu} {s : Nat} (hf : NonNeg f) (hs : s < 1024) : wksB f (listS s) = worksB f s := by
  have e : worksB f (setN (listS s)) = wksB f (listS s) := wks_works hf (setL_nonneg s 10)
  rw [← e, setN_list hs]
/-- The indexes of the functions that work. -/
def allK (fs : List Fu) (failed : List Int) : Nat → List Int
  | 0 => []
  | k + 1 => allK fs failed k ++ (match fs[k]? with
    | some f => if wksB f failed then [(k : Int)] else []
    | none => [])
def allS (fs : List Fu) (failed : List Int) : List Int := allK fs failed fs.length
theorem workN_lt (fs : List Fu) (s : Nat) : ∀ k, workN fs s k < 2 ^ k
  | 0 => by simp [workN]
  | k + 1 => by
    have ih := workN_lt fs s k
    have h2 : 2 ^ k < 2 ^ (k + 1) := Nat.pow_lt_pow_right (by decide) (by omega)
    rw [workN]
    split
    · split
      · exact Nat.or_lt_two_pow (by omega) h2
      · omega
    · omega
theorem workN_bit (fs : List Fu) (s : Nat) : ∀ k j, (workN fs s k).testBit j = (decide (j < k) && match fs[j]? with | some f => worksB f s | none => false)
  | 0, j => by simp [workN]
  | k + 1, j => by
    have ih := workN_bit fs s k j
    rw [workN]
    by_cases e : j = k
    · subst e
      cases hf : fs[j]? with
      | none => simp [hf, ih]
      | some f =>
        simp only
        cases hw : worksB f s
        · simp [ih]
        · simp [Nat.testBit_or, ih]
    · have e2 : decide (j < k + 1) = decide (j < k) := decide_eq_decide.2 (by omega)
      rw [e2, ← ih]
      split
      · split
        · rw [Nat.testBit_or, Nat.testBit_two_pow, decide_eq_false (by omega), Bool.or_false]
        · rfl
      · rfl
theorem setL_congr {s t : Nat} : ∀ k, (∀ j, j < k → s.testBit j = t.testBit j) → setL s k = setL t k
  | 0, _ => rfl
  | k + 1, h => by rw [setL, setL, setL_congr k fun j hj => h j (by omega), h k (by omega)]
theorem work_list {fs : List Fu} {failed : List Int} (hf : ∀ f ∈ fs, NonNeg f) (hb : ∀ x ∈ failed, 0 ≤ x) : ∀ k, setL (workN fs (setN failed) fs.length) k = allK fs failed k ∨ fs.length < k
  | 0 => .inl rfl
  | k + 1 => by
    rcases work_list hf hb k with h | h
    · by_cases hk : k < fs.length
      · left
        rw [setL, allK, h, workN_bit, decide_eq_true hk, Bool.true_and, List.getElem?_eq_getElem hk]
        simp only
        have e := wks_works (hf _ (List.getElem_mem hk)) hb
        simp only [e]
      · exact .inr (by omega)
    · exact .inr (by omega)
theorem list_all {fs : List Fu} {failed : List Int} (h10 : fs.length ≤ 10) (hf : ∀ f ∈ fs, NonNeg f) (hb : ∀ x ∈ failed, 0 ≤ x) : listS (workN fs (setN failed) fs.length) = allS fs failed := by
  rw [← setL_list h10 (workN_lt fs (setN failed) fs.length)]
  rcases work_list hf hb fs.length with h | h
  · exact h
  · omega
/-! ### The smallest failures. -/
/-- The reference's search: whether one was found, and the best so far. -/
def rcut (f : Fu) (p : Nat) : Nat → Bool × List Int
  | 0 => (false, [])
  | k + 1 =>
    let r := rcut f p k
    if !wksB f (setL k p) && (!r.1 || decide ((setL k p).length < r.2.length) || (decide ((setL k p).length = r.2.length) && lexB (setL k p) r.2)) then (true, setL k p) else r
theorem full_bit {p j : Nat} : (2 ^ p - 1).testBit j = decide (j < p) := Nat.testBit_two_pow_sub_one p j
theorem size_full {s p : Nat} (hp : p ≤ 10) (hs : s < 2 ^ p - 1) : sizeS s < sizeS (2 ^ p - 1) := by
  have key : ∀ p : Nat, p ≤ 10 → ∀ s : Nat, s < 2 ^ p - 1 → sizeS s < sizeS (2 ^ p - 1) := by
    intro p
    match p with
    | 0 => decide +kernel
    | 1 => decide +kernel
    | 2 => decide +kernel
    | 3 => decide +kernel
    | 4 => decide +kernel
    | 5 => decide +kernel
    | 6 => decide +kernel
    | 7 => decide +kernel
    | 8 => decide +kernel
    | 9 => decide +kernel
    | 10 => decide +kernel
    | n + 11 => intro h; omega
  exact key p hp s hs
theorem rcut_inv {f : Fu} {p : Nat} (hp : p ≤ 10) (hf : NonNeg f) : ∀ k, k ≤ 2 ^ p →
    (rcut f p k = (false, []) ∧ cutTo f (2 ^ p - 1) k = 2 ^ p - 1 ∧ ∀ j, j < k → worksB f j = true) ∨ rcut f p k = (true, listS (cutTo f (2 ^ p - 1) k))
  | 0, _ => .inl ⟨rfl, rfl, fun j hj => by omega⟩
  | k + 1, hk => by
    have h1024 : 2 ^ p ≤ 1024 := Nat.le_trans (Nat.pow_le_pow_right (by decide) hp) (by decide)
    have e1 : setL k p = listS k := setL_list hp (by omega)
    have e2 : wksB f (setL k p) = worksB f k := by rw [e1]; exact wks_list hf (by omega)
    rw [rcut, cutTo, e2]
    rcases rcut_inv hp hf k (by omega) with ⟨h1, h2, h3⟩ | h1
    · rw [h1, h2]
      cases hw : worksB f k
      · right
        simp only [Bool.not_false, Bool.true_or, Bool.and_self, if_true]
        by_cases hF : k = 2 ^ p - 1
        · rw [← hF]
          simp [e1]
        · have : smallB k (2 ^ p - 1) = true := by
            unfold smallB
            rw [decide_eq_true (size_full hp (by omega)), Bool.true_or]
          rw [this]
          simp [e1]
      · left
        refine ⟨by simp, by simp, fun j hj => ?_⟩
        by_cases e : j = k
        · rw [e]; exact hw
        · exact h3 j (by omega)
    · right
      rw [h1]
      simp only [Bool.not_true, Bool.false_or, e1]
      have e3 : (decide ((listS k).length < (listS (cutTo f (2 ^ p - 1) k)).length) || (decide ((listS k).length = (listS (cutTo f (2 ^ p - 1) k)).length) && lexB (listS k) (listS (cutTo f (2 ^ p - 1) k)))) = smallB k (cutTo f (2 ^ p - 1) k) := rfl
      rw [e3, Bool.and_comm]
      split <;> rfl
/-- A function that some failures can stop. -/
def Stops (f : Fu) (p : Nat) : Prop := worksB f (2 ^ p - 1) = false
theorem rcut_end {f : Fu} {p : Nat} (hp : p ≤ 10) (hf : NonNeg f) (hs : Stops f p) : rcut f p (2 ^ p) = (true, listS (cutS f p)) := by
  rcases rcut_inv hp hf (2 ^ p) (Nat.le_refl _) with ⟨-, -, h⟩ | h
  · have := Nat.two_pow_pos p
    have := h (2 ^ p - 1) (by omega)
    rw [hs] at this
    cases this
  · exact h
theorem stops_of {f : Fu} {p : Nat} (hw : ∀ r ∈ f.ws, 0 < r.l.length ∧ ∀ x ∈ r.l, 0 ≤ x ∧ x < p) : Stops f p := by
  unfold Stops worksB
  rw [List.any_eq_false]
  intro r hr h
  obtain ⟨h1, h2⟩ := hw r hr
  have hx := List.getElem_mem (l := r.l) (n := 0) h1
  have h3 := h2 _ hx
  have h4 := congrArg (fun n => n.testBit (r.l[0]).toNat) (beq_iff_eq.1 h)
  simp only [Nat.testBit_and, setN_bit r.l (fun x hx => (h2 x hx).1), full_bit, Nat.zero_testBit] at h4
  have h5 : (((r.l[0]).toNat : Nat) : Int) = r.l[0] := by omega
  rw [h5] at h4
  simp only [hx, decide_true, Bool.true_and, decide_eq_false_iff_not] at h4
  omega
end Go.Proofs.YtdlmkblmljhbfaaDoor
namespace Go.Proofs.YtdlmkblmljhbfaaDoor
set_option linter.unusedSimpArgs false
set_option linter.unusedVariables false
open Go.RowKit Go.Shelf
attribute [local go_sem] bl_al bl_drew bl_drewN bl_refl bx_al bx_drew bx_drewN bx_refl
set_option maxRecDepth 20000
/-- Whether a stream is late behind others. -/
def lateB (b : List Sm) (s : Sm) : Bool := !(respV (respS b s)).2 || decide (s.dl < (respV (respS b s)).1)
def lateAt (l : List Sm) (i : Nat) : Bool := match l[i]? with
  | some s => lateB (l.take i) s
  | none => false
def lateK (l : List Sm) : Nat → List Int
  | 0 => []
  | k + 1 => lateK l k ++ if lateAt l k then [(k : Int)] else []
theorem lateK_len (l : List Sm) : ∀ k, (lateK l k).length ≤ k
  | 0 => Nat.le_refl 0
  | k + 1 => by
    have := lateK_len l k
    rw [lateK, List.length_append]
    split <;> simp <;> omega
theorem c_isLate (l : List Sm) (s : Sm) (A : Option Addr) (c : Nat) (w : World) (hs : Sl cSm 4 w A l) (hl : l.length ≤ 1000) (hok : ∀ o ∈ l, OkSm o) (h1 : OkSm s) :
    Calls Tryd.prog 99 #[.slice A l.length c, vSm s] w (Ret (.bool (lateB l s)) w) := by
  have hr := Lib.hid fun W (hb : Below w.heap.size w W) => c_response l s A c W (hs.below hb) hl hok h1
  have hL : Hid (lateB l s = (!(respV (respS l s)).2 || decide (s.dl < (respV (respS l s)).1))) := rfl
  clear hs hok h1
  generalize respV (respS l s) = R at *
  obtain ⟨r, ok⟩ := R
  obtain ⟨nm, per, dl, ln⟩ := s
  dsimp only at *
  generalize l.length = n at *
  go_enter Tryd.func99, Tryd.ntmps99
  go_upto_region 1 with fail
  first
  | apply absB1 (w0 := w) (g0 := w.heap.size)
  | apply absTB1 (w0 := w) (g0 := w.heap.size)
  | apply absIB1 (w0 := w) (g0 := w.heap.size)
  iterate 2 (focus ((with_reducible (repeat' (first | assumption | apply jA | apply jB | apply jC | apply jD | apply jE | apply jF | apply hb3 | apply jG | apply jH | apply jI | apply jJ | apply jK | apply hb3x | (apply jL; first | (simp; done) | rfl) | apply jM | apply jN | apply jO | apply jP | apply jQ | apply jR | apply jS | apply jT (hb := hb3 _ (jA _)) | omega | (simp; done) | (simp; omega) | (dsimp only; omega)))); done))
  intro wa hb0' k0'
  (try simp only [List.setIfInBounds_toArray, List.set_cons_zero, List.set_cons_succ] at k0')
  try clear hb3
  try clear hb0
  try clear k0
  have hb0 := hb0'; clear hb0'
  have k0 := k0'; clear k0'
  have L0 := k0.cell
  go_wp2_with fail
  refine (hr.out wa hb0).mono ?_
  rintro e wb ⟨rfl, hb1⟩
  replace hb0 := bl_tr hb0 hb1
  replace k0 := k0.below hb1
  clear L0 hb1 hr
  have L0 := k0.cell
  cases ok
  · go_wp2
    go_ret
    exact ⟨by rw [hL.out] <;> rfl, hb0⟩
  · go_wp2
    go_ret
    exact ⟨by rw [hL.out] <;> rfl, hb0⟩
set_option maxHeartbeats 4000000 in
theorem c_LateIn (l : List Sm) (A : Option Addr) (c : Nat) (w : World) (hn : SmIn l A c w) :
    Calls Tryd.prog 45 #[.slice A l.length c] w (fun e w' => Below w.heap.size w w' ∧ ((smsErr l ≠ 0 ∧ e = .returned (.tuple #[.slice none 0 0, .int .i64 (smsErr l)])) ∨
      (smsErr l = 0 ∧ ∃ A2 c2, e = .returned (.tuple #[.slice A2 (lateK l l.length).length c2, .int .i64 0]) ∧ Sl cI 1 w' A2 (lateK l l.length)))) := by
  obtain ⟨i0, hi, hz0, hz1, hz2⟩ := info_parts infoI
  have hse := Lib.hid (c_streamsErr l A c w hn)
  have hok := Lib.hid fun h : smsErr l = 0 => sms_ok h
  have Hs := Lib.hid hn.sl
  have hcap := hn.cap
  have hil := Lib.hid fun (h : smsErr l = 0) (k : Nat) (x : Sm) (hx : l[k]? = some x) W (hb : Below w.heap.size w W) => (show Calls Tryd.prog 99 #[.slice A k c, vSm x] W (Ret (.bool (lateAt l k)) W) by
    have hk := (List.getElem?_eq_some_iff.1 hx).1
    have hm := List.mem_of_getElem? hx
    have := c_isLate (l.take k) x A c W ((hn.sl.below hb).take k) (by have := hn.len; rw [List.length_take]; omega) (fun o ho => ((sms_ok h).2.2 o (List.mem_of_mem_take ho)).1) ((sms_ok h).2.2 x hm).1
    rw [List.length_take, Nat.min_eq_left (by omega)] at this
    have e : lateAt l k = lateB (l.take k) x := by simp [lateAt, hx]
    rw [e]
    exact this)
  have hst : Hid (∀ k, lateK l (k + 1) = lateK l k ++ if lateAt l k then [(k : Int)] else []) := fun _ => rfl
  have hlen := Lib.hid (lateK_len l)
  have hz : Hid (lateK l 0 = []) := rfl
  clear hn
  obtain ⟨g, hg⟩ : ∃ g : Nat → List Int, ∀ k, lateK l k = g k := ⟨_, fun _ => rfl⟩
  obtain ⟨la, hla⟩ : ∃ la : Nat → Bool, ∀ k, lateAt l k = la k := ⟨_, fun _ => rfl⟩
  simp only [hg, hla] at hst hlen hz hil ⊢
  clear hg hla
  generalize smsErr l = E at *
  obtain ⟨n, Hn⟩ : ∃ n, Hid (l.length = n) := ⟨_, rfl⟩
  rw [Hn.out] at hse hok hcap ⊢
  go_enter Tryd.func45, Tryd.ntmps45
  go_wp2_with fail
  refine hse.out.mono ?_
  rintro e wa ⟨rfl, hb0⟩
  by_cases h0 : E = 0
  rotate_left
  · have h0' : (E != 0) = true := by simp [h0]
    replace h0 := Lib.hid h0
    go_wp2
    go_ret2
    exact ⟨hb0, .inl ⟨h0.out, rfl⟩⟩
  obtain ⟨hn1, hn6, -⟩ := hok.out h0
  have hil' := Lib.hid (hil.out h0)
  have h0' : (E != 0) = false := by simp [h0]
  replace h0 := Lib.hid h0
  clear hse hok hil
  go_wp2
  go_loopw [5, 15] (fun o i wr => ∃ k : Nat, k ≤ n ∧ i = .int .i64 k ∧ Below w.heap.size w wr ∧ wr.ownsRow w.heap.size 3 1 o (g k).length ((g k).map (.int .i64))) (fun _ i _ => n - (intOf i).toNat)
  case atStart => exact ⟨0, Nat.zero_le _, rfl, hb0, by rw [hz.out]; exact World.ownsRow_nil _ _ _ _⟩
  case round =>
    clear hb0
    obtain ⟨k, hk, rfl, hb0, ho⟩ := hrel
    replace ho := Lib.hid ho
    by_cases hkn : k < n
    · have hx : l[k]? = some (l[k]'(by rw [Hn.out]; exact hkn)) := List.getElem?_eq_getElem _
      generalize l[k]'(by rw [Hn.out]; exact hkn) = x at hx
      have hcall := Lib.hid (hil'.out k x hx)
      have hs := Lib.hid (hst.out k)
      obtain ⟨b, off, rfl, hc⟩ := (Hs.out.below hb0) k x hx
      have c0 := hc 0 _ rfl
      have c1 := hc 1 _ rfl
      have c2 := hc 2 _ rfl
      have c3 := hc 3 _ rfl
      simp only [Nat.add_zero] at c0
      clear hc hx
      obtain ⟨xn, xp, xd, xl⟩ := x
      dsimp only at *
      generalize la k = lk at *
      have hqw := hb0.size
      have hgl := hlen.out k
      have hkc : k ≤ c := by omega
      go_upto_region 8 with fail
      have hbm : Below wr.heap.size wr (wr.alloc (.cells #[.string xn, .int .i64 xp, .int .i64 xd, .int .i64 xl] 82)) := bl_al _ (bl_refl wr)
      replace ho := Lib.hid (own_below ho.out hbm)
      have k1 := Blk.new wr 82 #[.string xn, .int .i64 xp, .int .i64 xd, .int .i64 xl]
      replace hb0 := bl_tr hb0 hbm
      clear hbm c0 c1 c2 c3
      generalize wr.alloc (.cells #[.string xn, .int .i64 xp, .int .i64 xd, .int .i64 xl] 82) = wb at *
      have Lk1 := k1.later
      have Fk1 := k1.laterF
      have Qk1 := k1.lt
      refine wp_any (w0 := wb) ⟨[], [], [some 20, some 21, some 22, some 23, some 24], [[], [], [0, 1], [], [0, 1, 2, 3]], [[], [], [0, 1], [], [2, 3]]⟩ (fun _ => []) (by kernel_rfl) (by kernel_rfl) (by (with_reducible (repeat' (first | assumption | apply jA | apply jB | apply jC | apply jD | apply jE | apply jF | apply hb3 | omega | (simp; done) | (simp; omega) | (dsimp only; omega))))) (fun u => by simp only [putD, Act.put, List.setIfInBounds_toArray, List.set_cons_zero, List.set_cons_succ, Nat.zero_add, Nat.reduceAdd]; rfl) ?_
      apply RGW.on (i := 0) rfl
      · (simp only [gA, gB, gC] <;> rfl)
      · intro γ u W hcur hd
        clear hd
        (try dsimp only)
        refine ⟨rfl, ?_⟩
        go_simp <;> (try go_bits) <;> with_reducible rfl
      · exact fun _ _ _ => rfl
      · rfl
      dsimp only [nA, cA]
      apply RGW.on (i := 1) rfl
      · (simp only [gA, gB, gC] <;> rfl)
      · intro γ u W hcur hd
        clear hd
        (try dsimp only)
        refine ⟨rfl, ?_⟩
        go_simp <;> (try go_bits) <;> with_reducible rfl
      · exact fun _ _ _ => rfl
      · rfl
      dsimp only [nA, cA]
      apply RGW.on (i := 2) rfl
      · (simp only [gA, gB, gC] <;> rfl)
      · intro γ u W hcur hd
        obtain ⟨⟨h0, -, -⟩, ⟨h1, -, -⟩, -⟩ := hd
        dsimp only at h0 h1
        (try simp only [h0, h1])
        refine ⟨rfl, ?_⟩
        go_simp <;> (try go_bits) <;> with_reducible rfl
      · exact fun _ _ _ => rfl
      · rfl
      dsimp only [nA, cA]
      apply RGW.on (i := 3) rfl
      · (simp only [gA, gB, gC] <;> rfl)
      · intro γ u W hcur hd
        clear hd
        (try dsimp only)
        refine ⟨rfl, ?_⟩
        go_simp <;> (try go_bits) <;> with_reducible rfl
      · exact fun _ _ _ => rfl
      · rfl
      dsimp only [nA, cA]
      apply RGW.call (i := 4) rfl
      · (simp only [gA, gB, gC] <;> rfl)
      · intro γ u W hcur hd
        obtain ⟨⟨h2, -, -⟩, ⟨h3, -, -⟩, -⟩ := hd
        dsimp only at h2 h3
        (try simp only [h2, h3])
        refine ⟨rfl, fun K hK => ?_⟩
        go_simp
        (go_at_call 99; (with_reducible refine (hcall.out _ (bl_tr hb0 (by (with_reducible (repeat' (first | assumption | apply jA | apply jB | apply jC | apply jD | apply jE | apply jF | apply hb3 | omega | (simp; done) | (simp; omega) | (dsimp only; omega))))))).mono ?_); rintro e w3 ⟨rfl, hb3⟩; replace hb3 := bl_tt hb3)
        (try dsimp only)
        exact hK.out _ _ rfl (by (with_reducible (repeat' (first | assumption | apply jA | apply jB | apply jC | apply jD | apply jE | apply jF | apply hb3 | omega | (simp; done) | (simp; omega) | (dsimp only; omega)))))
      · exact fun _ _ _ => rfl
      · rfl
      dsimp only [nA, cA]
      refine RGW.fin (fun γ u wc hwc hd hdis => ?_)
      obtain ⟨⟨h0, -, -⟩, ⟨h1, -, -⟩, ⟨h2, -, -⟩, ⟨h3, -, -⟩, ⟨h4, -, -⟩, -⟩ := hd
      dsimp only at h0 h1 h2 h3 h4
      clear hdis
      simp only [h0, h1, h2, h3, h4]
      clear h4 h3 h2 h1 h0
      clear u
      simp only [List.map_nil]
      refine PlanW.done ?_
      have hb3 := bl_tt hwc
      replace ho := Lib.hid (own_below ho.out hwc)
      replace hb0 := bl_tr hb0 hwc
      clear hb3 hwc Lk1 Fk1 k1 hcall
      cases lk
      · have e2 := Lib.hid (show g (k + 1) = g k by rw [hs.out]; simp)
        go_wp2
        go_roundw
        case rel => exact ⟨k + 1, by omega, by go_num, hb0, by rw [e2.out]; exact ho.out⟩
        case measure => simp [intOf] <;> omega
      · have e2 := Lib.hid (show g (k + 1) = g k ++ [(k : Int)] by rw [hs.out]; simp)
        have hsz := hb0.size
        go_wp2_with (at_builtin; refine wpList_append_own _ rfl _ _ 22 rfl w.heap.size 3 i0 (.int .i64 0) 1 8 Tryd.underlying22 hi hz0 hz1 hz2 rfl (by decide) _ _ _ rfl (ho.out.alloc _) ⟨wc.heap.size, 0, none⟩ 1 1 [.int .i64 k] rfl rfl ?q1 ?q2 ?q3 ?q4 ?q5 ?_)
        case q2 => rfl
        case q3 => unfold maxLen; omega
        case q4 => omega
        case q5 => omega
        intro v' w1 hown' hgrow _
        have hb1 : Below w.heap.size w w1 := (bl_al _ hb0).grown hgrow (by simp; omega) (own_ge ho.out)
        clear hgrow
        replace hown' := Lib.hid hown'
        go_wp2
        go_roundw
        case rel => exact ⟨k + 1, by omega, by go_num, hb1, by rw [e2.out]; simpa using hown'.out⟩
        case measure => simp [intOf] <;> omega
    · have e : k = n := by omega
      rw [e] at ho
      obtain ⟨A', c', e2⟩ := own_slice ho.out
      subst e2
      clear e
      go_wp2
      go_ret2
      exact ⟨hb0, .inr ⟨h0.out, A', c', rfl, own_sl ho.out⟩⟩
set_option maxHeartbeats 4000000 in
theorem c_WorstFrom (l : List Sm) (st : List Int) (t : Int) (Al As : Option Addr) (cl cs : Nat) (w : World) (hl : SmIn l Al cl w) (hs : Sl cI 1 w As st) (hsl : st.length ≤ 100000) :
    Calls Tryd.prog 43 #[.slice Al l.length cl, .slice As st.length cs, .int .i64 t] w (fun e w' => Below w.heap.size w w' ∧
      ((stE l st t ≠ 0 ∧ e = .returned (.tuple #[.slice none 0 0, .int .i64 (stE l st t)])) ∨
        (stE l st t = 0 ∧ ∃ A, e = .returned (.tuple #[.slice A l.length l.length, .int .i64 0]) ∧ Sl cI 1 w' A ((List.range l.length).map (runS prioS l st t.toNat).1.wo)))) := by
  have hop := Lib.hid (c_openSender l st t Al As cl cs w hl hs hsl)
  have hrun := Lib.hid fun (S Bw T : Nat) (W : World) (h0 : stE l st t = 0) (hT : t = T) (hb : Below w.heap.size w W) (h : Snd w.heap.size S Bw (.slice Al l.length cl) (.slice As st.length cs) l.length ⟨fun _ => none, fun _ => 0⟩ ss0 W) =>
    (c_run 97 prioS l st T Al As cl cs S Bw ⟨fun _ => none, fun _ => 0⟩ w W (stE_ok h0).1 (by have := (stE_ok h0).2; omega) hb hl.sl hs h (enters_of Tryd.func97 (by kernel_rfl) rfl)
      (fun Q s W' h' => c_byPriority h') prioS_cr)
  have hok := Lib.hid fun h0 => (stE_ok (l := l) (st := st) (t := t) h0).2
  clear hl hs
  generalize stE l st t = e3 at *
  generalize l.length = n at *
  generalize st.length = m at *
  go_enter Tryd.func43, Tryd.ntmps43
  go_wp2_with fail
  refine hop.out.mono ?_
  rintro e w1 ⟨hb1, ⟨h0, rfl⟩ | ⟨h0, S, Bw, rfl, hS⟩⟩
  · clear hrun hok hop
    go_wp2
    go_ret2
    exact ⟨hb1, .inl ⟨h0, rfl⟩⟩
  · obtain ⟨ht0, -⟩ := hok.out h0
    obtain ⟨T, rfl⟩ : ∃ T : Nat, t = T := ⟨t.toNat, by omega⟩
    have hr := Lib.hid (hrun.out S Bw T w1 h0 rfl hb1 hS)
    have hft := Lib.hid hS.foot_ge
    replace h0 := Lib.hid h0
    clear hop hrun hok hS
    go_wp2_with fail
    refine hr.out.mono ?_
    rintro e w2 ⟨A, c, rfl, hown, Q', hS2, hx⟩
    have hb2 := bx_below hb1 hx (fun x hx => (hft.out x hx).1)
    have LS : w2.cell? ⟨S, 8, none⟩ = some (.slice (some ⟨Bw, 0, none⟩) n n) := by rw [hS2.blk.cell]; rfl
    have hwo := hS2.wor
    have hsl2 : Hid (Sl cI 1 w2 (some ⟨Bw, 0, none⟩) ((List.range n).map (runS prioS l st T).1.wo)) := Lib.hid (Blk.ints (l := (List.range n).map (runS prioS l st T).1.wo) (by
      rw [List.map_map]
      exact hwo))
    clear hr hft hx hS2 hwo hown
    go_wp2
    go_ret2
    exact ⟨hb2, .inr ⟨h0.out, _, rfl, hsl2.out⟩⟩
/-- The error of starts and ticks behind valid streams. -/
def stE0 (l : List Sm) (st : List Int) (t : Int) : Int := fstE [unl (decide ((st.length : Int) = l.length)) 10, (eachS (fun _ n => unl (inR n 0 400) 2) st 0).2, unl (inR t 0 400) 2]
theorem stE_eq0 {l : List Sm} {st : List Int} {t : Int} (h : smsErr l = 0) : stE l st t = stE0 l st t := by
  unfold stE stE0
  simp only [fstE, h, if_true]
  by_cases h1 : unl (decide ((st.length : Int) = l.length)) 10 = 0
  · simp only [h1, if_true]
  · simp only [h1, if_false]
end Go.Proofs.YtdlmkblmljhbfaaDoor
namespace Go.Proofs.YtdlmkblmljhbfaaDoor
set_option linter.unusedSimpArgs false
set_option linter.unusedVariables false
open Go.RowKit
set_option maxRecDepth 20000
/-- The blocks of two slices of the call's own are not one. -/
def Dis (u v : Value) : Prop := ∀ k, u.ownBlock = some k → v.ownBlock ≠ some k
theorem Dis.symm {u v : Value} (h : Dis u v) : Dis v u := fun k hk hu => h k hu hk
theorem dis_nil (v : Value) : Dis (.slice none 0 0) v := fun k hk => by simp [Value.ownBlock] at hk
section
variable {P : Program} {w : World}
theorem run_append_own2 (base : Nat) (t ty e : TypeId) (i : TypeInfo) (z : Value) (size bytes : Nat) (ht : P.underlying t = some (.slice e)) (hi : P.info? e = some i) (hz : i.zero = some z)
    (hsize : i.size = size) (hby : i.bytes = bytes) (hzs : z.cells.size = size) (hsz : 0 < size)
    (v : Value) (n : Nat) (xs : List Value) (hown : w.ownsRow base e size v n xs)
    (a : Addr) (m c : Nat) (news : List Value) (hl : news.length = m * size) (hnews : ∀ j u, news[j]? = some u → w.cell? (a.add j) = some u) (h1 : ∀ u ∈ news, u.oneCell' = true)
    (h63 : n + m ≤ maxLen) (hbytes : (n + m) * bytes ≤ 140737488355328) (hbase : base ≤ w.heap.size) :
    ∃ v' w', (Builtin.append_ #[t, t] ty #[v, .slice (some a) m c]).run P w = .ok v' w' ∧ w'.ownsRow base e size v' (n + m) (xs ++ news) ∧ w.grownBy w' v.ownBlock ∧
      ∀ k, v'.ownBlock = some k → v.ownBlock = some k ∨ w.heap.size ≤ k := by
  obtain ⟨v', w', hr, h2, h3, h4⟩ := run_append_own (P := P) w base t ty e i z size bytes ht hi hz hsize hby hzs hsz v n xs hown a m c news hl hnews h1 h63 hbytes hbase
  refine ⟨v', w', hr, h2, h3, ?_⟩
  rcases hown.2 with ⟨rfl, rfl⟩ | ⟨g, cap, cur, rfl, hbg, hg, hnc, hcm, hcs, htake⟩
  · have hx : xs = [] := List.eq_nil_of_length_eq_zero (by simpa using hown.1)
    subst hx
    obtain ⟨v2, w2, hr2, h5, -, -⟩ := run_append_own (P := P) w w.heap.size t ty e i z size bytes ht hi hz hsize hby hzs hsz _ 0 [] (World.ownsRow_nil _ _ _ _) a m c news hl hnews h1 h63 hbytes (Nat.le_refl _)
    rw [hr] at hr2
    injection hr2 with e1 e2
    subst e1 e2
    exact fun k hk => .inr (own_ge h5 k hk)
  · subst hsize
    by_cases hroom : n + m ≤ cap
    · have hfit : n * i.size + news.length ≤ cur.size := by rw [hl, hcs, ← Nat.add_mul]; exact Nat.mul_le_mul_right _ hroom
      have hr2 := run_append_room (P := P) w t ty e i ht hi g n cap cur hg a m c news hl hnews h1 hroom hfit
      rw [hr] at hr2
      injection hr2 with e1 e2
      subst e1
      exact fun k hk => .inl (by simpa [Value.ownBlock] using hk)
    · have holds : ∀ j u, xs[j]? = some u → w.cell? ((⟨g, 0, none⟩ : Addr).add j) = some u := hown.cells (g := g) rfl
      have hsmall : n + m ≤ 9223372036854775807 := by simp only [maxLen] at h63; omega
      subst hby
      have hr2 := run_append_grow (P := P) w t ty e i z ht hi hz ⟨g, 0, none⟩ n cap xs hown.1 holds a m c news hl hnews (by omega) (by omega) (growslice_fits (by omega) hbytes)
      rw [hr] at hr2
      injection hr2 with e1 e2
      subst e1
      exact fun k hk => .inr (by simp [Value.ownBlock] at hk; omega)
theorem wpList_append_own2 {ops : Array Oper} {rest : List Oper} {o : Oper} {a : Act} {Q : Exit → Act → World → Prop} (hgd : o.guard = none) (s x : Operand) (t : TypeId)
    (ho : o.op = .call { callee := .builtin .append, args := #[s, x], argTypes := #[t, t] })
    (base : Nat) (e : TypeId) (i : TypeInfo) (z : Value) (size bytes : Nat) (ht : P.underlying t = some (.slice e)) (hi : P.info? e = some i) (hz : i.zero = some z)
    (hsize : i.size = size) (hby : i.bytes = bytes) (hzs : z.cells.size = size) (hsz : 0 < size)
    (v : Value) (n : Nat) (xs : List Value) (hs : a.eval s = v) (hown : w.ownsRow base e size v n xs)
    (ad : Addr) (m c : Nat) (news : List Value) (hx : a.eval x = .slice (some ad) m c) (hl : news.length = m * size) (hnews : ∀ j u, news[j]? = some u → w.cell? (ad.add j) = some u) (h1 : ∀ u ∈ news, u.oneCell' = true)
    (h63 : n + m ≤ maxLen) (hbytes : (n + m) * bytes ≤ 140737488355328) (hbase : base ≤ w.heap.size)
    (h : ∀ v' w', w'.ownsRow base e size v' (n + m) (xs ++ news) → w.grownBy w' v.ownBlock → (∀ k, v'.ownBlock = some k → v.ownBlock = some k ∨ w.heap.size ≤ k) → wpList P ops Q rest (a.put o.dst v') w') : wpList P ops Q (o :: rest) a w := by
  refine wpList_plain hgd fun _ hK => ?_
  obtain ⟨v', w', hr, h2, h3, h4⟩ := run_append_own2 (P := P) base t o.type e i z size bytes ht hi hz hsize hby hzs hsz v n xs hown ad m c news hl hnews h1 h63 hbytes hbase
  unfold Oper.wp execOp
  simp only [ho, resolve, invoke, builtin, Sem.run_bind, Sem.run_pure, Result.andThen_ok, List.map_toArray, List.map_cons, List.map_nil, hs, hx, hr]
  exact hK _ _ (h v' w' h2 h3 h4)
end
/-- Three slices of integers of the call's own, in blocks of their own. -/
structure Row3 (D : Nat) (u v x : Value) (A B C : List Int) (w : World) : Prop where
  a : w.ownsRow D 3 1 u A.length (A.map (.int .i64))
  b : w.ownsRow D 3 1 v B.length (B.map (.int .i64))
  c : w.ownsRow D 3 1 x C.length (C.map (.int .i64))
  ab : Dis u v
  ac : Dis u x
  bc : Dis v x
  ge : D ≤ w.heap.size
theorem kept2 {D n m : Nat} {u v : Value} {xs ys : List Value} {e : TypeId} {size : Nat} {w w' : World} (h : w.ownsRow D e size v m ys) (hg : w.grownBy w' u.ownBlock) (hd : Dis u v) : w'.ownsRow D e size v m ys :=
  h.kept hg (by
    cases hv : v.ownBlock with
    | none => exact .inl rfl
    | some k =>
      refine .inr fun e => ?_
      exact hd k e.symm hv)
theorem dis_new {D n : Nat} {u u' v : Value} {ys : List Value} {e : TypeId} {size : Nat} {w : World} (h : w.ownsRow D e size v n ys) (hd : Dis u v) (hu : ∀ k, u'.ownBlock = some k → u.ownBlock = some k ∨ w.heap.size ≤ k) : Dis u' v := fun k hk hv => by
  rcases hu k hk with h1 | h1
  · exact hd k h1 hv
  · have := (h.lt k hv).2
    omega
theorem Row3.nil {D : Nat} {w : World} (h : D ≤ w.heap.size) : Row3 D (.slice none 0 0) (.slice none 0 0) (.slice none 0 0) [] [] [] w :=
  ⟨World.ownsRow_nil _ _ _ _, World.ownsRow_nil _ _ _ _, World.ownsRow_nil _ _ _ _, dis_nil _, dis_nil _, dis_nil _, h⟩
theorem Row3.below {D : Nat} {u v x : Value} {A B C : List Int} {w w' : World} (h : Row3 D u v x A B C w) (hb : Below w.heap.size w w') : Row3 D u v x A B C w' :=
  ⟨own_below h.a hb, own_below h.b hb, own_below h.c hb, h.ab, h.ac, h.bc, Nat.le_trans h.ge hb.size⟩
theorem Row3.appA {D : Nat} {u u' v x : Value} {A B C : List Int} {y : Int} {w w' : World} (h : Row3 D u v x A B C w) (ho : w'.ownsRow D 3 1 u' (A.length + 1) (A.map (.int .i64) ++ [.int .i64 y])) (hg : w.grownBy w' u.ownBlock)
    (hu : ∀ k, u'.ownBlock = some k → u.ownBlock = some k ∨ w.heap.size ≤ k) : Row3 D u' v x (A ++ [y]) B C w' :=
  ⟨by simpa using ho, kept2 (n := 0) (xs := []) h.b hg h.ab, kept2 (n := 0) (xs := []) h.c hg h.ac, dis_new h.b h.ab hu, dis_new h.c h.ac hu, h.bc, Nat.le_trans h.ge hg.size⟩
theorem Row3.rot {D : Nat} {u v x : Value} {A B C : List Int} {w : World} (h : Row3 D u v x A B C w) : Row3 D v x u B C A w := ⟨h.b, h.c, h.a, h.bc, h.ab.symm, h.ac.symm, h.ge⟩
end Go.Proofs.YtdlmkblmljhbfaaDoor
