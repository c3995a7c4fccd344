/-
  Walk: strings.Split at a separator of one byte.
  A region that draws its order, in whatever order, of which one operation (m) may turn some old blocks (M) that no other operation looks at, and which ends in a tail that waits for all else.
  A region that draws its order, of which one operation (m) may turn some old blocks (M) that no other operation looks at, which ends in a tail of stores, and of which some operations that only read may come behind a part of the tail; in a round.
  Walk: the reference's names.
  Walk: a copy of numbers.
  Walk: what is wrong with the ticks that were heard, by the reference.
  Walks: streams by the reference: few, copied, valid.
  Walks: copies of texts, of lists of numbers; what lies in blocks of a call's own, by the types of these blocks.
-/
import Derived.Test.YtbdgblnccjpahaaGreatDoorUO9
import Derived.Laws.Strings2
import Derived.Test.YtbdgblnccjpahaaGreatDoorUO7
import Derived.Test.YtbdgblnccjpahaaGreatDoorUO6
import Derived.Test.YtbdgblnccjpahaaGreatDoorUO2
import Derived.Test.YtbdgblnccjpahaaGreatDoorUO5
import Derived.Test.YtbdgblnccjpahaaGreatDoorUO4
set_option linter.unusedSimpArgs false
set_option linter.unusedVariables false
namespace Go.Proofs.YtbdgblnccjpahaaGreatDoor
open Go.RowKit Go.Shelf
attribute [local go_sem] bl_al bl_drew bl_drewN bl_refl bx_al bx_drew bx_drewN bx_refl
set_option maxRecDepth 20000
theorem mk_strs (n : Nat) (hn : n ≤ 1000000) (W : World) : (Instr.makeSlice 54 (.int .i64 n) (.int .i64 n)).run Tryz.prog W = .ok (.slice (some ⟨W.heap.size, 0, none⟩) n n) (W.alloc (.cells (List.replicate n (Value.string ByteArray.empty)).toArray 9)) := by
  obtain ⟨i0, hi, hz0, hz1, hz2⟩ := info_parts infoStr
  have := run_make (P := Tryz.prog) W 54 9 i0 (.string ByteArray.empty) Tryz.underlying54 hi hz0 .i64 .i64 (n : Int) (n : Int) (by omega) (Int.le_refl _) (by rw [hz2]; simp; omega) (by omega)
  rw [hz1, Int.toNat_natCast, Nat.mul_one] at this
  have e : madeCells (Value.string ByteArray.empty).cells n = (List.replicate n (Value.string ByteArray.empty)).toArray := by
    apply Array.ext
    · simp [madeCells]
    · intro i h1 h2
      simp [madeCells, Value.cells, Nat.mod_one]
  rw [e] at this
  exact this
/-- A row of strings, of which the first ones are laid. -/
def stB (n : Nat) (pre : List (List UInt8)) : Array Value := (pre.flatMap cB ++ List.replicate (n - pre.length) (Value.string ByteArray.empty)).toArray
theorem cB_len (l : List (List UInt8)) : (l.flatMap cB).length = l.length := by
  rw [flat_len' (sz := 1) (fun _ => rfl), Nat.mul_one]
theorem stB_at {n : Nat} {pre : List (List UInt8)} (h : pre.length < n) : (stB n pre)[pre.length]? = some (Value.string ByteArray.empty) := by
  unfold stB
  rw [List.getElem?_toArray, List.getElem?_append_right (by rw [cB_len]; exact Nat.le_refl _), cB_len, Nat.sub_self, List.getElem?_replicate, if_pos (by omega)]
theorem stB_set {n : Nat} {pre : List (List UInt8)} (x : List UInt8) (h : pre.length < n) : (stB n pre).setIfInBounds pre.length (.string ⟨x.toArray⟩) = stB n (pre ++ [x]) := by
  unfold stB
  obtain ⟨m, hm⟩ : ∃ m, n - pre.length = m + 1 := ⟨n - pre.length - 1, by omega⟩
  rw [List.setIfInBounds_toArray]
  congr 1
  rw [hm, List.length_append, List.length_singleton, show n - (pre.length + 1) = m by omega, List.set_append, if_neg (by rw [cB_len]; omega), cB_len, Nat.sub_self, List.replicate_succ, List.set_cons_zero, List.flatMap_append]
  simp [cB]
theorem splitC_count (c : UInt8) : ∀ l : List UInt8, (splitC c l).length = l.count c + 1
  | [] => rfl
  | x :: l => by
    have ih := splitC_count c l
    rw [splitC]
    split
    · rename_i h
      subst h
      simp [ih]
    · rename_i h
      rw [List.count_cons_of_ne h]
      split
      · rename_i a t he
        rw [he] at ih
        simpa using ih
      · rename_i he
        exact absurd he (splitC_ne c l)
set_option maxHeartbeats 4000000 in
theorem c_genSplit (l : List UInt8) (c : UInt8) (w : World) (hl : l.length ≤ 100000) :
    Calls Tryz.prog 137 #[.string ⟨l.toArray⟩, .string ⟨#[c]⟩, .int .i64 0, .int .i64 (-1)] w (fun e w' => ∃ A2 c2, e = .returned (.slice A2 (splitC c l).length c2) ∧ Below w.heap.size w w' ∧ w'.ownsRow w.heap.size 9 1 (.slice A2 (splitC c l).length c2) (splitC c l).length ((splitC c l).flatMap cB)) := by
  have hcl := List.count_le_length (a := c) (l := l)
  have hct := splitC_count c l
  have hcnt : Hid (∀ W : World, Calls Tryz.prog 168 #[.string ⟨l.toArray⟩, .string ⟨#[c]⟩] W (Same (.int .i64 (l.count c : Nat)) W)) := fun W => (Tryz.strings_Count_one ⟨l.toArray⟩ c W).mono fun e w' ⟨h1, h2⟩ => ⟨h1, h2.symm⟩
  obtain ⟨n, hn⟩ : ∃ n, l.count c = n := ⟨_, rfl⟩
  rw [hn] at hcl hct hcnt
  obtain ⟨xs, hxs⟩ : ∃ xs, Hid (splitC c l = xs) := ⟨_, rfl⟩
  rw [hxs.out] at hct ⊢
  have hmk := mk_strs (n + 1) (by omega)
  have e0 : (List.replicate (n + 1) (Value.string ByteArray.empty)).toArray = stB (n + 1) [] := by simp [stB]
  rw [e0] at hmk
  clear e0
  replace hn := Lib.hid hn
  rw [hct]
  simp only [Int.natCast_add, Int.cast_ofNat_Int] at hmk
  have hmin : min ((n : Int) + 1) ((l.length : Int) + 1) = (n : Int) + 1 := by omega
  go_enter Tryz.func137, Tryz.ntmps137
  go_upto_region 9 with (go_at_call 168; (with_reducible refine (hcnt.out _).mono ?_); rintro e w3 ⟨rfl, rfl⟩)
  have kB := Blk.new w 9 (stB (n + 1) [])
  have hb0 := bl_al (.cells (stB (n + 1) []) 9) (bl_refl w)
  generalize w.alloc (.cells (stB (n + 1) []) 9) = wA at *
  clear hmk hcnt hmin
  go_wp2
  go_loopw [0, 10] (fun s i wr => ∃ (pre : List (List UInt8)) (r : List UInt8), pre ++ splitC c r = xs ∧ r.length ≤ l.length ∧ i = .int .i64 pre.length ∧ s = .string ⟨r.toArray⟩ ∧ Below w.heap.size w wr ∧ Blk wr w.heap.size 9 (stB (n + 1) pre)) (fun _ i _ => n - (intOf i).toNat)
  case atStart => exact ⟨[], l, by rw [List.nil_append, hxs.out], Nat.le_refl _, rfl, rfl, hb0, kB⟩
  case round =>
    clear hb0 kB
    obtain ⟨pre, r, hpr, hrl, rfl, rfl, hb0, kB⟩ := hrel
    have hpl : pre.length + (splitC c r).length = n + 1 := by rw [← hct, ← hpr, List.length_append]
    have hs0 : 0 < (splitC c r).length := List.length_pos_iff.2 (splitC_ne c r)
    have hC : ∀ W, Below wr.heap.size wr W → W.cell? ⟨w.heap.size, pre.length, none⟩ = some (.string ByteArray.empty) := fun W hb => by rw [(kB.below hb).cell]; exact stB_at (by omega)
    have hF : ∀ W, Below wr.heap.size wr W → W.frozen? ⟨w.heap.size, pre.length, none⟩ = false := fun W hb => (kB.below hb).frozen _
    by_cases hkn : pre.length < n
    · have hkn2 : (pre.length : Int) < n := by omega
      obtain ⟨ix, Hix⟩ : ∃ z, Hid (Lib.indexByte r c = z) := ⟨_, rfl⟩
      have hix : Hid (∀ W : World, Calls Tryz.prog 157 #[.string ⟨r.toArray⟩, .string ⟨#[c]⟩] W (Same (.int .i64 ix) W)) := fun W => (Tryz.strings_Index_one ⟨r.toArray⟩ c W).mono fun e w' ⟨h1, h2⟩ => ⟨by rw [h1]; exact congrArg (fun z => Ending.returned (.int .i64 z)) Hix.out, h2.symm⟩
      have hge : ¬ ix < 0 := fun h => by
        have := splitC_none c r (by rw [Hix.out]; exact h)
        rw [this] at hpl
        simp at hpl
        omega
      obtain ⟨i, hi⟩ : ∃ i : Nat, ix = i := ⟨ix.toNat, by omega⟩
      subst hi
      obtain ⟨hil, hstep⟩ := splitC_some c r i Hix.out
      rw [hstep] at hpr
      have hnew := stB_set (n := n + 1) (pre := pre) (r.take i) (by omega)
      replace hpr := Lib.hid hpr
      replace hnew := Lib.hid hnew
      replace hpl := Lib.hid hpl
      replace hct := Lib.hid hct
      clear Hix hstep hge
      go_upto_region 13 with (go_at_call 157; (with_reducible refine (hix.out _).mono ?_); rintro e w3 ⟨rfl, rfl⟩)
      clear hix
      go_upto_region 14 with fail
      have hex : (ByteArray.mk r.toArray).extract 0 i = ⟨(r.take i).toArray⟩ := by rw [ByteArray.extract_mk, List.drop_zero, Nat.sub_zero]
      have hex2 : (ByteArray.mk r.toArray).extract (i + 1) r.length = ⟨(r.drop (i + 1)).toArray⟩ := by rw [ByteArray.extract_mk, List.take_of_length_le (by simp)]
      have hi1 : (i : Int) < 1000000 := by omega
      have hi2 : (i : Int) ≤ r.length := by omega
      have hi3 : (i : Int) + 1 ≤ r.length := by omega
      have hLC := hC wr (bl_refl wr)
      have hLF := hF wr (bl_refl wr)
      have hb2 := bl_set (p := ⟨w.heap.size, pre.length, none⟩) (by simp) (.string ⟨(r.take i).toArray⟩) hb0
      have k2 := kB.set pre.length (.string ⟨(r.take i).toArray⟩)
      rw [hnew.out] at k2
      clear hC hF
      go_upto_region 15 with fail
      generalize wr.setCell ⟨w.heap.size, pre.length, none⟩ (.string ⟨(r.take i).toArray⟩) = w2 at *
      clear hLC hLF hex
      go_wp2
      go_roundw
      case rel => exact ⟨pre ++ [r.take i], r.drop (i + 1), by rw [List.append_assoc]; exact hpr.out, by rw [List.length_drop]; omega, by first | rfl | go_num | (simp; done), rfl, hb2, k2⟩
      case measure => simp [intOf]; omega
    · have hone : (splitC c r).length = 1 := by omega
      have hr1 := splitC_not c r ((splitC_two c r).1 hone)
      rw [hr1] at hpr
      have hk : pre.length = n := by omega
      have hnew := stB_set (n := n + 1) (pre := pre) r (by omega)
      rw [hpr] at hnew
      have hkn2 : ¬ (pre.length : Int) < n := by omega
      have hLC := hC wr (bl_refl wr)
      have hLF := hF wr (bl_refl wr)
      have hb2 := bl_set (p := ⟨w.heap.size, pre.length, none⟩) (by simp) (.string ⟨r.toArray⟩) hb0
      have k2 := kB.set pre.length (.string ⟨r.toArray⟩)
      rw [hnew] at k2
      clear hC hF hpl hone hr1 hpr hnew hs0 hrl
      replace hct := Lib.hid hct
      subst hk
      go_upto_region 18 with fail
      generalize wr.setCell ⟨w.heap.size, pre.length, none⟩ (.string ⟨r.toArray⟩) = w2 at *
      go_wp2
      go_ret
      refine ⟨_, _, rfl, hb2, by rw [cB_len, hct.out, Nat.mul_one], .inr ⟨w.heap.size, pre.length + 1, _, rfl, Nat.le_refl _, k2, Nat.le_refl _, by unfold maxLen; omega, ?_, ?_⟩⟩
      · have h1 := cB_len xs
        unfold stB
        rw [hct.out] at h1 ⊢
        rw [Nat.sub_self, List.replicate_zero, List.append_nil, List.size_toArray, h1, Nat.mul_one]
      · have h1 := cB_len xs
        unfold stB
        rw [hct.out] at h1 ⊢
        rw [Nat.sub_self, List.replicate_zero, List.append_nil, Nat.mul_one, List.take_of_length_le (by rw [h1]; exact Nat.le_refl _)]
theorem c_SplitB (l : List UInt8) (c : UInt8) (w : World) (hl : l.length ≤ 100000) :
    Calls Tryz.prog 83 #[.string ⟨l.toArray⟩, .string ⟨#[c]⟩] w (fun e w' => ∃ A2 c2, e = .returned (.slice A2 (splitC c l).length c2) ∧ Below w.heap.size w w' ∧ w'.ownsRow w.heap.size 9 1 (.slice A2 (splitC c l).length c2) (splitC c l).length ((splitC c l).flatMap cB)) := by
  have hc := Lib.hid fun W => c_genSplit l c W hl
  generalize splitC c l = xs at *
  go_enter Tryz.func83, Tryz.ntmps83
  go_wp2_with fail
  refine (hc.out _).mono ?_
  rintro e w1 ⟨A2, c2, rfl, hb, ho⟩
  go_wp2
  go_ret
  exact ⟨A2, c2, rfl, hb, ho⟩
end Go.Proofs.YtbdgblnccjpahaaGreatDoor
namespace Go.Proofs.YtbdgblnccjpahaaGreatDoor
open Go.RowKit
section
variable {P : Program} {ops : Array Oper} {Q : Exit → Act → World → Prop} {m : Nat} {M : List Nat}
def FinT (P : Program) (ops : Array Oper) (Q : Exit → Act → World → Prop) (M : List Nat) (w0 : World) (A : (Nat → Value) → Act) (X : (Nat → Gh) → List Nat) (p : Parts) (h : List Sp) : Prop :=
  ∀ γ u W, BX M w0 W → Known h γ u w0 W (heads ops.size p.tail) → PlanW P ops Q (fun W' => BX (X γ) W W') (p.tail.map fun t => (t, false)) (A u) W
def RGT (P : Program) (ops : Array Oper) (Q : Exit → Act → World → Prop) (m : Nat) (M : List Nat) (w0 : World) (A : (Nat → Value) → Act) (X : (Nat → Gh) → List Nat) (p : Parts) : Nat → List Sp → Prop
  | 0, h => FinT P ops Q M w0 A X p h
  | k + 1, h => ∃ s, (p.tail.contains h.length = false → OpOKM P ops Q m M w0 A p h h.length s) ∧ RGT P ops Q m M w0 A X p k (h ++ [s])
structure InvT (ops : Array Oper) (p : Parts) (hs : List Sp) (m : Nat) (M : List Nat) (w0 : World) (a0 : Act) (listed : Array Bool) (γ : Nat → Gh) (u : Nat → Value) (a : Act) (W : World) : Prop where
  bx : BX M w0 W
  bl : listed.getD m false = false → Below w0.heap.size w0 W
  put : a = putD a0 p.ds 0 u
  kn : ∀ j, p.tail.contains j = false → j < ops.size → listed.getD j false = true → Known1 hs γ u w0 W j
theorem inv_upT {p : Parts} {hs : List Sp} {w0 : World} {a0 : Act} {A : (Nat → Value) → Act} (F : AnyF ops p)
    (ok : ∀ i, i < ops.size → p.tail.contains i = false → OpOKM P ops Q m M w0 A p hs i (spAt hs i)) {listed : Array Bool} {γ : Nat → Gh} {u : Nat → Value} {a : Act} {W W' : World} (inv : LInv ops p listed) (I : InvT ops p hs m M w0 a0 listed γ u a W)
    {i : Nat} {o : Oper} (hi : i < ops.size) (hti : p.tail.contains i = false) (hun : listed.getD i true = false) (ho : ops[i]? = some o) (g : Gh)
    (hb' : StM m M i W W') (hR : (spAt hs i).R (up γ i g) W') (hbl : ∀ x ∈ (spAt hs i).bl g, W.heap.size ≤ x ∧ x < W'.heap.size) :
    InvT ops p hs m M w0 a0 (listed.setIfInBounds i true) (up γ i g) (up u i ((spAt hs i).val (up γ i g))) (a.put o.dst ((spAt hs i).val (up γ i g))) W' := by
  obtain ⟨hbx, hb, ha, hkn⟩ := I
  obtain ⟨o', ho', hdst, _, hD⟩ := F.dst i hi hti
  obtain rfl : o = o' := Option.some.inj (ho.symm.trans ho')
  have hCl : ∀ j, p.tail.contains j = false → j < ops.size → listed.getD j false = true → ∀ k ∈ p.C.getD j [], listed.getD k false = true := fun j htj hj hl =>
    F.closed_C inv j hj htj fun o' ho' => inv.closed j o' ho' hl
  have hni : ∀ j, listed.getD j false = true → j ≠ i := fun j hj e => by rw [e, getD_both hun] at hj; cases hj
  have hbx' := hb'.bx
  refine ⟨hbx.trans hbx', fun hl => ?_, ?_, fun j htj hj hl => ?_⟩
  · have him : i ≠ m := fun e => by
      subst e
      have hlt : i < listed.size := by rw [inv.size]; exact hi
      simp [hlt] at hl
    have hl' : listed.getD m false = false := by rwa [getD_set_ne false him] at hl
    unfold StM at hb'
    rw [if_neg him] at hb'
    exact (hb hl').trans (hb'.mono (hb hl').size)
  · rw [ha, hdst]
    have := putD_up p.ds a0 0 i u ((spAt hs i).val (up γ i g)) F.dis (Nat.zero_le _) (by rw [F.len]; omega)
    simpa using this
  · rcases listed_set hl with rfl | hl
    · exact ⟨by simp [up], hR, fun x hx => by
        have : x ∈ (spAt hs j).bl g := by simpa [up] using hx
        have := hbl x this
        exact ⟨Nat.le_trans hbx.size this.1, this.2⟩⟩
    · have hji := hni j hl
      obtain ⟨k1, k2, k3⟩ := hkn j htj hj hl
      have hcg := (ok j hj htj).1 γ (up γ i g) (fun k hk => by
        have : k ≠ i := by
          rcases hk with rfl | hk
          · exact hji
          · exact hni k (hCl j htj hj hl k hk)
        simp [up, this])
      refine ⟨?_, hcg.2 _ ?_, fun x hx => ?_⟩
      · rw [← hcg.1, ← k1]; simp [up, hji]
      · unfold StM at hb'
        by_cases him : i = m
        · subst him
          rw [if_pos rfl] at hb'
          exact (ok j hj htj).2.2.1 hji γ W W' k3 hb' k2
        · rw [if_neg him] at hb'
          exact (ok j hj htj).2.1 γ W W' hb' k2
      · have := k3 x (by simpa [up, hji] using hx)
        exact ⟨this.1, Nat.lt_of_lt_of_le this.2 hbx'.size⟩
end
section
variable {P : Program} {ops : Array Oper} {Q : Exit → Act → World → Prop} {m : Nat} {M : List Nat} {w0 : World} {A : (Nat → Value) → Act} {X : (Nat → Gh) → List Nat} {p : Parts} {k i : Nat} {h : List Sp} {o : Oper} {val : (Nat → Gh) → Value}
theorem RGT.skip (hn : h.length = i) (ht : p.tail.contains i = true) (H : RGT P ops Q m M w0 A X p k (h ++ [sp0])) : RGT P ops Q m M w0 A X p (k + 1) h :=
  ⟨sp0, fun h' => (by rw [hn, ht] at h'; cases h'), H⟩
theorem RGT.fin (H : ∀ γ u W, BX M w0 W → KnownL h γ u w0 W (heads ops.size p.tail) → PlanW P ops Q (fun W' => BX (X γ) W W') (p.tail.map fun t => (t, false)) (A u) W) : RGT P ops Q m M w0 A X p 0 h := fun γ u W hb hk => H γ u W hb hk.toL
end
end Go.Proofs.YtbdgblnccjpahaaGreatDoor
namespace Go.Proofs.YtbdgblnccjpahaaGreatDoor
open Go.RowKit
section
variable {P : Program} {ops : Array Oper} {Q : Exit → Act → World → Prop} {m : Nat} {M : List Nat}
def LateOKL (P : Program) (ops : Array Oper) (M : List Nat) (w0 : World) (A : (Nat → Value) → Act) (X : (Nat → Gh) → List Nat) (D : List (List Nat)) (h : List Sp) (i : Nat) (s : Sp) : Prop :=
  ∀ γ u Wm W, BX M w0 Wm → Known h γ u w0 Wm (D.getD i []) → BX (X γ) Wm W → ∃ o, ops[i]? = some o ∧
    ((Region.wanted o (yielded ops (A u).tmps) = true ∧ (execOp (A u).eval o).run P W = .ok (.value (s.val γ)) W) ∨ (Region.wanted o (yielded ops (A u).tmps) = false ∧ s.val γ = undef))
def OpOKL (P : Program) (ops : Array Oper) (Q : Exit → Act → World → Prop) (m : Nat) (M : List Nat) (w0 : World) (A : (Nat → Value) → Act) (X : (Nat → Gh) → List Nat) (p : Parts) (h : List Sp) (i : Nat) (s : Sp) : Prop :=
  OpOKM P ops Q m M w0 A p h i s ∧ (p.late.contains i = true → i ≠ m ∧ s.bl = (fun _ => []) ∧ s.R = (fun _ _ => True) ∧ LateOKL P ops M w0 A X p.D h i s)
def RGL (P : Program) (ops : Array Oper) (Q : Exit → Act → World → Prop) (m : Nat) (M : List Nat) (w0 : World) (A : (Nat → Value) → Act) (X : (Nat → Gh) → List Nat) (p : Parts) : Nat → List Sp → Prop
  | 0, h => FinT P ops Q M w0 A X p h
  | k + 1, h => ∃ s, (p.tail.contains h.length = false → OpOKL P ops Q m M w0 A X p h h.length s) ∧ RGL P ops Q m M w0 A X p k (h ++ [s])
theorem RGL_all {w0 : World} {A : (Nat → Value) → Act} {X : (Nat → Gh) → List Nat} {p : Parts} (F : AnyF ops p) :
    ∀ (k : Nat) (h : List Sp), h.length + k = ops.size → RGL P ops Q m M w0 A X p k h →
      ∃ hs, (∀ j, j < h.length → spAt hs j = spAt h j) ∧ (∀ i, h.length ≤ i → i < ops.size → p.tail.contains i = false → OpOKL P ops Q m M w0 A X p hs i (spAt hs i)) ∧ FinT P ops Q M w0 A X p hs
  | 0, h, hk, H => ⟨h, fun _ _ => rfl, fun i h1 h2 => by omega, H⟩
  | k + 1, h, hk, ⟨s, hop, H⟩ => by
    obtain ⟨hs, e, ok, fin⟩ := RGL_all F k (h ++ [s]) (by simp; omega) H
    have el : spAt hs h.length = s := (e h.length (by simp)).trans (spAt_last h s)
    have ej : ∀ j, j < h.length → spAt hs j = spAt h j := fun j hj => (e j (by simp; omega)).trans (spAt_app h s j hj)
    refine ⟨hs, ej, fun i h1 h2 h3 => ?_, fin⟩
    by_cases hi : i = h.length
    · subst hi
      obtain ⟨⟨c1, c2, c3, c4⟩, c5⟩ := hop h3
      rw [el]
      have tr : ∀ γ u W, Known hs γ u w0 W (p.D.getD h.length []) → Known h γ u w0 W (p.D.getD h.length []) := fun γ u W hkn => Known.of fun j hj => by
        have := hkn.mem j hj
        obtain ⟨_, _, _, _, hD⟩ := F.dst h.length h2 h3
        unfold Known1 at this ⊢
        rw [ej j (hD j hj).2] at this
        exact this
      exact ⟨⟨c1, c2, c3, fun γ u W hb hkn => c4 γ u W hb (tr γ u W hkn)⟩, fun hl => ⟨(c5 hl).1, (c5 hl).2.1, (c5 hl).2.2.1, fun γ u Wm W hb hkn hx => (c5 hl).2.2.2 γ u Wm W hb (tr γ u Wm hkn) hx⟩⟩
    · exact ok i (by simp; omega) h2 h3
section
variable {p : Parts} {hs : List Sp} {w0 : World} {a0 : Act} {A : (Nat → Value) → Act} {X : (Nat → Gh) → List Nat}
theorem invT_known (F : AnyF ops p) {listed : Array Bool} {γ : Nat → Gh} {u : Nat → Value} {a : Act} {W : World} (inv : LInv ops p listed) (I : InvT ops p hs m M w0 a0 listed γ u a W)
    {i : Nat} {o : Oper} (hi : i < ops.size) (hti : p.tail.contains i = false) (ho : ops[i]? = some o) (hall : ∀ e ∈ o.after, Region.binds .any e = true → listed.getD e.on false = true) : Known hs γ u w0 W (p.D.getD i []) := by
  obtain ⟨o', ho', hdst, hbk, hD⟩ := F.dst i hi hti
  have hCi := F.closed_C inv i hi hti fun o' ho' => by
    obtain rfl : o = o' := Option.some.inj (ho.symm.trans ho')
    exact hall
  refine Known.of fun k hk => ?_
  have hl := hCi k (hD k hk).1
  refine I.kn k ?_ (by have := (hD k hk).2; omega) hl
  cases htk : p.tail.contains k with
  | false => rfl
  | true => rw [getD_both (inv.tail k htk)] at hl; cases hl
theorem any_lateL (F : AnyF ops p) (hQ : ∀ c a w (d : Option Tmp) (v : Value), Q (.panic c) (a.put d v) w → Q (.panic c) a w) (hA : ∀ u, putD a0 p.ds 0 u = A u)
    (ok : ∀ i, i < ops.size → p.tail.contains i = false → OpOKL P ops Q m M w0 A X p hs i (spAt hs i)) (fin : FinT P ops Q M w0 A X p hs) (γ : Nat → Gh) (W : World) :
    ∀ (f : Nat) (listed : Array Bool) (u : Nat → Value) (a : Act), LInv ops p listed → cntp ops.size p listed = f →
      (∀ i, i < ops.size → p.tail.contains i = false → p.late.contains i = false → listed.getD i true = true) → InvT ops p hs m M w0 a0 listed γ u a W →
      wpAnyH P .any ops Q (fun W' => BX (X γ) W W') (f + p.tail.length) listed a W
  | 0, listed, u, a, inv, hc, _, I => by
    have e := cntp_zero inv hc
    have hl : ∀ j, j < ops.size → p.tail.contains j = false → listed.getD j false = true := fun j hj ht => by
      rw [e, headA_at _ _ hj, ht]; rfl
    have h1 := fin γ u W I.bx (Known.of fun j hj => by
      unfold heads at hj
      simp only [List.mem_filter, List.mem_range, Bool.not_eq_true'] at hj
      exact I.kn j hj.2 hj.1 (hl j hj.1 hj.2))
    rw [← hA, ← I.put] at h1
    have := planW_any F.sel (fun c a w d v => hQ c a w d v) (p.tail.map fun t => (t, false)) listed a W (by rw [e]; exact F.plan) (bx_refl _ _) h1
    simpa using this
  | f + 1, listed, u, a, inv, hc, hmain, I => by
    obtain ⟨j, hj, htj, hun⟩ := cntp_pos (n := ops.size) (p := p) (listed := listed) (by omega)
    obtain ⟨i, _, hti, hr⟩ := ready_first F inv j hj htj hun
    obtain ⟨huni, o, ho, hall⟩ := mem_ready.1 hr
    have hi : i < ops.size := (Array.getElem?_eq_some_iff.1 ho).1
    have hla : p.late.contains i = true := by
      cases h : p.late.contains i with
      | true => rfl
      | false => rw [hmain i hi hti h] at huni; cases huni
    have hkn := invT_known F inv I hi hti ho hall
    obtain ⟨him, hB, hR, hok⟩ := (ok i hi hti).2 hla
    have hS : YieldsIf P ops (fun W' => BX (X γ) W W') o ((spAt hs i).val γ) a := by
      have h0 := hok γ u W W I.bx hkn (bx_refl _ _)
      obtain ⟨o', ho', h⟩ := h0
      obtain rfl : o = o' := Option.some.inj (ho.symm.trans ho')
      rw [← hA, ← I.put] at h
      rcases h with ⟨hw, _⟩ | ⟨hw, e⟩
      · refine .inl ⟨hw, fun W' hW' => ?_⟩
        obtain ⟨o', ho', h⟩ := hok γ u W W' I.bx hkn hW'
        obtain rfl : o = o' := Option.some.inj (ho.symm.trans ho')
        rw [← hA, ← I.put] at h
        rcases h with ⟨_, h⟩ | ⟨hw', _⟩
        · exact h
        · rw [hw] at hw'; cases hw'
      · exact .inr ⟨hw, e⟩
    obtain ⟨oi, hoi, hap⟩ := F.lt i hla
    obtain rfl : o = oi := Option.some.inj (ho.symm.trans hoi)
    have hself : up γ i (γ i) = γ := by
      funext k
      unfold up
      split
      · rename_i e; rw [e]
      · rfl
    have I' := inv_upT (W' := W) F (fun i h1 h2 => (ok i h1 h2).1) inv I hi hti huni ho (γ i) (by unfold StM; rw [if_neg him]; exact Below.refl _ _) (by rw [hR]; trivial) (by rw [hB]; intro x hx; cases hx)
    rw [hself] at I'
    have hlt : i < listed.size := by rw [inv.size]; exact hi
    rw [show f + 1 + p.tail.length = (f + p.tail.length) + 1 by omega]
    refine wpAnyH_first ho (Region.noSelect_spec F.sel) (fun c a w h => hQ c a w _ _ h) _ listed a W (fun k ok' hk hki hunk hno => ?_) hr hS (bx_refl _ _)
      (any_lateL F hQ hA ok fin γ W f _ _ _ (inv.set hr hti) (by have := cntp_set hi hlt hti huni; omega) (fun k hk h1 h2 => ?_) I')
    · have hkl : p.late.contains k = true ∨ p.tail.contains k = true := by
        cases h1 : p.late.contains k with
        | true => exact .inl rfl
        | false =>
          cases h2 : p.tail.contains k with
          | true => exact .inr rfl
          | false => rw [hmain k (Array.getElem?_eq_some_iff.1 hk).1 h2 h1] at hunk; cases hunk
      rcases hap k hkl hki ok' hk with ⟨e, he, hb, hon⟩ | ⟨e, he, hb, hon⟩ | h
      · exact absurd hon (hno e he hb)
      · have := hall e he hb
        rw [hon, getD_both hunk] at this
        cases this
      · exact h
    · have := hmain k hk h1 h2
      have hne : i ≠ k := fun e => by rw [e, h2] at hla; cases hla
      rw [getD_set_ne true hne]; exact this
theorem any_headL (F : AnyF ops p) (hQ : ∀ c a w (d : Option Tmp) (v : Value), Q (.panic c) (a.put d v) w → Q (.panic c) a w) (hA : ∀ u, putD a0 p.ds 0 u = A u)
    (ok : ∀ i, i < ops.size → p.tail.contains i = false → OpOKL P ops Q m M w0 A X p hs i (spAt hs i)) (fin : FinT P ops Q M w0 A X p hs) :
    ∀ (f : Nat) (listed : Array Bool) (γ : Nat → Gh) (u : Nat → Value) (a : Act) (W : World), LInv ops p listed → cntp ops.size p listed = f → InvT ops p hs m M w0 a0 listed γ u a W →
      wpAny P .any ops Q (f + p.tail.length) listed a W := by
  intro f
  induction f with
  | zero =>
    intro listed γ u a W inv hc I
    refine wpAny_of_held (S := fun W' => BX (X γ) W W') _ _ _ _ (any_lateL F hQ hA ok fin γ W 0 listed u a inv hc (fun i hi h1 h2 => ?_) I)
    have e := cntp_zero inv hc
    rw [e, headA_at _ _ hi, h1]; rfl
  | succ f ih =>
    intro listed γ u a W inv hc I
    by_cases hm : ∀ i, i < ops.size → p.tail.contains i = false → p.late.contains i = false → listed.getD i true = true
    · exact wpAny_of_held (S := fun W' => BX (X γ) W W') _ _ _ _ (any_lateL F hQ hA ok fin γ W (f + 1) listed u a inv hc hm I)
    · have ⟨i0, hm1⟩ := Classical.not_forall.1 hm
      have ⟨hi0, hm2⟩ := Classical.not_imp.1 hm1
      have ⟨ht0, hm3⟩ := Classical.not_imp.1 hm2
      have ⟨hl0, hm4⟩ := Classical.not_imp.1 hm3
      have hu0 : listed.getD i0 true = false := by simpa using hm4
      rw [show f + 1 + p.tail.length = (f + p.tail.length) + 1 by omega]
      refine ⟨fun h => ?_, fun i hr => ?_⟩
      · obtain ⟨i, _, _, hr⟩ := ready_first F inv i0 hi0 ht0 hu0
        rw [h] at hr
        cases hr
      · have hti : p.tail.contains i = false := by
          cases h : p.tail.contains i with
          | false => rfl
          | true => exact absurd hr (F.tail_waits inv hi0 ht0 hl0 hu0 i h)
        obtain ⟨huni, o, ho, hall⟩ := mem_ready.1 hr
        have hi : i < ops.size := (Array.getElem?_eq_some_iff.1 ho).1
        have hlt : i < listed.size := by rw [inv.size]; exact hi
        have hkn := invT_known F inv I hi hti ho hall
        have hpre : PreM m M i w0 W := by
          unfold PreM
          split
          · rename_i e
            subst e
            exact I.bl (getD_both huni)
          · exact I.bx
        obtain ⟨o', ho', hop⟩ := (ok i hi hti).1.2.2.2 γ u W hpre hkn
        obtain rfl : o = o' := Option.some.inj (ho.symm.trans ho')
        rw [← hA, ← I.put] at hop
        unfold OpWM at hop
        refine wpOp_mono (fun a' W' hp => ?_) hop
        obtain ⟨g, e, hb', hR, hbl⟩ := hp
        rw [e]
        exact ih _ _ _ _ W' (inv.set hr hti) (by have := cntp_set hi hlt hti huni; omega) (inv_upT F (fun i h1 h2 => (ok i h1 h2).1) inv I hi hti huni ho g hb' hR hbl)
end
end
theorem wpAny_rgL {P : Program} {Q : Exit → Act → World → Prop} {a0 : Act} {w w0 : World} {l : List Oper} {A : (Nat → Value) → Act} (m : Nat) (M : List Nat) (p : Parts) (X : (Nat → Gh) → List Nat)
    (hB : anyOk l.toArray p = true) (hb : Below w0.heap.size w0 w.drew) (hA : ∀ u, putD a0 p.ds 0 u = A u) (h : RGL P l.toArray (NoPanic Q) m M w0 A X p l.toArray.size []) :
    wpAny P .any l.toArray (NoPanic Q) l.toArray.size (Array.replicate l.toArray.size false) a0 w.drew := by
  have F := anyOk_spec hB
  obtain ⟨hs, _, ok, fin⟩ := RGL_all F _ [] (by simp) h
  have inv0 : LInv l.toArray p (Array.replicate l.toArray.size false) :=
    ⟨by simp, fun j oj _ hl => (by rw [getD_replicate_false] at hl; cases hl), fun t ht => getD_in (by have := F.tin t ht; simpa using this) (getD_replicate_false _ _)⟩
  have hc : cntp l.toArray.size p (Array.replicate l.toArray.size false) = (List.range l.toArray.size).countP (fun j => !p.tail.contains j) := by
    unfold cntp
    refine List.countP_congr fun j hj => ?_
    have : j < l.length := by have := List.mem_range.1 hj; simpa using this
    simp [this]
  have := any_headL (P := P) (Q := NoPanic Q) F (fun _ _ _ _ _ h => h) hA (fun i hi => ok i (Nat.zero_le _) hi) fin _ _ (fun _ => gh0) (fun j => match p.ds.getD j none with | some t => a0.tmps.getD t undef | none => undef) a0 w.drew inv0 hc
    ⟨bx_bl M hb, fun _ => hb, (putD_old p.ds a0 0 _ fun j _ => by rw [Nat.zero_add]; cases p.ds.getD j none <;> rfl).symm, fun j _ _ hl => (by rw [getD_replicate_false] at hl; cases hl)⟩
  rw [F.cnt] at this
  exact this
/-- The walk of such a region in a round. -/
theorem wpIn_anyL {P : Program} {Q : Exit → Act → World → Prop} {n ln id : Nat} {a0 : Act} {w w0 : World} {l : List Oper} {A : (Nat → Value) → Act} (m : Nat) (M : List Nat) (p : Parts) (X : (Nat → Gh) → List Nat) (hm : P.follows .mixedOrders = true)
    (hd : noDefer l.toArray = true) (hB : anyOk l.toArray p = true) (hb : Below w0.heap.size w0 w.drew) (hA : ∀ u, putD a0 p.ds 0 u = A u) (h : RGL P l.toArray (NoPanic (Only Q)) m M w0 A X p l.toArray.size []) :
    (Code.region id l.toArray true).wpIn (Fence.wide.inRound ln) n P Q a0 w :=
  Code.wpIn_mono Only.imp (wpIn_region_any hm (wpAnyIn_of hd only_shut _ _ _ _ (wpAny_rgL m M p X hB hb hA h)))
section
variable {P : Program} {ops : Array Oper} {Q : Exit → Act → World → Prop} {m : Nat} {M : List Nat} {w0 : World} {A : (Nat → Value) → Act} {X : (Nat → Gh) → List Nat} {p : Parts} {k i : Nat} {h : List Sp} {o : Oper} {val : (Nat → Gh) → Value}
theorem RGL.skip (hn : h.length = i) (ht : p.tail.contains i = true) (H : RGL P ops Q m M w0 A X p k (h ++ [sp0])) : RGL P ops Q m M w0 A X p (k + 1) h :=
  ⟨sp0, fun h' => (by rw [hn, ht] at h'; cases h'), H⟩
theorem RGL.on (hn : h.length = i) (hne : i ≠ m) (hi : ops[i]? = some o) (hop : ∀ γ u W, BX M w0 W → KnownL h γ u w0 W (p.D.getD i []) → Region.wanted o (yielded ops (A u).tmps) = true ∧ (execOp (A u).eval o).run P W = .ok (.value (val γ)) W)
    (hc : ∀ γ γ' : Nat → Gh, (∀ j, j = i ∨ j ∈ p.C.getD i [] → γ j = γ' j) → val γ = val γ') (hl : p.late.contains i = false)
    (H : RGL P ops Q m M w0 A X p k (h ++ [⟨val, fun _ _ => True, fun _ => []⟩])) : RGL P ops Q m M w0 A X p (k + 1) h := by
  subst hn
  refine ⟨_, fun _ => ⟨⟨fun γ γ' hg => ⟨hc γ γ' hg, fun _ h => h⟩, fun _ _ _ _ h => h, fun _ _ _ _ _ _ h => h, fun γ u W hb hk => ⟨o, hi, ?_⟩⟩, fun h => by rw [hl] at h; cases h⟩, H⟩
  unfold PreM at hb
  rw [if_neg hne] at hb
  obtain ⟨hw, hv⟩ := hop γ u W hb hk.toL
  unfold OpWM wpOp
  simp only [hi]
  rw [if_pos hw]
  refine .inl ?_
  unfold Oper.wp
  simp only [hv, Oper.upon]
  refine ⟨γ h.length, ?_, ?_, trivial, fun x hx => by cases hx⟩
  · rw [up_self]
  · unfold StM
    rw [if_neg hne]
    exact Below.refl _ _
/-- Any operation that meets a specification with a ghost. -/
theorem RGL.gh (s : Sp) (hn : h.length = i) (hne : i ≠ m) (hi : ops[i]? = some o)
    (hop : ∀ γ u W, BX M w0 W → KnownL h γ u w0 W (p.D.getD i []) → Region.wanted o (yielded ops (A u).tmps) = true ∧
      ∀ K : Act → World → Prop, Shut (∀ g v W', v = s.val (up γ i g) → Below W.heap.size W W' → s.R (up γ i g) W' → (∀ x ∈ s.bl g, W.heap.size ≤ x ∧ x < W'.heap.size) → K ((A u).put o.dst v) W') → Oper.wp P o (A u) W K Q)
    (hc : Cong (p.C.getD i []) i s) (hm : ∀ γ W W', Below W.heap.size W W' → s.R γ W → s.R γ W') (hx : ∀ γ W W', (∀ x ∈ s.bl (γ i), w0.heap.size ≤ x ∧ x < W.heap.size) → BX M W W' → s.R γ W → s.R γ W')
    (hl : p.late.contains i = false) (H : RGL P ops Q m M w0 A X p k (h ++ [s])) : RGL P ops Q m M w0 A X p (k + 1) h := by
  subst hn
  refine ⟨s, fun _ => ⟨⟨hc, hm, fun _ => hx, fun γ u W hb hk => ⟨o, hi, ?_⟩⟩, fun h => by rw [hl] at h; cases h⟩, H⟩
  unfold PreM at hb
  rw [if_neg hne] at hb
  obtain ⟨hw, hx⟩ := hop γ u W hb hk.toL
  unfold OpWM wpOp
  simp only [hi]
  rw [if_pos hw]
  exact .inl (hx _ (shut_in fun g v W' hv hb' hR hbl => ⟨g, by rw [hv], by unfold StM; rw [if_neg hne]; exact hb', hR, hbl⟩))
/-- The operation that turns the blocks M. -/
theorem RGL.mut (s : Sp) (hn : h.length = i) (he : i = m) (hi : ops[i]? = some o)
    (hop : ∀ γ u W, Below w0.heap.size w0 W → KnownL h γ u w0 W (p.D.getD i []) → Region.wanted o (yielded ops (A u).tmps) = true ∧
      ∀ K : Act → World → Prop, Shut (∀ g v W', v = s.val (up γ i g) → BX M W W' → s.R (up γ i g) W' → (∀ x ∈ s.bl g, W.heap.size ≤ x ∧ x < W'.heap.size) → K ((A u).put o.dst v) W') → Oper.wp P o (A u) W K Q)
    (hc : Cong (p.C.getD i []) i s) (hm : ∀ γ W W', Below W.heap.size W W' → s.R γ W → s.R γ W')
    (hl : p.late.contains i = false) (H : RGL P ops Q m M w0 A X p k (h ++ [s])) : RGL P ops Q m M w0 A X p (k + 1) h := by
  subst hn
  refine ⟨s, fun _ => ⟨⟨hc, hm, fun h => absurd he h, fun γ u W hb hk => ⟨o, hi, ?_⟩⟩, fun h => by rw [hl] at h; cases h⟩, H⟩
  unfold PreM at hb
  rw [if_pos he] at hb
  obtain ⟨hw, hx⟩ := hop γ u W hb hk.toL
  unfold OpWM wpOp
  simp only [hi]
  rw [if_pos hw]
  exact .inl (hx _ (shut_in fun g v W' hv hb' hR hbl => ⟨g, by rw [hv], by unfold StM; rw [if_pos he]; exact hb', hR, hbl⟩))
/-- A new block, and a slice of it. -/
theorem RGL.bslice {t : TypeId} {cs : (Nat → Gh) → Array Value} {n c : Nat} (hn : h.length = i) (hne : i ≠ m) (hM : ∀ x ∈ M, x < w0.heap.size) (hi : ops[i]? = some o)
    (hop : ∀ γ u W, BX M w0 W → KnownL h γ u w0 W (p.D.getD i []) → Region.wanted o (yielded ops (A u).tmps) = true ∧
      ∀ K : Act → World → Prop, Shut (∀ v W', v = .slice (some ⟨W.heap.size, 0, none⟩) n c → W' = W.alloc (.cells (cs γ) t) → K ((A u).put o.dst v) W') → Oper.wp P o (A u) W K Q)
    (hc : ∀ γ γ' : Nat → Gh, (∀ j, j ≠ i → j ∈ p.C.getD i [] → γ j = γ' j) → cs γ = cs γ') (hni : (p.C.getD i []).contains i = false) (hl : p.late.contains i = false)
    (H : RGL P ops Q m M w0 A X p k (h ++ [⟨fun γ => .slice (some ⟨(γ i).n, 0, none⟩) n c, fun γ W => Blk W (γ i).n t (cs γ), fun g => [g.n]⟩])) : RGL P ops Q m M w0 A X p (k + 1) h := by
  refine RGL.gh _ hn hne hi (fun γ u W hb hk => ⟨(hop γ u W hb hk).1, fun K hK => (hop γ u W hb hk).2 K (shut_in fun v W' hv hW => ?_)⟩) (fun γ γ' hg => ?_) (fun γ W W' hb hR => Blk.below hR hb) (fun γ W W' hbd hb hR => ?_) hl H
  · subst hW
    refine hK.out ⟨W.heap.size, undef, none, 0⟩ v _ (by simp [up, hv]) (bl_al _ (bl_refl W)) ?_ (fun x hx => ?_)
    · have : cs (up γ i ⟨W.heap.size, undef, none, 0⟩) = cs γ := hc _ _ fun j hj _ => by simp [up, hj]
      dsimp only
      rw [this]
      simpa [up] using Blk.new W t (cs γ)
    · have : x = W.heap.size := by simpa using hx
      subst this
      simp
  · have h1 := hg i (.inl rfl)
    have h2 : cs γ = cs γ' := hc γ γ' fun j _ hj => hg j (.inr hj)
    exact ⟨by dsimp only; rw [h1], fun W hR => by dsimp only at hR ⊢; rw [← h1, ← h2]; exact hR⟩
  · refine Blk.keep hR (fun hx => ?_) hb
    have h1 := hM _ hx
    have h2 := hbd _ (List.mem_singleton.2 rfl)
    omega
theorem RGL.off (hn : h.length = i) (hne : i ≠ m) (hi : ops[i]? = some o) (hop : ∀ γ u W, BX M w0 W → KnownL h γ u w0 W (p.D.getD i []) → Region.wanted o (yielded ops (A u).tmps) = false)
    (hl : p.late.contains i = false) (H : RGL P ops Q m M w0 A X p k (h ++ [⟨fun _ => undef, fun _ _ => True, fun _ => []⟩])) : RGL P ops Q m M w0 A X p (k + 1) h := by
  subst hn
  refine ⟨_, fun _ => ⟨⟨fun γ γ' hg => ⟨rfl, fun _ h => h⟩, fun _ _ _ _ h => h, fun _ _ _ _ _ _ h => h, fun γ u W hb hk => ⟨o, hi, ?_⟩⟩, fun h => by rw [hl] at h; cases h⟩, H⟩
  unfold PreM at hb
  rw [if_neg hne] at hb
  have hw := hop γ u W hb hk.toL
  unfold OpWM wpOp
  simp only [hi]
  rw [if_neg (by rw [hw]; decide)]
  exact ⟨γ h.length, by simp, by unfold StM; rw [if_neg hne]; exact Below.refl _ _, by simp, by simp⟩
theorem RGL.onL (hn : h.length = i) (hne : i ≠ m) (hi : ops[i]? = some o) (hop : ∀ γ u Wm W, BX M w0 Wm → KnownL h γ u w0 Wm (p.D.getD i []) → BX (X γ) Wm W → Region.wanted o (yielded ops (A u).tmps) = true ∧ (execOp (A u).eval o).run P W = .ok (.value (val γ)) W)
    (hc : ∀ γ γ' : Nat → Gh, (∀ j, j = i ∨ j ∈ p.C.getD i [] → γ j = γ' j) → val γ = val γ')
    (H : RGL P ops Q m M w0 A X p k (h ++ [⟨val, fun _ _ => True, fun _ => []⟩])) : RGL P ops Q m M w0 A X p (k + 1) h := by
  subst hn
  refine ⟨_, fun _ => ⟨⟨fun γ γ' hg => ⟨hc γ γ' hg, fun _ h => h⟩, fun _ _ _ _ h => h, fun _ _ _ _ _ _ h => h, fun γ u W hb hk => ⟨o, hi, ?_⟩⟩, fun _ => ⟨hne, rfl, rfl, fun γ u Wm W hb hk hx => ⟨o, hi, .inl (hop γ u Wm W hb hk.toL hx)⟩⟩⟩, H⟩
  unfold PreM at hb
  rw [if_neg hne] at hb
  obtain ⟨hw, hv⟩ := hop γ u W W hb hk.toL (bx_refl _ _)
  unfold OpWM wpOp
  simp only [hi]
  rw [if_pos hw]
  refine .inl ?_
  unfold Oper.wp
  simp only [hv, Oper.upon]
  refine ⟨γ h.length, ?_, ?_, trivial, fun x hx => by cases hx⟩
  · rw [up_self]
  · unfold StM
    rw [if_neg hne]
    exact Below.refl _ _
theorem RGL.offL (hn : h.length = i) (hne : i ≠ m) (hi : ops[i]? = some o) (hop : ∀ γ u Wm W, BX M w0 Wm → KnownL h γ u w0 Wm (p.D.getD i []) → BX (X γ) Wm W → Region.wanted o (yielded ops (A u).tmps) = false)
    (H : RGL P ops Q m M w0 A X p k (h ++ [⟨fun _ => undef, fun _ _ => True, fun _ => []⟩])) : RGL P ops Q m M w0 A X p (k + 1) h := by
  subst hn
  refine ⟨_, fun _ => ⟨⟨fun γ γ' hg => ⟨rfl, fun _ h => h⟩, fun _ _ _ _ h => h, fun _ _ _ _ _ _ h => h, fun γ u W hb hk => ⟨o, hi, ?_⟩⟩, fun _ => ⟨hne, rfl, rfl, fun γ u Wm W hb hk hx => ⟨o, hi, .inr ⟨hop γ u Wm W hb hk.toL hx, rfl⟩⟩⟩⟩, H⟩
  unfold PreM at hb
  rw [if_neg hne] at hb
  have hw := hop γ u W W hb hk.toL (bx_refl _ _)
  unfold OpWM wpOp
  simp only [hi]
  rw [if_neg (by rw [hw]; decide)]
  exact ⟨γ h.length, by simp, by unfold StM; rw [if_neg hne]; exact Below.refl _ _, by simp, by simp⟩
theorem RGL.fin (H : ∀ γ u W, BX M w0 W → KnownL h γ u w0 W (heads ops.size p.tail) → PlanW P ops Q (fun W' => BX (X γ) W W') (p.tail.map fun t => (t, false)) (A u) W) : RGL P ops Q m M w0 A X p 0 h := fun γ u W hb hk => H γ u W hb hk.toL
end
end Go.Proofs.YtbdgblnccjpahaaGreatDoor
namespace Go.Proofs.YtbdgblnccjpahaaGreatDoor
open Go.RowKit Go.Shelf
attribute [local go_sem] bl_al bl_drew bl_drewN bl_refl
set_option maxRecDepth 20000
set_option maxHeartbeats 2000000 in
theorem r_IsName (s : ByteArray) (w : World) (hs : s.size ≤ maxLen) :
    Calls Tryz.prog 102 #[.string s] w (Ret (.bool (nameB s)) w) := by
  unfold maxLen at hs
  obtain ⟨l, Hl⟩ : ∃ l, Hid (s.data.toList = l) := ⟨_, rfl⟩
  obtain ⟨n, Hn⟩ : ∃ n, Hid (s.size = n) := ⟨_, rfl⟩
  have Hln : Hid (l.length = n) := by rw [← Hl.out, ← Hn.out]; exact (by simp : s.data.toList.length = s.size)
  have hR : Hid (nameB s = (nameFrom 0 l && inR n 1 12)) := by unfold nameB; rw [Hl.out, Hn.out]; rfl
  rw [Hn.out] at hs
  have hsz : s.size = n := Hn.out
  by_cases hlow : n < 1
  · have e : Hid (nameB s = false) := by rw [hR.out]; refine Lib.hid ?_; have : inR n 1 12 = false := by simp [inR]; intro; omega
                                         rw [this, Bool.and_false]
    have hb1 : decide ((n : Int) < 1) = true := by simp; omega
    go_enter Tryz.func102, Tryz.ntmps102
    go_wp2
    go_ret
    exact ⟨by rw [e.out] <;> rfl, bl_refl _⟩
  have hb1 : decide ((n : Int) < 1) = false := by simp; omega
  by_cases hhi : 12 < n
  · have e : Hid (nameB s = false) := by rw [hR.out]; refine Lib.hid ?_; have : inR n 1 12 = false := by simp [inR]; intro; omega
                                         rw [this, Bool.and_false]
    have hb2 : decide ((12 : Int) < n) = true := by simp; omega
    go_enter Tryz.func102, Tryz.ntmps102
    go_wp2
    go_ret
    exact ⟨by rw [e.out] <;> rfl, bl_refl _⟩
  have hb2 : decide ((12 : Int) < n) = false := by simp; omega
  replace hR : Hid (nameB s = nameFrom 0 l) := by rw [hR.out]; refine Lib.hid ?_; have : inR n 1 12 = true := by simp [inR]; omega
                                                  rw [this, Bool.and_true]
  go_enter Tryz.func102, Tryz.ntmps102
  go_wp2
  go_loopw [3] (fun i wr => ∃ k : Nat, k ≤ n ∧ i = .int .i64 k ∧ wr = w ∧ nameFrom 0 l = nameFrom k (l.drop k)) (fun i _ => n - (intOf i).toNat)
  case atStart => exact ⟨0, Nat.zero_le _, rfl, rfl, rfl⟩
  case round =>
    obtain ⟨k, hk, rfl, rfl, hi⟩ := hrel
    replace hi := Lib.hid hi
    by_cases hlt : k < n
    · have hx : l[k]? = some (l[k]'(by rw [Hln.out]; exact hlt)) := List.getElem?_eq_getElem _
      generalize l[k]'(by rw [Hln.out]; exact hlt) = c at hx
      have hd := Lib.hid (nameFrom_drop l k c hx)
      have hks : k < s.size := by rw [hsz]; exact hlt
      have hget : s.data[k]'(by simpa using hks) = c := by
        have := hx
        rw [← Hl.out] at this
        simpa using (List.getElem?_eq_some_iff.1 this).2
      have hget' : (s[k]'hks) = c := hget
      have hm0 := c.toNat_lt
      have hlet := Lib.hid (letter_iff c)
      have hoth := Lib.hid (other_iff c)
      have hyes : Hid ((97 ≤ c.toNat ∧ c.toNat ≤ 122 ∨ 65 ≤ c.toNat ∧ c.toNat ≤ 90) ∨ k ≠ 0 ∧ (48 ≤ c.toNat ∧ c.toNat ≤ 57 ∨ c.toNat = 45) → nameFrom 0 l = nameFrom (k + 1) (l.drop (k + 1))) := by
        intro h
        rw [hi.out, hd.out]
        rcases h with h | ⟨h0, h⟩
        · simp [hlet.out.2 h]
        · simp [hoth.out.2 h, h0]
      have hno : Hid (¬ ((97 ≤ c.toNat ∧ c.toNat ≤ 122 ∨ 65 ≤ c.toNat ∧ c.toNat ≤ 90) ∨ k ≠ 0 ∧ (48 ≤ c.toNat ∧ c.toNat ≤ 57 ∨ c.toNat = 45)) → nameFrom 0 l = false) := by
        intro h
        rw [hi.out, hd.out]
        have h1 : letter c = false := by rw [Bool.eq_false_iff]; intro hh; exact h (.inl (hlet.out.1 hh))
        by_cases h0 : k = 0
        · simp [h1, h0]
        · have h2 : other c = false := by rw [Bool.eq_false_iff]; intro hh; exact h (.inr ⟨h0, hoth.out.1 hh⟩)
          simp [h1, h2]
      clear hx hlet hoth hd hi
      go_upto_region 7 with fail
      clear hget hget'
      generalize c.toNat = m at *
      have hcase : m < 45 ∨ m = 45 ∨ (45 < m ∧ m < 48) ∨ (48 ≤ m ∧ m ≤ 57) ∨ (57 < m ∧ m < 65) ∨ (65 ≤ m ∧ m ≤ 90) ∨ (90 < m ∧ m < 97) ∨ (97 ≤ m ∧ m ≤ 122) ∨ 122 < m := by omega
      by_cases h0 : k = 0
      · subst h0
        rcases hcase with h | rfl | ⟨h, h'⟩ | ⟨h, h'⟩ | ⟨h, h'⟩ | ⟨h, h'⟩ | ⟨h, h'⟩ | ⟨h, h'⟩ | h
        all_goals
          go_wp2
        all_goals first
          | (go_roundw
             case rel => exact ⟨1, by omega, by go_num, trivial, hyes.out (by omega)⟩
             case measure => simp [intOf]; omega)
          | (go_ret
             exact ⟨by rw [hR.out, hno.out (by omega)] <;> rfl, bl_refl _⟩)
          | (exfalso; simp at *; omega)
      · have h0' : ((k : Int) == 0) = false := by simp; omega
        rcases hcase with h | rfl | ⟨h, h'⟩ | ⟨h, h'⟩ | ⟨h, h'⟩ | ⟨h, h'⟩ | ⟨h, h'⟩ | ⟨h, h'⟩ | h
        all_goals
          go_wp2
        all_goals first
          | (go_roundw
             case rel => exact ⟨k + 1, by omega, by go_num, trivial, hyes.out (by omega)⟩
             case measure => simp [intOf]; omega)
          | (go_ret
             exact ⟨by rw [hR.out, hno.out (by omega)] <;> rfl, bl_refl _⟩)
          | (exfalso; simp at *; omega)
    · go_wp2
      go_ret
      have : k = l.length := by have := Hln.out; omega
      exact ⟨by rw [hR.out, hi.out, this]; simp [nameFrom], bl_refl _⟩
end Go.Proofs.YtbdgblnccjpahaaGreatDoor
namespace Go.Proofs.YtbdgblnccjpahaaGreatDoor
open Go.RowKit Go.Shelf
attribute [local go_sem] bl_al bl_drew bl_drewN bl_refl bx_al bx_drew bx_drewN bx_refl
set_option maxRecDepth 20000
theorem flat_I (l : List Int) : l.flatMap cI = l.map (Value.int .i64) := by
  induction l with
  | nil => rfl
  | cons x l ih => rw [List.flatMap_cons, List.map_cons, ih]; rfl
theorem r_CopyInts (l : List Int) (A : Option Addr) (c : Nat) (w : World) (hs : Sl cI 1 w A l) (hl : l.length ≤ 1000) : Calls Tryz.prog 21 #[.slice A l.length c] w (RetI l w) := by
  obtain ⟨i0, hi, hz0, hz1, hz2⟩ := info_parts infoI
  have Hs := Lib.hid hs
  clear hs
  go_enter Tryz.func21, Tryz.ntmps21
  go_wp2_with (at_builtin; refine wpList_plain rfl fun _ hK => wp_copy (cs := cI) (l := l) (A := A) (c := c) (g := w.heap.size) _ _ rfl Tryz.underlying23 hi hz0 hz1 hz2 rfl (by decide) (fun _ => rfl) (fun x u hu => by simp [cI] at hu; subst hu; rfl) rfl rfl (Hs.out.below (bl_al _ (bl_refl _))) hl (by decide) (Blk.new w _ _) (fun A2 c2 w' ho hb => hK _ _ ?_))
  rw [flat_I] at ho
  have hb2 : Below w.heap.size w w' := bl_tr (bl_al _ (bl_refl w)) hb
  replace ho := Lib.hid ho
  clear hb
  go_wp2
  go_ret
  exact ⟨A2, c2, rfl, hb2, ho.out⟩
end Go.Proofs.YtbdgblnccjpahaaGreatDoor
namespace Go.Proofs.YtbdgblnccjpahaaGreatDoor
open Go.RowKit Go.Shelf
attribute [local go_sem] bl_al bl_drew bl_drewN bl_refl bx_al bx_drew bx_drewN bx_refl
set_option maxRecDepth 20000
theorem r_Within (n lo hi : Int) (w : World) : Calls Tryz.prog 12 #[.int .i64 n, .int .i64 lo, .int .i64 hi] w (Same (.bool (inR n lo hi)) w) := by
  by_cases h1 : lo ≤ n
  · go_enter Tryz.func12, Tryz.ntmps12
    go_wp2
    go_ret
    exact ⟨by simp [inR, h1], rfl⟩
  · go_enter Tryz.func12, Tryz.ntmps12
    go_wp2
    go_ret
    exact ⟨by simp [inR, h1] <;> (intro h; omega), rfl⟩
end Go.Proofs.YtbdgblnccjpahaaGreatDoor
namespace Go.Proofs.YtbdgblnccjpahaaGreatDoor
open Go.RowKit Go.Shelf
attribute [local go_sem] bl_al bl_drew bl_drewN bl_refl bx_al bx_drew bx_drewN bx_refl
set_option maxRecDepth 20000
end Go.Proofs.YtbdgblnccjpahaaGreatDoor
namespace Go.Proofs.YtbdgblnccjpahaaGreatDoor
open Go.RowKit Go.Shelf
attribute [local go_sem] bl_al bl_drew bl_drewN bl_refl bx_al bx_drew bx_drewN bx_refl
set_option maxRecDepth 20000
theorem infoS : (Tryz.prog.info? 9).map (fun i => (i.zero, i.size, i.bytes)) = some (some (.string ByteArray.empty), 1, 16) := by kernel_rfl
theorem infoLs : (Tryz.prog.info? 23).map (fun i => (i.zero, i.size, i.bytes)) = some (some (.slice none 0 0), 1, 24) := by kernel_rfl
theorem infoFu : (Tryz.prog.info? 144).map (fun i => (i.zero, i.size, i.bytes)) = some (some (.agg #[.string ByteArray.empty, .slice none 0 0]), 2, 40) := by kernel_rfl
theorem infoMd : (Tryz.prog.info? 146).map (fun i => (i.zero, i.size, i.bytes)) = some (some (.agg #[.string ByteArray.empty, .slice none 0 0]), 2, 40) := by kernel_rfl
/-- No block among these is of that type. -/
def NoT (X : List Nat) (W : World) (e : TypeId) : Prop := ∀ g ∈ X, ∀ cs, W.heap[g]? ≠ some (.cells cs e (0, 0))
theorem own_keepT {W W' : World} {base n size : Nat} {e : TypeId} {v : Value} {xs : List Value} {X : List Nat} (h : W.ownsRow base e size v n xs) (hb : BX X W W') (hX : NoT X W e) : W'.ownsRow base e size v n xs :=
  own_bxT h hb fun k hk hm => by
    rcases h.2 with ⟨rfl, _⟩ | ⟨g, cap, cur, rfl, _, hg, _⟩
    · simp [Value.ownBlock] at hk
    · have : g = k := by simpa [Value.ownBlock] using hk
      subst this
      exact hX g hm cur hg
theorem noT_own {W : World} {base n size : Nat} {e e' : TypeId} {v : Value} {xs : List Value} (h : W.ownsRow base e size v n xs) (hne : e ≠ e') : NoT (ownL v) W e' := fun g hg cs hc => by
  rcases h.2 with ⟨rfl, _⟩ | ⟨k, cap, cur, rfl, _, hk, _⟩
  · simp [ownL, Value.ownBlock] at hg
  · obtain rfl : g = k := by simpa [ownL, Value.ownBlock] using hg
    rw [hk] at hc
    injection hc with hc
    injection hc with _ hc _
    exact hne hc
theorem noT_blk {W : World} {g : Nat} {t e : TypeId} {cs : Array Value} {X : List Nat} (h : Blk W g t cs) (hne : t ≠ e) (hX : NoT X W e) : NoT (g :: X) W e := fun k hk cs' hc => by
  rcases List.mem_cons.1 hk with rfl | hk
  · have h2 : W.heap[k]? = some (.cells cs t (0, 0)) := h
    rw [h2] at hc
    injection hc with hc
    injection hc with _ hc _
    exact hne hc
  · exact hX k hk cs' hc
structure RwO (r : Rw) (W : World) : Prop where
  len : r.l.length ≤ 1000
  own : W.ownsRow 0 3 1 (.slice r.A r.l.length r.c) r.l.length (r.l.map (.int .i64))
structure FuO (f : Fu) (W : World) : Prop where
  nm : f.name.size ≤ maxLen
  len : f.ws.length ≤ 1000
  own : W.ownsRow 0 23 1 (.slice f.A f.ws.length f.c) f.ws.length (f.ws.flatMap cRw)
  rows : ∀ r ∈ f.ws, RwO r W
structure MdO (m : Md) (W : World) : Prop where
  nm : m.name.size ≤ maxLen
  row : RwO m.r W
theorem own_cap {W : World} {b n c sz : Nat} {e : TypeId} {A : Option Addr} {xs : List Value} (h : W.ownsRow b e sz (.slice A n c) n xs) : n ≤ c := by
  rcases h.2 with ⟨e, h⟩ | ⟨_, _, _, e, _, _, h, _⟩
  · omega
  · injection e with _ _ e
    omega
theorem RwO.row {r : Rw} {W : World} (h : RwO r W) : RwIn r W := ⟨h.len, own_cap h.own, own_sl h.own⟩
theorem FuO.fu {f : Fu} {W : World} (h : FuO f W) : FuIn f W := ⟨h.nm, h.len, own_cap h.own, own_slC (cs := cRw) (fun _ => rfl) (by decide) h.own, fun r hr => (h.rows r hr).row⟩
theorem MdO.md {m : Md} {W : World} (h : MdO m W) : MdIn m W := ⟨h.nm, h.row.row⟩
theorem RwO.keep {r : Rw} {X : List Nat} {W W' : World} (h : RwO r W) (hb : BX X W W') (hX : NoT X W 3) : RwO r W' := ⟨h.len, own_keepT h.own hb hX⟩
theorem FuO.keep {f : Fu} {X : List Nat} {W W' : World} (h : FuO f W) (hb : BX X W W') (hX : NoT X W 3) (hY : NoT X W 23) : FuO f W' := ⟨h.nm, h.len, own_keepT h.own hb hY, fun r hr => (h.rows r hr).keep hb hX⟩
theorem MdO.keep {m : Md} {X : List Nat} {W W' : World} (h : MdO m W) (hb : BX X W W') (hX : NoT X W 3) : MdO m W' := ⟨h.nm, h.row.keep hb hX⟩
theorem noT_nil (W : World) (e : TypeId) : NoT [] W e := fun g hg => by simp at hg
theorem RwO.below {r : Rw} {W W' : World} (h : RwO r W) (hb : Below W.heap.size W W') : RwO r W' := h.keep (bx_bl [] hb) (noT_nil _ _)
theorem FuO.below {f : Fu} {W W' : World} (h : FuO f W) (hb : Below W.heap.size W W') : FuO f W' := h.keep (bx_bl [] hb) (noT_nil _ _) (noT_nil _ _)
theorem MdO.below {m : Md} {W W' : World} (h : MdO m W) (hb : Below W.heap.size W W') : MdO m W' := h.keep (bx_bl [] hb) (noT_nil _ _)
set_option maxHeartbeats 2000000 in
theorem r_CopyTexts (l : List ByteArray) (A : Option Addr) (c : Nat) (w : World) (hs : Sl cS 1 w A l) (hl : l.length ≤ 1000) :
    Calls Tryz.prog 85 #[.slice A l.length c] w (fun e w' => ∃ A2 c2, e = .returned (.slice A2 l.length c2) ∧ Below w.heap.size w w' ∧ w'.ownsRow w.heap.size 9 1 (.slice A2 l.length c2) l.length (l.flatMap cS)) := by
  obtain ⟨i0, hi, hz0, hz1, hz2⟩ := info_parts infoS
  have Hs := Lib.hid hs
  clear hs
  go_enter Tryz.func85, Tryz.ntmps85
  go_wp2_with (at_builtin; refine wpList_plain rfl fun _ hK => wp_copy (cs := cS) (l := l) (A := A) (c := c) (g := w.heap.size) _ _ rfl Tryz.underlying54 hi hz0 hz1 hz2 rfl (by decide) (fun _ => rfl) (fun x u hu => by simp [cS] at hu; subst hu; rfl) rfl rfl (Hs.out.below (bl_al _ (bl_refl _))) hl (by decide) (Blk.new w _ _) (fun A2 c2 w' ho hb => hK _ _ ?_))
  have hb2 : Below w.heap.size w w' := bl_tr (bl_al _ (bl_refl w)) hb
  replace ho := Lib.hid ho
  clear hb
  go_wp2
  go_ret
  exact ⟨A2, c2, rfl, hb2, ho.out⟩
/-- A copy of lists of numbers. -/
def LsO (ls : List (List Int)) (A : Option Addr) (c : Nat) (W : World) : Prop :=
  ∃ ws : List Rw, (ws.map fun r : Rw => r.l) = ls ∧ W.ownsRow 0 23 1 (.slice A ls.length c) ls.length (ws.flatMap cRw) ∧ ∀ r ∈ ws, RwO r W
theorem LsO.below {ls : List (List Int)} {A : Option Addr} {c : Nat} {W W' : World} (h : LsO ls A c W) (hb : Below W.heap.size W W') : LsO ls A c W' := by
  obtain ⟨ws, h1, h2, h3⟩ := h
  exact ⟨ws, h1, own_below h2 hb, fun r hr => (h3 r hr).below hb⟩
set_option maxHeartbeats 4000000 in
theorem r_CopyLists (ls : List Rw) (A : Option Addr) (c : Nat) (w : World) (hs : Sl cRw 1 w A ls) (hr : ∀ r ∈ ls, RwIn r w) (hl : ls.length ≤ 1000) :
    Calls Tryz.prog 86 #[.slice A ls.length c] w (fun e w' => ∃ A2 c2, e = .returned (.slice A2 ls.length c2) ∧ Below w.heap.size w w' ∧ LsO (ls.map fun r : Rw => r.l) A2 c2 w') := by
  obtain ⟨i0, hi, hz0, hz1, hz2⟩ := info_parts infoLs
  have hci := Lib.hid fun (r : Rw) (h : r ∈ ls) W (hb : Below w.heap.size w W) => r_CopyInts r.l r.A r.c W ((hr r h).sl.below hb) (hr r h).len
  have hrl := Lib.hid fun (r : Rw) (h : r ∈ ls) => (hr r h).len
  have Hs := Lib.hid hs
  clear hs hr
  obtain ⟨n, Hn⟩ : ∃ n, Hid (ls.length = n) := ⟨_, rfl⟩
  rw [Hn.out] at hl ⊢
  go_enter Tryz.func86, Tryz.ntmps86
  go_wp2
  go_loopw [3, 4] (fun v i wr => ∃ (k : Nat) (ws : List Rw), k ≤ n ∧ i = .int .i64 k ∧ (ws.map fun r : Rw => r.l) = (ls.take k).map (fun r : Rw => r.l) ∧ Below w.heap.size w wr ∧ wr.ownsRow w.heap.size 23 1 v k (ws.flatMap cRw) ∧ ∀ r ∈ ws, RwO r wr) (fun _ i _ => n - (intOf i).toNat)
  case atStart => exact ⟨0, [], Nat.zero_le _, rfl, rfl, bl_refl _, World.ownsRow_nil _ _ _ _, fun r hr => by simp at hr⟩
  case round =>
    obtain ⟨k, ws, hk, rfl, hws, hb0, ho, hro⟩ := hrel
    replace hws := Lib.hid hws
    replace ho := Lib.hid ho
    replace hro := Lib.hid hro
    by_cases hkn : k < n
    rotate_left
    · obtain rfl : n = k := by omega
      obtain ⟨A5, c5, hv⟩ := own_slice ho.out
      subst hv
      go_wp2
      go_ret
      refine ⟨A5, c5, rfl, hb0, ws, ?_, ?_, hro.out⟩
      · rw [hws.out, ← Hn.out, List.take_length]
      · have e : (ls.map fun r : Rw => r.l).length = n := by rw [List.length_map, Hn.out]
        rw [e]
        exact own_mono (Nat.zero_le _) ho.out
    have hx : ls[k]? = some (ls[k]'(by rw [Hn.out]; exact hkn)) := List.getElem?_eq_getElem _
    generalize ls[k]'(by rw [Hn.out]; exact hkn) = r at hx
    have hm := List.mem_of_getElem? hx
    have hcr := Lib.hid (hci.out r hm)
    have hrn := hrl.out r hm
    have htk := Lib.hid (show (ls.take (k + 1)).map (fun r : Rw => r.l) = (ls.take k).map (fun r : Rw => r.l) ++ [r.l] by rw [List.take_add_one, hx]; simp)
    obtain ⟨b, off, rfl, hc⟩ := Hs.out k r hx
    have c0 : wr.cell? ⟨b, off + k, none⟩ = some (.slice r.A r.l.length r.c) := by simpa using kcell hb0 (hc 0 _ rfl)
    clear hc hx hm
    obtain ⟨rA, rc, rl⟩ := r
    dsimp only at *
    obtain ⟨ll, Hl⟩ : ∃ k, Hid (rl.length = k) := ⟨_, rfl⟩
    rw [Hl.out] at c0 hcr hrn
    go_wp2_with fail
    refine (hcr.out _ hb0).mono ?_
    rintro e w3 ⟨A2, c2, rfl, hb3, ho3⟩
    rw [Hl.out]
    have hoB := Lib.hid (own_below ho.out (bl_tr hb3 (bl_al (.cells #[.slice A2 ll c2] 23) (bl_refl w3))))
    have hkB := Lib.hid (Blk.new w3 23 #[.slice A2 ll c2])
    have hsz := hb0.size
    have hsz3 := hb3.size
    clear c0 hcr
    go_wp2_with (at_builtin; refine wpList_plain rfl fun _ hK => wp_appT _ _ rfl Tryz.underlying53 hi hz0 hz1 hz2 rfl (by decide) _ k _ [.slice A2 ll c2] rfl rfl hoB.out hkB.out rfl (by intro u hu; simp at hu; subst hu; rfl) (by unfold maxLen; omega) (by omega) (by simp; omega) (fun v' w4 hown hbx hv' => hK _ _ ?_))
    have hbn := bl_al (.cells #[.slice A2 ll c2] 23) (bl_refl w3)
    have hge := ownL_ge hoB.out
    have hb9 : Below w.heap.size w w4 := bx_below (bl_tr (bl_tr hb0 hb3) hbn) hbx hge
    have hnoT := noT_own hoB.out (show 23 ≠ 3 by decide)
    have hnew : RwO ⟨A2, c2, rl⟩ w4 := ⟨by rw [Hl.out]; exact hrn, own_keepT (own_below (own_mono (Nat.zero_le _) ho3) hbn) hbx hnoT⟩
    have hold : ∀ r ∈ ws, RwO r w4 := fun r hr => (((hro.out r hr).below hb3).below hbn).keep hbx hnoT
    have hown9 := Lib.hid (show w4.ownsRow w.heap.size 23 1 v' (k + 1) ((ws ++ [(⟨A2, c2, rl⟩ : Rw)]).flatMap cRw) by
      have e : (ws ++ [(⟨A2, c2, rl⟩ : Rw)]).flatMap cRw = ws.flatMap cRw ++ [.slice A2 ll c2] := by rw [← Hl.out]; simp [cRw]
      rw [e]
      exact hown)
    clear hoB hkB hge hbx hown hv' hnoT hbn ho ho3 hb0 hb3
    go_wp2
    go_roundw
    case rel =>
      refine ⟨k + 1, ws ++ [⟨A2, c2, rl⟩], by omega, by go_num, ?_, hb9, hown9.out, fun r hr => ?_⟩
      · rw [List.map_append, hws.out, htk.out]
        rfl
      · rcases List.mem_append.1 hr with hr | hr
        · exact hold r hr
        · have := List.mem_singleton.1 hr
          subst this
          exact hnew
    case measure => simp [intOf]; omega
end Go.Proofs.YtbdgblnccjpahaaGreatDoor
