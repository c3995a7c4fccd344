/-
  What the laws on nets use: the contracts at a copy of a net, and that both sides mean the same.
  Walk: the law on nets.
  Plain: faults in nets: ascending indexes, more faults, the smallest failures.
  Walk: the law on faults. (Printed by gen_faults.py.)
-/
import Derived.Test.YtdlmkblmljhbfaaDoorVFaults3
import Derived.Test.YtdlmkblmljhbfaaDoorVFaults2
import Derived.Test.YtdlmkblmljhbfaaDoorU6
import Derived.Test.YtdlmkblmljhbfaaDoorU5
namespace Go.Proofs.YtdlmkblmljhbfaaDoor
set_option linter.unusedSimpArgs false
set_option linter.unusedVariables false
open Go.RowKit Go.Shelf
set_option maxRecDepth 20000
/-! ### The contracts at a copy. -/
section
variable {n m : Nt} {Bp Bf Bm : Option Addr} {dp df dm : Nat} {W : World}
theorem q_CheckNet (h : NtEq n m) (hm : NtIn m Bp Bf Bm dp df dm W) : Calls Tryd.prog 49 #[vNt Bp Bf Bm n.ps.length n.fs.length n.ms.length dp df dm] W (Ret (.tuple #[.int .i64 (netChk n).1, .int .i64 (netChk n).2]) W) := by
  have := c_CheckNet m Bp Bf Bm dp df dm W hm
  rw [h.chk, h.ps, h.flen, h.mlen] at this
  exact this
theorem NtEq.flt (h : NtEq n m) (l : List Int) : fltE m l = fltE n l := by unfold fltE; rw [h.err, h.ps]
theorem NtEq.work (h : NtEq n m) (s : Nat) : workN m.fs s m.fs.length = workN n.fs s n.fs.length := by rw [workN_con h.fs, h.flen]
theorem NtEq.after (h : NtEq n m) (l : List Int) : afterS m l = afterS n l := by unfold afterS; rw [h.work]
theorem idxF_map {α β : Type} (g : α → β) (p : β → Bool) : ∀ (l : List α) (k : Int), idxF (fun x => p (g x)) l k = idxF p (l.map g) k
  | [], _ => rfl
  | x :: l, k => by simp only [idxF, List.map_cons, idxF_map g p l (k + 1)]
theorem NtEq.modI (h : NtEq n m) (l : List Int) : modI m l = modI n l := by
  unfold Go.Proofs.YtdlmkblmljhbfaaDoor.modI
  rw [h.work]
  have := fun k : List Md => idxF_map Md.con (fun c : ByteArray × List Int => modeB c.2 (workN n.fs (setN l) n.fs.length)) k 0
  have e : ∀ k : List Md, idxF (fun m : Md => modeB m.r.l (workN n.fs (setN l) n.fs.length)) k 0 = idxF (fun c : ByteArray × List Int => modeB c.2 (workN n.fs (setN l) n.fs.length)) (k.map Md.con) 0 := this
  rw [e, e, h.ms]
theorem NtEq.modR (h : NtEq n m) (l : List Int) : modR m l = modR n l := by
  unfold Go.Proofs.YtdlmkblmljhbfaaDoor.modR
  rw [h.flt, h.modI]
theorem NtEq.cutErr (h : NtEq n m) (k : Int) : cutErr m k = cutErr n k := by
  unfold Go.Proofs.YtdlmkblmljhbfaaDoor.cutErr
  rw [h.err, h.flen]
theorem NtEq.marE (h : NtEq n m) (k : Int) : marE m k = marE n k := by
  unfold Go.Proofs.YtdlmkblmljhbfaaDoor.marE
  rw [h.err, h.mlen]
theorem NtEq.szS (h : NtEq n m) (l : List Int) : szS m l = szS n l := by
  unfold Go.Proofs.YtdlmkblmljhbfaaDoor.szS
  rw [h.ps]
  apply List.map_congr_left
  intro x _
  have h1 := congrArg (fun l => l[x.toNat]?) h.fs
  simp only [List.getElem?_map] at h1
  cases ha : m.fs[x.toNat]? with
  | none =>
    rw [ha] at h1
    cases hb : n.fs[x.toNat]? with
    | none => rfl
    | some y => rw [hb] at h1; cases h1
  | some a =>
    rw [ha] at h1
    cases hb : n.fs[x.toNat]? with
    | none => rw [hb] at h1; cases h1
    | some y =>
      rw [hb] at h1
      have : a.con = y.con := by injection h1
      simp only [cutS_con this]
theorem NtEq.marR (h : NtEq n m) (k : Int) : marR m k = marR n k := by
  unfold Go.Proofs.YtdlmkblmljhbfaaDoor.marR
  rw [h.marE]
  have h1 := congrArg (fun l => l[k.toNat]?) h.ms
  simp only [List.getElem?_map] at h1
  cases ha : m.ms[k.toNat]? with
  | none =>
    rw [ha] at h1
    cases hb : n.ms[k.toNat]? with
    | none => rfl
    | some y => rw [hb] at h1; cases h1
  | some a =>
    rw [ha] at h1
    cases hb : n.ms[k.toNat]? with
    | none => rw [hb] at h1; cases h1
    | some y =>
      rw [hb] at h1
      have : a.con = y.con := by injection h1
      have e : a.r.l = y.r.l := congrArg Prod.snd this
      simp only [e, h.szS]
theorem q_WorksAfter (h : NtEq n m) (hm : NtIn m Bp Bf Bm dp df dm W) (hT : Tab W) (l : List Int) (A : Option Addr) (c : Nat) (hs : Sl cI 1 W A l) (hl : l.length ≤ 1000) :
    Calls Tryd.prog 50 #[vNt Bp Bf Bm n.ps.length n.fs.length n.ms.length dp df dm, .slice A l.length c] W (fun e w' => Below W.heap.size W w' ∧
      ((fltE n l ≠ 0 ∧ e = .returned (.tuple #[.slice none 0 0, .int .i64 (fltE n l)])) ∨
        (fltE n l = 0 ∧ ∃ A2 c2, e = .returned (.tuple #[.slice A2 (afterS n l).length c2, .int .i64 0]) ∧ Sl cI 1 w' A2 (afterS n l)))) := by
  have := c_WorksAfter m l Bp Bf Bm A dp df dm c W hm hs hl hT
  rw [h.flt, h.after, h.ps, h.flen, h.mlen] at this
  exact this
theorem q_ModeAfter (h : NtEq n m) (hm : NtIn m Bp Bf Bm dp df dm W) (l : List Int) (A : Option Addr) (c : Nat) (hs : Sl cI 1 W A l) (hl : l.length ≤ 1000) :
    Calls Tryd.prog 51 #[vNt Bp Bf Bm n.ps.length n.fs.length n.ms.length dp df dm, .slice A l.length c] W (Ret (.tuple #[.int .i64 (modR n l).1, .int .i64 (modR n l).2]) W) := by
  have := c_ModeAfter m l Bp Bf Bm A dp df dm c W hm hs hl
  rw [h.modR, h.ps, h.flen, h.mlen] at this
  exact this
theorem q_MarginOf (h : NtEq n m) (hm : NtIn m Bp Bf Bm dp df dm W) (hT : Tab W) (k : Int) : Calls Tryd.prog 35 #[vNt Bp Bf Bm n.ps.length n.fs.length n.ms.length dp df dm, .int .i64 k] W (Ret (.tuple #[.int .i64 (marR n k).1, .int .i64 (marR n k).2]) W) := by
  have := c_MarginOf m k Bp Bf Bm dp df dm W hm hT
  rw [h.marR, h.ps, h.flen, h.mlen] at this
  exact this
theorem q_CutOf (h : NtEq n m) (hm : NtIn m Bp Bf Bm dp df dm W) (hT : Tab W) (k : Int) :
    Calls Tryd.prog 33 #[vNt Bp Bf Bm n.ps.length n.fs.length n.ms.length dp df dm, .int .i64 k] W (fun e w' => Below W.heap.size W w' ∧
      ((cutErr n k ≠ 0 ∧ e = .returned (.tuple #[.slice none 0 0, .int .i64 (cutErr n k)])) ∨
        (cutErr n k = 0 ∧ ∃ f, n.fs[k.toNat]? = some f ∧ ∃ A c, e = .returned (.tuple #[.slice A (listS (cutS f n.ps.length)).length c, .int .i64 0]) ∧ Sl cI 1 w' A (listS (cutS f n.ps.length))))) := by
  have := c_CutOf m k Bp Bf Bm dp df dm W hm hT
  rw [h.cutErr, h.ps, h.flen, h.mlen] at this
  refine this.mono fun e w' ⟨hb, hh⟩ => ⟨hb, ?_⟩
  rcases hh with hh | ⟨h0, f, hf, A, c, he, ho⟩
  · exact .inl hh
  · obtain ⟨g, hg, hc⟩ := h.symm.fget hf
    rw [cutS_con hc.symm] at he ho
    exact .inr ⟨h0, g, hg, A, c, he, own_sl ho⟩
end
/-! ### Both sides mean the same. -/
theorem not_bit {left k : Nat} (hl : left < 1024) (hk : k < 64) : (18446744073709551615 - left).testBit k = !left.testBit k := by
  have : 18446744073709551615 - left = 2 ^ 64 - (left + 1) := by omega
  rw [this, Nat.testBit_two_pow_sub_succ (by omega)]
  simp [hk]
theorem modeB_all {needs : List Int} {left : Nat} (hn : ∀ x ∈ needs, 0 ≤ x ∧ x < 10) (hl : left < 1024) : modeB needs left = needs.all fun x => left.testBit x.toNat := by
  unfold modeB
  rw [Bool.eq_iff_iff, beq_iff_eq, List.all_eq_true]
  constructor
  · intro h x hx
    obtain ⟨h0, h1⟩ := hn x hx
    have h2 := congrArg (fun n => n.testBit x.toNat) h
    have h3 : ((x.toNat : Nat) : Int) = x := by omega
    simp only [Nat.testBit_and, setN_bit needs (fun y hy => (hn y hy).1), not_bit hl (show x.toNat < 64 by omega), Nat.zero_testBit, h3, hx, decide_true, Bool.true_and, Bool.not_eq_false'] at h2
    exact h2
  · intro h
    apply Nat.eq_of_testBit_eq
    intro k
    rw [Nat.testBit_and, setN_bit needs (fun y hy => (hn y hy).1), Nat.zero_testBit]
    by_cases hk : (k : Int) ∈ needs
    · have h1 := h _ hk
      have h2 := (hn _ hk).2
      rw [Int.toNat_natCast] at h1
      rw [not_bit hl (show k < 64 by omega), h1]
      simp
    · simp [hk]
theorem need_bit {fs : List Fu} {l : List Int} (hf : ∀ f ∈ fs, NonNeg f) (hb : ∀ x ∈ l, 0 ≤ x) {x : Int} (hx : x.toNat < fs.length) : (workN fs (setN l) fs.length).testBit x.toNat = needB fs l x := by
  rw [workN_bit, decide_eq_true hx, Bool.true_and]
  unfold needB
  rw [List.getElem?_eq_getElem hx]
  simp only
  exact wks_works (hf _ (List.getElem_mem hx)) hb
structure NtOk (n : Nt) : Prop where
  p10 : n.ps.length ≤ 10
  f10 : n.fs.length ≤ 10
  m6 : n.ms.length ≤ 6
  p1 : 1 ≤ n.ps.length
  nn : ∀ f ∈ n.fs, NonNeg f
  st : ∀ f ∈ n.fs, Stops f n.ps.length
  need : NeedOk n
  ways : ∀ f ∈ n.fs, ∀ r ∈ f.ws, 0 < r.l.length ∧ ∀ x ∈ r.l, 0 ≤ x ∧ x < n.ps.length
theorem waysE_pos {parts : Int} : ∀ (ws : List Rw) (e : Int), waysE parts e ws = 0 → e = 0 ∧ ∀ r ∈ ws, 0 < r.l.length
  | [], e, h => ⟨h, by simp⟩
  | r :: ws, e, h => by
    obtain ⟨h1, h2⟩ := waysE_pos ws _ h
    obtain ⟨h3, h4⟩ := (fst_cons _ _).1 h1
    obtain ⟨h5, h6⟩ := (fst_cons _ _).1 h4
    have h7 := (unl_zero (by decide)).1 h5
    refine ⟨h3, fun r' hr => ?_⟩
    rcases List.mem_cons.1 hr with rfl | hr
    · exact of_decide_eq_true h7
    · exact h2 r' hr
theorem net_ok {n : Nt} (h : netErr n = 0) : NtOk n := by
  obtain ⟨o1, o2, o3⟩ := netErr_ok h
  obtain ⟨o4, o5⟩ := net_md h
  have hw : ∀ f ∈ n.fs, ∀ r ∈ f.ws, 0 < r.l.length := by
    unfold netErr netChk at h
    split at h
    · split at h
      · split at h
        · rename_i h2
          intro f hf r hr
          obtain ⟨k, hk⟩ := List.mem_iff_getElem?.1 hf
          have b1 := eachS_ok _ n.fs 0 h2 k f hk
          exact (waysE_pos f.ws _ b1).2 r hr
        · rename_i h2
          exact absurd h h2
      · rename_i h1
        exact absurd h h1
    · rename_i h0
      exact absurd h h0
  have hp : 1 ≤ n.ps.length := by
    by_cases h0 : n.ps.length = 0
    · have e := e0_zero h0
      unfold netErr netChk at h
      rw [if_neg (by rw [e]; decide)] at h
      exact absurd (e.symm.trans h) (by decide)
    · omega
  exact ⟨o1, o2, o4, hp, fun f hf r hr x hx => (o3 f hf r hr x hx).1, fun f hf => stops_of fun r hr => ⟨hw f hf r hr, o3 f hf r hr⟩, fun m hm x hx => o5 m hm x hx, fun f hf r hr => ⟨hw f hf r hr, o3 f hf r hr⟩⟩
theorem NtOk.cut {n : Nt} (h : NtOk n) : CutOk n := ⟨h.p10, fun f hf => ⟨h.nn f hf, h.st f hf⟩⟩
theorem after_all {n : Nt} {l : List Int} (h : NtOk n) (hb : ∀ x ∈ l, 0 ≤ x) : afterS n l = allS n.fs l := list_all h.f10 h.nn hb
theorem idxF_congr {α : Type} {p q : α → Bool} : ∀ (l : List α) (k : Int), (∀ x ∈ l, p x = q x) → idxF p l k = idxF q l k
  | [], _, _ => rfl
  | x :: l, k, h => by
    rw [idxF, idxF, h x (by simp), idxF_congr l (k + 1) fun y hy => h y (List.mem_cons_of_mem _ hy)]
theorem all_congr2 {α : Type} {l : List α} {p q : α → Bool} (h : ∀ x ∈ l, p x = q x) : l.all p = l.all q := by
  induction l with
  | nil => rfl
  | cons x l ih => rw [List.all_cons, List.all_cons, h x (by simp), ih fun y hy => h y (List.mem_cons_of_mem _ hy)]
theorem mode_eq {n : Nt} {l : List Int} (h : NtOk n) (hb : ∀ x ∈ l, 0 ≤ x) : modI n l = idxF (hasB n.fs l) n.ms 0 := by
  refine idxF_congr n.ms 0 fun m hm => ?_
  have h1 := h.need m hm
  have h2 := h.f10
  rw [modeB_all (fun x hx => by have := h1 x hx; omega) (work_lt h2 _)]
  unfold hasB
  exact all_congr2 fun x hx => need_bit h.nn hb (by have := h1 x hx; omega)
theorem idxF_lt {α : Type} (p : α → Bool) : ∀ (l : List α) (k : Int), idxF p l k = -1 ∨ (k ≤ idxF p l k ∧ idxF p l k < k + l.length)
  | [], _ => .inl rfl
  | x :: l, k => by
    rw [idxF]
    split
    · right; simp; omega
    · rcases idxF_lt p l (k + 1) with h | h
      · exact .inl h
      · right; simp; omega
theorem size_le {f : Fu} {p : Nat} (hp : p ≤ 10) : sizeS (cutS f p) ≤ p := by
  have h1 := Nat.two_pow_pos p
  have hlt : ∀ k, k ≤ 2 ^ p → cutTo f (2 ^ p - 1) k < 2 ^ p := by
    intro k
    induction k with
    | zero => intro _; rw [cutTo]; omega
    | succ k ih =>
      intro hk
      rw [cutTo]
      split
      · omega
      · exact ih (by omega)
  have h2 : cutS f p < 2 ^ p := hlt _ (Nat.le_refl _)
  unfold sizeS
  rw [← setL_list hp h2]
  exact setL_len _ p
theorem szS_le {n : Nt} (hp : n.ps.length ≤ 10) (l : List Int) : ∀ x ∈ szS n l, x ≤ n.ps.length := fun x hx => by
  unfold szS at hx
  obtain ⟨y, -, rfl⟩ := List.mem_map.1 hx
  split
  · have := size_le (f := ‹Fu›) hp; omega
  · omega
theorem margin_eq {n : Nt} (hp : n.ps.length ≤ 10) {l : List Int} (hl : l.length ≠ 0) : mgK n.ps.length (szS n l) l.length = minS (szS n l) := by
  have h1 := szS_le hp l
  have h2 := szS_len n l
  unfold mgK
  rw [List.take_of_length_le (by omega)]
  cases hz : szS n l with
  | nil => rw [hz] at h2; simp at h2; omega
  | cons x z =>
    have := h1 x (by rw [hz]; simp)
    unfold minS
    rw [List.foldl_cons, show min (n.ps.length : Int) x = x by omega]
theorem cut_eq {n : Nt} (h : NtOk n) {k : Nat} {f : Fu} (hf : n.fs[k]? = some f) : (rcut f n.ps.length (2 ^ n.ps.length)).2 = listS (cutS f n.ps.length) := by
  rw [rcut_end h.p10 (h.nn f (List.mem_of_getElem? hf)) (h.st f (List.mem_of_getElem? hf))]
end Go.Proofs.YtdlmkblmljhbfaaDoor
namespace Go.Proofs.YtdlmkblmljhbfaaDoor
set_option linter.unusedSimpArgs false
set_option linter.unusedVariables false
open Go.RowKit Go.Shelf
attribute [local go_sem] bl_al bl_drew bl_drewN bl_refl bx_al bx_drew bx_drewN bx_refl
set_option maxRecDepth 20000
/-- Numbers, or an error and none. -/
def NumP (w : World) (V : Int) (L : List Int) (e : Ending) (w' : World) : Prop :=
  Below w.heap.size w w' ∧ ∃ A3 n c3, e = .returned (.tuple #[.slice A3 (n : Nat) c3, .int .i64 V]) ∧ (V ≠ 0 → n = 0) ∧ (V = 0 → n = L.length ∧ Sl cI 1 w' A3 L)
theorem flt_net {n : Nt} {l : List Int} (h : netErr n ≠ 0) : fltE n l = netErr n := by simp [fltE, fstE, h]
theorem flt_idx {n : Nt} {l : List Int} (h : netErr n = 0) : fltE n l = idxErr l n.ps.length := by
  simp [fltE, fstE, h]
  exact fun h => h.symm
set_option maxHeartbeats 0 in
theorem r_BusNets (n : Nt) (l : List Int) (Ap Af Am A : Option Addr) (cp cf cm c : Nat) (w : World) (hn : NtR n Ap Af Am cp cf cm w) (hs : Sl cI 1 w A l) (hT : Tab w) :
    Calls Tryd.prog 8 #[vNt Ap Af Am n.ps.length n.fs.length n.ms.length cp cf cm, .slice A l.length c] w (Ret (.bool true) w) := by
  have haw := Lib.hid fun W (hb : Below w.heap.size w W) => r_awake W (hT.below hb)
  have hfw := Lib.hid (r_few n Ap Af Am cp cf cm)
  have hnr := Lib.hid hn
  have Hs := Lib.hid fun W (hb : Below w.heap.size w W) => hs.below hb
  have hTT := Lib.hid fun W (hb : Below w.heap.size w W) => hT.below hb
  have hfew := Lib.hid fun h : fewN n = true => few_net hn h
  have hfr : Hid (∀ W, Below w.heap.size w W → NtR n Ap Af Am cp cf cm W) := fun W hb => ⟨hn.pcap, hn.fcap, hn.mcap, hn.psl.below hb, hn.fsl.below hb, hn.msl.below hb, hn.pnm, fun f hf => ⟨(hn.fin f hf).nm, (hn.fin f hf).cap, (hn.fin f hf).sl.below hb, fun r hr => ⟨((hn.fin f hf).rows r hr).cap, ((hn.fin f hf).rows r hr).sl.below hb⟩⟩, fun m hm => ⟨(hn.min m hm).nm, (hn.min m hm).row.cap, (hn.min m hm).row.sl.below hb⟩⟩
  clear hn hs hT
  change Calls Tryd.prog 8 #[.agg #[.slice Ap n.ps.length cp, .slice Af n.fs.length cf, .slice Am n.ms.length cm], .slice A l.length c] w _
  dsimp only [vNt, aNt] at hfw
  have hfw2 := Lib.hid fun W (hb : Below w.heap.size w W) => hfw.out W (hfr.out W hb)
  clear hfw hfr hnr
  cases hF : fewN n
  · rw [hF] at hfw2
    clear hfew Hs hTT
    generalize n.ps.length = np at *
    generalize n.fs.length = nf at *
    generalize n.ms.length = nm at *
    generalize l.length = ll at *
    go_enter Tryd.func8, Tryd.ntmps8
    go_upto_region 1 with fail
    first
    | apply absB1 (w0 := w) (g0 := w.heap.size)
    | apply absTB1 (w0 := w) (g0 := w.heap.size)
    | apply absIB1 (w0 := w) (g0 := w.heap.size)
    iterate 2 (focus ((with_reducible (repeat' (first | assumption | apply jA | apply jB | apply jC | apply jD | apply jE | apply jF | apply hb3 | apply jG | apply jH | apply jI | apply jJ | apply jK | apply hb3x | (apply jL; first | (simp; done) | rfl) | apply jM | apply jN | apply jO | apply jP | apply jQ | apply jR | apply jS | apply jT (hb := hb3 _ (jA _)) | omega | (simp; done) | (simp; omega) | (dsimp only; omega)))); done))
    intro wa hb0' k0'
    (try simp only [List.setIfInBounds_toArray, List.set_cons_zero, List.set_cons_succ] at k0')
    try clear hb3
    try clear hb0
    try clear k0
    have hb0 := hb0'; clear hb0'
    have k0 := k0'; clear k0'
    go_wp2_with fail
    refine (haw.out wa hb0).mono ?_
    rintro e w1 ⟨rfl, hb1⟩
    replace hb0 := bl_tr hb0 hb1
    replace k0 := k0.below hb1
    have L0 := k0.cell
    clear hb1
    go_wp2_with fail
    refine (hfw2.out _ hb0).mono ?_
    rintro e w2 ⟨rfl, hb1⟩
    go_wp2
    go_ret
    exact ⟨rfl, bl_tr hb0 hb1⟩
  rw [hF] at hfw2
  obtain ⟨hni, hp12, hf12, hm8⟩ := hfew.out hF
  clear hfew hF
  by_cases hl12 : (12 : Int) < l.length
  · clear Hs hTT hni
    generalize n.ps.length = np at *
    generalize n.fs.length = nf at *
    generalize n.ms.length = nm at *
    generalize l.length = ll at *
    go_enter Tryd.func8, Tryd.ntmps8
    go_upto_region 1 with fail
    first
    | apply absB1 (w0 := w) (g0 := w.heap.size)
    | apply absTB1 (w0 := w) (g0 := w.heap.size)
    | apply absIB1 (w0 := w) (g0 := w.heap.size)
    iterate 2 (focus ((with_reducible (repeat' (first | assumption | apply jA | apply jB | apply jC | apply jD | apply jE | apply jF | apply hb3 | apply jG | apply jH | apply jI | apply jJ | apply jK | apply hb3x | (apply jL; first | (simp; done) | rfl) | apply jM | apply jN | apply jO | apply jP | apply jQ | apply jR | apply jS | apply jT (hb := hb3 _ (jA _)) | omega | (simp; done) | (simp; omega) | (dsimp only; omega)))); done))
    intro wa hb0' k0'
    (try simp only [List.setIfInBounds_toArray, List.set_cons_zero, List.set_cons_succ] at k0')
    try clear hb3
    try clear hb0
    try clear k0
    have hb0 := hb0'; clear hb0'
    have k0 := k0'; clear k0'
    go_wp2_with fail
    refine (haw.out wa hb0).mono ?_
    rintro e w1 ⟨rfl, hb1⟩
    replace hb0 := bl_tr hb0 hb1
    replace k0 := k0.below hb1
    have L0 := k0.cell
    clear hb1
    go_wp2_with fail
    refine (hfw2.out _ hb0).mono ?_
    rintro e w2 ⟨rfl, hb1⟩
    go_wp2
    go_ret
    exact ⟨rfl, bl_tr hb0 hb1⟩
  have hl1000 : l.length ≤ 1000 := by omega
  have hcp := Lib.hid fun W (hb : Below w.heap.size w W) => r_CopyNet n Ap Af Am cp cf cm W (hni.below hb)
  have hrc := Lib.hid fun W (hb : Below w.heap.size w W) => r_CheckNet n Ap Af Am cp cf cm W (hni.below hb)
  have hci := Lib.hid fun W (hb : Below w.heap.size w W) => r_CopyInts l A c W (Hs.out W hb) hl1000
  have hie := Lib.hid fun W (hb : Below w.heap.size w W) => r_IndexesErr l n.ps.length A c W (Hs.out W hb) hl1000 (by omega)
  have hal := Lib.hid fun W (hb : Below w.heap.size w W) => r_All n l Ap Af Am A cp cf cm c W (hni.below hb) (Hs.out W hb) hl1000
  have hmo := Lib.hid fun (h : netErr n = 0) W (hb : Below w.heap.size w W) => r_Mode n l Ap Af Am A cp cf cm c W (hni.below hb) (net_ok h).need (Hs.out W hb) hl1000
  have hck := Lib.hid fun (m : Nt) Bp Bf Bm dp df dm W (h : NtEq n m) (hm : NtIn m Bp Bf Bm dp df dm W) => q_CheckNet h hm
  have hwa : Hid (∀ (m : Nt) Bp Bf Bm dp df dm W, NtEq n m → NtIn m Bp Bf Bm dp df dm W → Tab W → ∀ A1 c1, Sl cI 1 W A1 l → Calls Tryd.prog 50 #[vNt Bp Bf Bm n.ps.length n.fs.length n.ms.length dp df dm, .slice A1 l.length c1] W (NumP W (fltE n l) (afterS n l))) := fun m Bp Bf Bm dp df dm W h hm hT A1 c1 hs =>
    (q_WorksAfter h hm hT l A1 c1 hs hl1000).mono fun e w' ⟨hb, hh⟩ => by
      rcases hh with ⟨h0, e3⟩ | ⟨h0, A3, c3, e3, h3⟩
      · exact ⟨hb, none, 0, 0, e3, fun _ => rfl, fun h => absurd h h0⟩
      · exact ⟨hb, A3, _, c3, by rw [h0]; exact e3, fun h => absurd h0 h, fun _ => ⟨rfl, h3⟩⟩
  have hma := Lib.hid fun (m : Nt) Bp Bf Bm dp df dm W (h : NtEq n m) (hm : NtIn m Bp Bf Bm dp df dm W) A1 c1 (hs : Sl cI 1 W A1 l) => q_ModeAfter h hm l A1 c1 hs hl1000
  have hd : (netChk n).2 = netErr n := rfl
  have hE1 := Lib.hid fun h : netErr n ≠ 0 => flt_net (l := l) h
  have hE2 := Lib.hid fun h : netErr n = 0 => flt_idx (l := l) h
  have hm1 : Hid (fltE n l ≠ 0 → modR n l = (0, fltE n l)) := fun h => by rw [modR, if_neg h]
  have hm2 : Hid (fltE n l = 0 → netErr n = 0 ∧ afterS n l = allS n.fs l ∧ modR n l = (max (idxF (hasB n.fs l) n.ms 0) 0, unl (decide (0 ≤ idxF (hasB n.fs l) n.ms 0)) 12)) := fun h => by
    have h1 := (fltE_ok h).1
    have h2 := (flt_lt h).2
    exact ⟨h1, after_all (net_ok h1) fun x hx => (h2 x hx).1, by rw [modR, if_pos h, mode_eq (net_ok h1) fun x hx => (h2 x hx).1]⟩
  have hil := Lib.hid (idxF_lt (hasB n.fs l) n.ms 0)
  have hml := hm8
  have hafl : Hid ((allS n.fs l).length ≤ n.fs.length) := by
    have key : ∀ k, (allK n.fs l k).length ≤ k := by
      intro k
      induction k with
      | zero => exact Nat.le_refl 0
      | succ k ih =>
        rw [allK, List.length_append]
        split
        · split <;> simp <;> omega
        · simp; omega
    exact Lib.hid (key _)
  dsimp only [vNt, aNt] at hcp hrc hal hmo hck hwa hma
  generalize netChk n = NC at *
  obtain ⟨ic, dc⟩ := NC
  dsimp only at hd
  subst hd
  generalize netErr n = d0 at *
  generalize fltE n l = E at *
  generalize afterS n l = AF at *
  generalize allS n.fs l = AL at *
  generalize modR n l = MR at *
  generalize idxF (hasB n.fs l) n.ms 0 = I at *
  generalize idxErr l n.ps.length = IE at *
  obtain ⟨mr, me⟩ := MR
  dsimp only at *
  generalize n.ps.length = np at *
  generalize n.fs.length = nf at *
  generalize n.ms.length = nm at *
  generalize hll : l.length = ll at *
  replace hll := Lib.hid hll
  clear hni
  go_enter Tryd.func8, Tryd.ntmps8
  go_upto_region 1 with fail
  first
  | apply absB1 (w0 := w) (g0 := w.heap.size)
  | apply absTB1 (w0 := w) (g0 := w.heap.size)
  | apply absIB1 (w0 := w) (g0 := w.heap.size)
  iterate 2 (focus ((with_reducible (repeat' (first | assumption | apply jA | apply jB | apply jC | apply jD | apply jE | apply jF | apply hb3 | apply jG | apply jH | apply jI | apply jJ | apply jK | apply hb3x | (apply jL; first | (simp; done) | rfl) | apply jM | apply jN | apply jO | apply jP | apply jQ | apply jR | apply jS | apply jT (hb := hb3 _ (jA _)) | omega | (simp; done) | (simp; omega) | (dsimp only; omega)))); done))
  intro wa hb0' k0'
  (try simp only [List.setIfInBounds_toArray, List.set_cons_zero, List.set_cons_succ] at k0')
  try clear hb3
  try clear hb0
  try clear k0
  have hb0 := hb0'; clear hb0'
  have k0 := k0'; clear k0'
  go_wp2_with fail
  refine (haw.out wa hb0).mono ?_
  rintro e w1 ⟨rfl, hb1⟩
  replace hb0 := bl_tr hb0 hb1
  replace k0 := k0.below hb1
  have L0 := k0.cell
  clear hb1 haw
  go_wp2_with fail
  refine (hfw2.out _ hb0).mono ?_
  rintro e w2 ⟨rfl, hb1⟩
  replace hb0 := bl_tr hb0 hb1
  replace k0 := k0.below hb1
  clear hb1 hfw2 L0
  have L0 := k0.cell
  go_wp2_with fail
  refine (hcp.out _ hb0).mono ?_
  rintro e w3 ⟨hb1, m, Bp, Bf, Bm, dp, df, dm, hq, hm, rfl⟩
  replace hb0 := bl_tr hb0 hb1
  replace k0 := k0.below hb1
  clear hb1 L0
  have L0 := k0.cell
  replace hm := Lib.hid hm
  go_wp2_with fail
  refine (hck.out _ _ _ _ _ _ _ _ hq hm.out).mono ?_
  rintro e w4 ⟨rfl, hb1⟩
  replace hb0 := bl_tr hb0 hb1
  replace k0 := k0.below hb1
  clear hb1 L0 hm hq
  have L0 := k0.cell
  go_wp2_with fail
  refine (hcp.out _ hb0).mono ?_
  rintro e w5 ⟨hb1, m, Bp, Bf, Bm, dp, df, dm, hq, hm, rfl⟩
  replace hb0 := bl_tr hb0 hb1
  replace k0 := k0.below hb1
  clear hb1 L0
  have L0 := k0.cell
  replace hm := Lib.hid hm
  go_wp2_with fail
  refine (hci.out _ hb0).mono ?_
  rintro e w6 ⟨A1, c1, rfl, hb1, ho⟩
  rw [hll.out] at ho ⊢
  replace hb0 := bl_tr hb0 hb1
  replace k0 := k0.below hb1
  replace hm := Lib.hid (hm.out.below hb1)
  have hs1 := Lib.hid (own_sl (L := l) (by rw [hll.out]; exact ho))
  clear hb1 L0 ho
  have L0 := k0.cell
  go_wp2_with fail
  refine (hwa.out _ _ _ _ _ _ _ _ hq hm.out (hTT.out _ hb0) _ _ hs1.out).mono ?_
  rintro e w7 ⟨hb1, A3, n3, c3, rfl, z1, q1⟩
  replace hb0 := bl_tr hb0 hb1
  replace k0 := k0.below hb1
  replace z1 := Lib.hid z1
  replace q1 := Lib.hid q1
  clear hb1 L0 hm hq hs1
  have L0 := k0.cell
  go_wp2_with fail
  refine (hcp.out _ hb0).mono ?_
  rintro e w8 ⟨hb1, m, Bp, Bf, Bm, dp, df, dm, hq, hm, rfl⟩
  replace hb0 := bl_tr hb0 hb1
  replace k0 := k0.below hb1
  replace q1 := Lib.hid fun h => (⟨(q1.out h).1, (q1.out h).2.below hb1⟩ : n3 = AF.length ∧ Sl cI 1 w8 A3 AF)
  clear hb1 L0
  have L0 := k0.cell
  replace hm := Lib.hid hm
  go_wp2_with fail
  refine (hci.out _ hb0).mono ?_
  rintro e w9 ⟨A1, c1, rfl, hb1, ho⟩
  rw [hll.out] at ho ⊢
  replace hb0 := bl_tr hb0 hb1
  replace k0 := k0.below hb1
  replace hm := Lib.hid (hm.out.below hb1)
  replace q1 := Lib.hid fun h => (⟨(q1.out h).1, (q1.out h).2.below hb1⟩ : n3 = AF.length ∧ Sl cI 1 w9 A3 AF)
  have hs1 := Lib.hid (own_sl (L := l) (by rw [hll.out]; exact ho))
  clear hb1 L0 ho
  have L0 := k0.cell
  go_wp2_with fail
  refine (hma.out _ _ _ _ _ _ _ _ hq hm.out _ _ hs1.out).mono ?_
  rintro e w10 ⟨rfl, hb1⟩
  replace hb0 := bl_tr hb0 hb1
  replace k0 := k0.below hb1
  replace q1 := Lib.hid fun h => (⟨(q1.out h).1, (q1.out h).2.below hb1⟩ : n3 = AF.length ∧ Sl cI 1 w10 A3 AF)
  clear hb1 L0 hm hq hs1
  have L0 := k0.cell
  go_wp2_with fail
  refine (hrc.out _ hb0).mono ?_
  rintro e w11 ⟨rfl, hb1⟩
  replace hb0 := bl_tr hb0 hb1
  replace k0 := k0.below hb1
  replace q1 := Lib.hid fun h => (⟨(q1.out h).1, (q1.out h).2.below hb1⟩ : n3 = AF.length ∧ Sl cI 1 w11 A3 AF)
  clear hb1 L0 hrc hcp hck hci hwa hma hTT
  have L0 := k0.cell
  have t1 : (d0 != d0) = false := by simp
  have t2 : (ic != ic) = false := by simp
  by_cases hd : d0 = 0
  rotate_left
  · have u1 : (d0 == 0) = false := by simp [hd]
    have u2 : (d0 != 0) = true := by simp [hd]
    have hE := hE1.out hd
    subst hE
    have hn3 := z1.out hd
    have hmr := hm1.out hd
    injection hmr with hmr hme
    subst hn3 hmr hme
    replace hd := Lib.hid hd
    clear hm1 hm2 hE1 hE2 z1 q1
    go_wp2
    go_ret
    exact ⟨by simp, hb0⟩
  subst hd
  have hE := hE2.out rfl
  subst hE
  clear hE1 hE2 t1
  go_wp2_with fail
  refine (hie.out _ hb0).mono ?_
  rintro e w12 ⟨rfl, hb1⟩
  replace hb0 := bl_tr hb0 hb1
  replace k0 := k0.below hb1
  replace q1 := Lib.hid fun h => (⟨(q1.out h).1, (q1.out h).2.below hb1⟩ : n3 = AF.length ∧ Sl cI 1 w12 A3 AF)
  clear hb1 L0 hie
  have L0 := k0.cell
  by_cases hd : E = 0
  rotate_left
  · have u2 : (E != 0) = true := by simp [hd]
    have hn3 := z1.out hd
    have hmr := hm1.out hd
    injection hmr with hmr hme
    subst hn3 hmr hme
    replace hd := Lib.hid hd
    clear hm1 hm2 z1 q1
    go_wp2
    go_ret
    exact ⟨by simp, hb0⟩
  subst hd
  obtain ⟨-, hal2, hmr⟩ := hm2.out rfl
  injection hmr with hmr hme
  obtain ⟨hn3, hsA⟩ := q1.out rfl
  subst hal2 hn3
  replace hmr := Lib.hid hmr
  replace hme := Lib.hid hme
  replace hsA := Lib.hid hsA
  have hmo1 := Lib.hid (hmo.out (by trivial))
  clear hm1 hm2 z1 q1 hmo
  go_wp2_with fail
  refine (hal.out _ hb0).mono ?_
  rintro e w13 ⟨A5, c5, rfl, hb1, ho⟩
  replace hb0 := bl_tr hb0 hb1
  replace k0 := k0.below hb1
  have hin := Lib.hid (r_Ints AF AF A3 A5 c3 c5 w13 (hsA.out.below hb1) (own_sl ho) (by have := hafl.out; omega) (by have := hafl.out; omega))
  have hiT : intsB AF AF = true := by simp [intsB]
  rw [hiT] at hin
  clear hb1 L0 hal ho hsA
  have L0 := k0.cell
  go_wp2_with fail
  refine (hin.out).mono ?_
  rintro e w14 ⟨rfl, hb1⟩
  replace hb0 := bl_tr hb0 hb1
  replace k0 := k0.below hb1
  clear hb1 L0 hin
  have L0 := k0.cell
  go_wp2_with fail
  refine (hmo1.out _ hb0).mono ?_
  rintro e w15 ⟨rfl, hb1⟩
  replace hb0 := bl_tr hb0 hb1
  clear hb1 L0 hmo1
  by_cases hI : 0 ≤ I
  · have e1 := hmr.out
    have e2 := hme.out
    rw [show max I 0 = I by omega] at e1
    rw [decide_eq_true hI] at e2
    change me = 0 at e2
    subst e1 e2
    go_wp2
    go_ret
    exact ⟨by simp, hb0⟩
  · have e1 := hmr.out
    have e2 := hme.out
    rw [show max I 0 = 0 by omega] at e1
    rw [decide_eq_false hI] at e2
    change me = 12 at e2
    subst e1 e2
    go_wp2
    go_ret
    exact ⟨by simp, hb0⟩
end Go.Proofs.YtdlmkblmljhbfaaDoor
namespace Go.Proofs.YtdlmkblmljhbfaaDoor
set_option linter.unusedSimpArgs false
set_option linter.unusedVariables false
/-! ### Ascending indexes. -/
structure Asc (l : List Int) (ct : Int) : Prop where
  pw : l.Pairwise (· < ·)
  rng : ∀ x ∈ l, 0 ≤ x ∧ x < ct
theorem asc_of {l : List Int} {ct : Int} (h : idxErr l ct = 0) : Asc l ct := by
  have h1 : ∀ j x, l[j]? = some x → (0 ≤ x ∧ x < ct) ∧ prevI l j < x := fun j x hx => by
    have h2 := eachS_ok (ixErr l ct) l 0 h j x hx
    rw [Nat.zero_add] at h2
    obtain ⟨h3, h4⟩ := (fst_cons _ _).1 h2
    have h5 := inR_iff.1 ((unl_zero (by decide)).1 h3)
    have h6 := (unl_zero (by decide)).1 ((fst_cons _ _).1 h4).1
    exact ⟨by omega, of_decide_eq_true h6⟩
  have hadj : ∀ j (hj : j + 1 < l.length), l[j] < l[j + 1] := fun j hj => by
    have := (h1 (j + 1) _ (List.getElem?_eq_getElem hj)).2
    simpa [prevI, List.getElem?_eq_getElem (show j < l.length by omega)] using this
  refine ⟨List.pairwise_iff_getElem.2 fun i j hi hj hij => ?_, fun x hx => ?_⟩
  · obtain ⟨d, rfl⟩ : ∃ d, j = i + 1 + d := ⟨j - i - 1, by omega⟩
    clear hij
    induction d with
    | zero => exact hadj i hj
    | succ d ih => exact Int.lt_trans (ih (by omega)) (hadj (i + 1 + d) hj)
  · obtain ⟨j, hj⟩ := List.mem_iff_getElem?.1 hx
    exact (h1 j x hj).1
theorem Asc.err {l : List Int} {ct : Int} (h : Asc l ct) : idxErr l ct = 0 := by
  rw [idxErr_eq, eachS_zero]
  intro j x hx
  rw [Nat.zero_add]
  have hr := h.rng x (List.mem_of_getElem? hx)
  refine (fst_cons _ _).2 ⟨(unl_zero (by decide)).2 (inR_iff.2 (by omega)), (fst_cons _ _).2 ⟨(unl_zero (by decide)).2 (decide_eq_true ?_), rfl⟩⟩
  unfold prevI
  cases j with
  | zero => simp; omega
  | succ j =>
    obtain ⟨h1, h2⟩ := List.getElem?_eq_some_iff.1 hx
    have := List.pairwise_iff_getElem.1 h.pw j (j + 1) (by omega) h1 (by omega)
    simp [List.getElem?_eq_getElem (show j < l.length by omega)]
    omega
theorem asc_ext : ∀ {a b : List Int}, a.Pairwise (· < ·) → b.Pairwise (· < ·) → (∀ x, x ∈ a ↔ x ∈ b) → a = b
  | [], [], _, _, _ => rfl
  | [], y :: b, _, _, h => by have := (h y).2 (by simp); simp at this
  | x :: a, [], _, _, h => by have := (h x).1 (by simp); simp at this
  | x :: a, y :: b, ha, hb, h => by
    obtain ⟨ha1, ha2⟩ := List.pairwise_cons.1 ha
    obtain ⟨hb1, hb2⟩ := List.pairwise_cons.1 hb
    have hxy : x = y := by
      rcases List.mem_cons.1 ((h x).1 (by simp)) with e | h1
      · exact e
      · rcases List.mem_cons.1 ((h y).2 (by simp)) with e | h2
        · exact e.symm
        · have := ha1 y h2
          have := hb1 x h1
          omega
    subst hxy
    congr 1
    refine asc_ext ha2 hb2 fun z => ⟨fun hz => ?_, fun hz => ?_⟩
    · rcases List.mem_cons.1 ((h z).1 (List.mem_cons_of_mem _ hz)) with e | h1
      · have := ha1 z hz; omega
      · exact h1
    · rcases List.mem_cons.1 ((h z).2 (List.mem_cons_of_mem _ hz)) with e | h1
      · have := hb1 z hz; omega
      · exact h1
theorem setL_pw (s : Nat) : ∀ k, (setL s k).Pairwise (· < ·)
  | 0 => List.Pairwise.nil
  | k + 1 => by
    rw [setL, List.pairwise_append]
    refine ⟨setL_pw s k, ?_, fun x hx y hy => ?_⟩
    · split <;> simp
    · obtain ⟨j, h1, h2, -⟩ := (setL_mem s k x).1 hx
      split at hy
      · have := List.mem_singleton.1 hy; omega
      · simp at hy
theorem asc_set {s p : Nat} : Asc (setL s p) p := ⟨setL_pw s p, fun x hx => by obtain ⟨j, h1, h2, -⟩ := (setL_mem s p x).1 hx; omega⟩
theorem asc_list {l : List Int} {p : Nat} (hp : p ≤ 10) (h : Asc l p) : listS (setN l) = l := by
  refine asc_ext (setL_pw _ 10) h.pw fun x => ?_
  rw [listS, setL_mem]
  constructor
  · rintro ⟨j, h1, rfl, h3⟩
    rw [setN_bit l (fun x hx => (h.rng x hx).1)] at h3
    exact of_decide_eq_true h3
  · intro hx
    have h1 := h.rng x hx
    have e : ((x.toNat : Nat) : Int) = x := by omega
    exact ⟨x.toNat, by omega, e.symm, by rw [setN_bit l (fun x hx => (h.rng x hx).1), e]; exact decide_eq_true hx⟩
theorem asc_lt {l : List Int} {p : Nat} (h : Asc l p) : setN l < 2 ^ p := by
  apply Nat.lt_pow_two_of_testBit
  intro j hj
  rw [setN_bit l (fun x hx => (h.rng x hx).1), decide_eq_false_iff_not]
  intro hm
  have := h.rng _ hm
  omega
theorem asc_size {l : List Int} {p : Nat} (hp : p ≤ 10) (h : Asc l p) : sizeS (setN l) = l.length := by
  unfold sizeS
  rw [asc_list hp h]
theorem Asc.erase {l : List Int} {ct : Int} (h : Asc l ct) (m : Nat) : Asc (l.take m ++ l.drop (m + 1)) ct := by
  have hs : (l.take m ++ l.drop (m + 1)).Sublist l := by
    have h1 : (l.drop (m + 1)).Sublist (l.drop m) := by
      rw [← List.drop_drop]
      exact List.drop_sublist 1 _
    have := (List.Sublist.refl (l.take m)).append h1
    rwa [List.take_append_drop] at this
  exact ⟨h.pw.sublist hs, fun x hx => h.rng x (hs.subset hx)⟩
/-! ### More faults. -/
def moreK (l : List Int) (p : Int) : Nat → List Int
  | 0 => []
  | k + 1 => moreK l p k ++ if ((k : Int) == p) || l.contains (k : Int) then [(k : Int)] else []
theorem moreK_mem (l : List Int) (p : Int) : ∀ (k : Nat) (x : Int), x ∈ moreK l p k ↔ ∃ j : Nat, j < k ∧ x = j ∧ (((j : Int) == p) || l.contains (j : Int)) = true
  | 0, x => by simp [moreK]
  | k + 1, x => by
    rw [moreK, List.mem_append, moreK_mem l p k x]
    constructor
    · rintro (⟨j, h1, h2, h3⟩ | h)
      · exact ⟨j, by omega, h2, h3⟩
      · split at h
        · rename_i hb
          exact ⟨k, by omega, by simpa using h, hb⟩
        · simp at h
    · rintro ⟨j, h1, h2, h3⟩
      by_cases e : j = k
      · subst e
        right
        rw [if_pos h3]
        simpa using h2
      · exact .inl ⟨j, by omega, h2, h3⟩
theorem moreK_asc (l : List Int) (p : Int) (k : Nat) : Asc (moreK l p k) k := by
  refine ⟨?_, fun x hx => by obtain ⟨j, h1, h2, -⟩ := (moreK_mem l p k x).1 hx; omega⟩
  induction k with
  | zero => exact List.Pairwise.nil
  | succ k ih =>
    rw [moreK, List.pairwise_append]
    refine ⟨ih, ?_, fun x hx y hy => ?_⟩
    · split <;> simp
    · obtain ⟨j, h1, h2, -⟩ := (moreK_mem l p k x).1 hx
      split at hy
      · have := List.mem_singleton.1 hy; omega
      · simp at hy
theorem moreK_len (l : List Int) (p : Int) : ∀ k, (moreK l p k).length ≤ k
  | 0 => Nat.le_refl 0
  | k + 1 => by
    have := moreK_len l p k
    rw [moreK, List.length_append]
    split <;> simp <;> omega
theorem moreK_sub {l : List Int} {p : Int} {k : Nat} (h : Asc l k) : ∀ x ∈ l, x ∈ moreK l p k := fun x hx => by
  have h1 := h.rng x hx
  have e : ((x.toNat : Nat) : Int) = x := by omega
  exact (moreK_mem l p k x).2 ⟨x.toNat, by omega, e.symm, by rw [e]; simp [hx]⟩
theorem wksB_mono {f : Fu} {a b : List Int} (h : ∀ x ∈ a, x ∈ b) (hb : wksB f b = true) : wksB f a = true := by
  unfold wksB at hb ⊢
  rw [List.any_eq_true] at hb ⊢
  obtain ⟨r, hr, hx⟩ := hb
  refine ⟨r, hr, ?_⟩
  rw [List.all_eq_true] at hx ⊢
  intro x hm
  have h1 := hx x hm
  simp only [Bool.not_eq_true', Bool.eq_false_iff, ne_eq, List.contains_iff_mem] at h1 ⊢
  exact fun h2 => h1 (h x h2)
theorem allK_mem (fs : List Fu) (l : List Int) : ∀ (k : Nat) (x : Int), x ∈ allK fs l k ↔ ∃ (j : Nat) (f : Fu), j < k ∧ x = j ∧ fs[j]? = some f ∧ wksB f l = true
  | 0, x => by simp [allK]
  | k + 1, x => by
    rw [allK, List.mem_append, allK_mem fs l k x]
    constructor
    · rintro (⟨j, f, h1, h2, h3⟩ | h)
      · exact ⟨j, f, by omega, h2, h3⟩
      · cases hf : fs[k]? with
        | none => rw [hf] at h; simp at h
        | some f =>
          rw [hf] at h
          simp only at h
          split at h
          · rename_i hb
            exact ⟨k, f, by omega, by simpa using h, hf, hb⟩
          · simp at h
    · rintro ⟨j, f, h1, h2, h3, h4⟩
      by_cases e : j = k
      · subst e
        right
        rw [h3]
        simp only
        rw [if_pos h4]
        simpa using h2
      · exact .inl ⟨j, f, by omega, h2, h3, h4⟩
theorem all_has {fs : List Fu} {l : List Int} {j : Nat} {f : Fu} (hf : fs[j]? = some f) : (allS fs l).contains (j : Int) = wksB f l := by
  rw [Bool.eq_iff_iff, List.contains_iff_mem, allS, allK_mem]
  constructor
  · rintro ⟨i, g, -, h2, h3, h4⟩
    obtain rfl : j = i := by omega
    rw [hf] at h3
    injection h3 with h3
    rw [h3]
    exact h4
  · exact fun h => ⟨j, f, (List.getElem?_eq_some_iff.1 hf).1, rfl, hf, h⟩
theorem all_sub {fs : List Fu} {a b : List Int} (h : ∀ x ∈ a, x ∈ b) : ∀ x ∈ allS fs b, (allS fs a).contains x = true := fun x hx => by
  obtain ⟨j, f, h1, rfl, h3, h4⟩ := (allK_mem fs b _ x).1 hx
  rw [all_has h3]
  exact wksB_mono h h4
theorem hasB_mono {fs : List Fu} {a b : List Int} {d : Md} (h : ∀ x ∈ a, x ∈ b) (hb : hasB fs b d = true) : hasB fs a d = true := by
  unfold hasB at hb ⊢
  rw [List.all_eq_true] at hb ⊢
  intro x hx
  have h1 := hb x hx
  unfold needB at h1 ⊢
  cases hf : fs[x.toNat]? with
  | none => rw [hf] at h1; simp at h1
  | some f =>
    rw [hf] at h1
    exact wksB_mono h h1
theorem idxF_mono {α : Type} {p q : α → Bool} (h : ∀ x, p x = true → q x = true) : ∀ (l : List α) (k : Int), 0 ≤ k → 0 ≤ idxF p l k → 0 ≤ idxF q l k ∧ idxF q l k ≤ idxF p l k
  | [], k, _, h0 => by simp [idxF] at h0
  | x :: l, k, hk, h0 => by
    rw [idxF] at h0 ⊢
    rw [idxF]
    cases hp : p x
    · rw [hp] at h0
      simp only [Bool.false_eq_true, if_false] at h0 ⊢
      obtain ⟨h1, h2⟩ := idxF_mono h l (k + 1) (by omega) h0
      split
      · refine ⟨hk, ?_⟩
        rcases idxF_lt p l (k + 1) with h3 | h3 <;> omega
      · exact ⟨h1, h2⟩
    · rw [h x hp]
      simp
      exact hk
theorem idxF_at {α : Type} {p : α → Bool} : ∀ (l : List α) (k : Int) (j : Nat) (x : α), l[j]? = some x → p x = true → 0 ≤ k → 0 ≤ idxF p l k ∧ idxF p l k ≤ k + j
  | [], _, j, x, h, _, _ => by simp at h
  | y :: l, k, j, x, h, hp, hk => by
    rw [idxF]
    cases j with
    | zero =>
      simp at h
      subst h
      rw [hp]
      simp
      exact hk
    | succ j =>
      split
      · omega
      · have := idxF_at l (k + 1) j x (by simpa using h) hp (by omega)
        omega
/-! ### The smallest failures. -/
theorem cutTo_bad {f : Fu} {b : Nat} (hb : worksB f b = false) : ∀ k, worksB f (cutTo f b k) = false
  | 0 => hb
  | k + 1 => by
    rw [cutTo]
    split
    · rename_i h
      rw [Bool.and_eq_true, Bool.not_eq_true'] at h
      exact h.2
    · exact cutTo_bad hb k
theorem small_le {s b : Nat} (h : smallB s b = true) : sizeS s ≤ sizeS b := by
  unfold smallB at h
  simp only [Bool.or_eq_true, Bool.and_eq_true, decide_eq_true_eq] at h
  omega
theorem not_small {s b : Nat} (h : smallB s b = false) : sizeS b ≤ sizeS s := by
  unfold smallB at h
  simp only [Bool.or_eq_false_iff, decide_eq_false_iff_not] at h
  omega
theorem cutTo_min {f : Fu} {b : Nat} : ∀ k s, s < k → worksB f s = false → sizeS (cutTo f b k) ≤ sizeS s
  | 0, s, h, _ => by omega
  | k + 1, s, h, hw => by
    rw [cutTo]
    by_cases e : s = k
    · subst e
      split
      · exact Nat.le_refl _
      · rename_i hc
        rw [hw, Bool.not_false, Bool.and_true, Bool.not_eq_true] at hc
        exact not_small hc
    · have ih := cutTo_min (f := f) (b := b) k s (by omega) hw
      split
      · rename_i hc
        rw [Bool.and_eq_true] at hc
        exact Nat.le_trans (small_le hc.1) ih
      · exact ih
theorem cut_bad {f : Fu} {p : Nat} (h : Stops f p) : worksB f (cutS f p) = false := cutTo_bad h _
theorem cut_min {f : Fu} {p s : Nat} (hs : s < 2 ^ p) (hw : worksB f s = false) : sizeS (cutS f p) ≤ sizeS s := cutTo_min _ s hs hw
theorem cut_lt2 {f : Fu} {p : Nat} : cutS f p < 2 ^ p := by
  have h1 := Nat.two_pow_pos p
  have hlt : ∀ k, k ≤ 2 ^ p → cutTo f (2 ^ p - 1) k < 2 ^ p := by
    intro k
    induction k with
    | zero => intro _; rw [cutTo]; omega
    | succ k ih =>
      intro hk
      rw [cutTo]
      split
      · omega
      · exact ih (by omega)
  exact hlt _ (Nat.le_refl _)
theorem cut_asc {f : Fu} {p : Nat} (hp : p ≤ 10) : Asc (listS (cutS f p)) p := by
  rw [← setL_list hp cut_lt2]
  exact asc_set
/-- A function works if fewer have failed than the smallest failures are. -/
theorem few_works {f : Fu} {p : Nat} {l : List Int} (hp : p ≤ 10) (hf : NonNeg f) (h : Asc l p) (hl : l.length < sizeS (cutS f p)) : wksB f l = true := by
  rw [← wks_works hf fun x hx => (h.rng x hx).1]
  cases hw : worksB f (setN l) with
  | true => rfl
  | false =>
    have := cut_min (asc_lt h) hw
    rw [asc_size hp h] at this
    omega
theorem net_ways {n : Nt} (h : netErr n = 0) : ∀ f ∈ n.fs, 0 < f.ws.length := by
  unfold netErr netChk at h
  split at h
  · split at h
    · split at h
      · rename_i h2
        intro f hf
        obtain ⟨k, hk⟩ := List.mem_iff_getElem?.1 hf
        have b1 := eachS_ok _ n.fs 0 h2 k f hk
        have b2 := (waysE_ok f.ws _ b1).1
        have b3 := ((fst_cons _ _).1 ((fst_cons _ _).1 b2).2).1
        exact of_decide_eq_true ((unl_zero (by decide)).1 b3)
      · rename_i h2
        exact absurd h h2
    · rename_i h1
      exact absurd h h1
  · rename_i h0
    exact absurd h h0
theorem cut_pos {f : Fu} {p : Nat} (hp : p ≤ 10) (hs : Stops f p) (hw : 0 < f.ws.length) : 0 < (listS (cutS f p)).length := by
  apply Nat.pos_of_ne_zero
  intro h0
  have h1 : listS (cutS f p) = [] := List.eq_nil_of_length_eq_zero h0
  have h2 : cutS f p = 0 := by
    have h3 := setN_list (s := cutS f p) (Nat.lt_of_lt_of_le cut_lt2 (Nat.le_trans (Nat.pow_le_pow_right (by decide) hp) (by decide)))
    rw [h1] at h3
    exact h3.symm
  have h4 := cut_bad hs
  rw [h2] at h4
  unfold worksB at h4
  rw [List.any_eq_false] at h4
  have := h4 _ (List.getElem_mem hw)
  simp at this
theorem cut_less {f : Fu} {p : Nat} (hp : p ≤ 10) (hf : NonNeg f) {m : Nat} (hm : m < (listS (cutS f p)).length) : wksB f ((listS (cutS f p)).take m ++ (listS (cutS f p)).drop (m + 1)) = true := by
  refine few_works hp hf ((cut_asc hp).erase m) ?_
  unfold sizeS
  simp
  omega
theorem cut_stop {f : Fu} {p : Nat} (hp : p ≤ 10) (hf : NonNeg f) (hs : Stops f p) : wksB f (listS (cutS f p)) = false := by
  rw [wks_list hf (Nat.lt_of_lt_of_le cut_lt2 (Nat.le_trans (Nat.pow_le_pow_right (by decide) hp) (by decide)))]
  exact cut_bad hs
theorem minS_le {l : List Int} : ∀ x ∈ l, minS l ≤ x := by
  have key : ∀ (l : List Int) (b : Int), l.foldl min b ≤ b ∧ ∀ x ∈ l, l.foldl min b ≤ x := by
    intro l
    induction l with
    | nil => intro b; simp
    | cons y l ih =>
      intro b
      rw [List.foldl_cons]
      obtain ⟨h1, h2⟩ := ih (min b y)
      refine ⟨by omega, fun x hx => ?_⟩
      rcases List.mem_cons.1 hx with rfl | hx
      · omega
      · exact h2 x hx
  cases l with
  | nil => intro x hx; simp at hx
  | cons y l =>
    intro x hx
    unfold minS
    rcases List.mem_cons.1 hx with rfl | hx
    · exact (key l _).1
    · exact (key l _).2 x hx
end Go.Proofs.YtdlmkblmljhbfaaDoor
namespace Go.Proofs.YtdlmkblmljhbfaaDoor
set_option linter.unusedSimpArgs false
set_option linter.unusedVariables false
open Go.RowKit Go.Shelf
attribute [local go_sem] bl_al bl_drew bl_drewN bl_refl bx_al bx_drew bx_drewN bx_refl
set_option maxRecDepth 20000
/-- 'append' of any slice onto a slice of the call's own, as the end of a region that draws its order. -/
theorem wp_appTn {P : Program} {w : World} {o : Oper} {a : Act} {K : Act → World → Prop} {Q : Exit → Act → World → Prop} (s x : Operand) {t e : TypeId} {i : TypeInfo} {z : Value} {size bytes base : Nat} (ho : o.op = .call { callee := .builtin .append, args := #[s, x], argTypes := #[t, t] })
    (ht : P.underlying t = some (.slice e)) (hi : P.info? e = some i) (hz : i.zero = some z) (hsize : i.size = size) (hby : i.bytes = bytes) (hzs : z.cells.size = size) (hsz : 0 < size)
    (v : Value) (n : Nat) (xs : List Value) (ad : Addr) (m c : Nat) (news : List Value) (hs' : a.eval s = v) (hx : a.eval x = .slice (some ad) m c) (hown : w.ownsRow base e size v n xs) (hl : news.length = m * size) (hnews : ∀ j u, news[j]? = some u → w.cell? (ad.add j) = some u) (h1 : ∀ u ∈ news, u.oneCell' = true)
    (h63 : n + m ≤ maxLen) (hbytes : (n + m) * bytes ≤ 140737488355328) (hbase : base ≤ w.heap.size)
    (h : ∀ v' w', w'.ownsRow base e size v' (n + m) (xs ++ news) → BX (ownL v) w w' → K (a.put o.dst v') w') : o.wp P a w K Q := by
  obtain ⟨v', w', hr, h2, h3, -⟩ := run_append_own3 (P := P) base t o.type e i z size bytes ht hi hz hsize hby hzs hsz v n xs hown ad m c news hl hnews h1 h63 hbytes hbase
  unfold Oper.wp execOp
  simp only [ho, resolve, invoke, builtin, Sem.run_bind, Sem.run_pure, Result.andThen_ok, List.map_toArray, List.map_cons, List.map_nil, hs', hx, hr]
  exact h _ _ h2 h3
theorem drop_news {C : List Int} {W : World} {b o k : Nat} {ad : Addr} (hs : Sl cI 1 W (some ⟨b, o, none⟩) C) (had : C.length ≠ k → ad = ⟨b, o + k, none⟩) : ∀ j u, ((C.drop k).map (Value.int .i64))[j]? = some u → W.cell? (ad.add j) = some u := fun j u hj => by
  rw [List.getElem?_map, List.getElem?_drop] at hj
  cases hx : C[k + j]? with
  | none => rw [hx] at hj; cases hj
  | some x =>
    rw [hx] at hj
    injection hj with hj
    subst hj
    have hlt := (List.getElem?_eq_some_iff.1 hx).1
    rw [had (by omega)]
    obtain ⟨b2, o2, e, hc⟩ := hs _ x hx
    injection e with e
    injection e with e1 e2 _
    subst e1 e2
    have := hc 0 _ rfl
    unfold Addr.add
    split
    · rename_i h0
      subst h0
      simpa using this
    · simpa [Nat.add_assoc] using this
/-- What the law keeps: its arguments' blocks, and slices of numbers. -/
structure FK (w : World) (vn vx : Array Value) (S : List (Option Addr × List Int)) (W : World) : Prop where
  bel : Below w.heap.size w W
  k0 : Blk W w.heap.size 61 vn
  k1 : Blk W (w.heap.size + 1) 106 vx
  sl : ∀ p ∈ S, Sl cI 1 W p.1 p.2
theorem FK.below {w : World} {vn vx : Array Value} {S : List (Option Addr × List Int)} {W W' : World} (h : FK w vn vx S W) (hb : Below W.heap.size W W') : FK w vn vx S W' :=
  ⟨bl_tr h.bel hb, h.k0.below hb, h.k1.below hb, fun p hp => (h.sl p hp).below hb⟩
theorem FK.add {w : World} {vn vx : Array Value} {S : List (Option Addr × List Int)} {W : World} {A : Option Addr} {L : List Int} (h : FK w vn vx S W) (hs : Sl cI 1 W A L) : FK w vn vx ((A, L) :: S) W :=
  ⟨h.bel, h.k0, h.k1, fun p hp => by
    rcases List.mem_cons.1 hp with rfl | hp
    · exact hs
    · exact h.sl p hp⟩
theorem FK.grown {w : World} {vn vx : Array Value} {W W' : World} {row : Option Nat} (h : FK w vn vx [] W) (hg : W.grownBy W' row) (hr : ∀ k, row = some k → w.heap.size + 2 ≤ k) : FK w vn vx [] W' :=
  ⟨h.bel.grown hg h.bel.size (fun k hk => by have := hr k hk; omega), h.k0.grown hg (fun e => by have := hr _ e.symm; omega), h.k1.grown hg (fun e => by have := hr _ e.symm; omega), fun p hp => by simp at hp⟩
theorem FK.less {w : World} {vn vx : Array Value} {S S' : List (Option Addr × List Int)} {W : World} (h : FK w vn vx S W) (hs : ∀ p ∈ S', p ∈ S) : FK w vn vx S' W := ⟨h.bel, h.k0, h.k1, fun p hp => h.sl p (hs p hp)⟩
theorem q_CutOf2 {n m : Nt} {Bp Bf Bm : Option Addr} {dp df dm : Nat} {W : World} (h : NtEq n m) (hm : NtIn m Bp Bf Bm dp df dm W) (hT : Tab W) (k : Nat) (f : Fu) (hf : n.fs[k]? = some f) (hok : netErr n = 0) :
    Calls Tryd.prog 33 #[vNt Bp Bf Bm n.ps.length n.fs.length n.ms.length dp df dm, .int .i64 (k : Nat)] W (fun e w' => Below W.heap.size W w' ∧ ∃ A c, e = .returned (.tuple #[.slice A (listS (cutS f n.ps.length)).length c, .int .i64 0]) ∧ (listS (cutS f n.ps.length)).length ≤ c ∧ c ≤ maxLen ∧ Sl cI 1 w' A (listS (cutS f n.ps.length))) := by
  have := c_CutOf m k Bp Bf Bm dp df dm W hm hT
  rw [h.cutErr, h.ps, h.flen, h.mlen] at this
  have hk := (List.getElem?_eq_some_iff.1 hf).1
  have e0 : cutErr n k = 0 := by
    unfold cutErr
    refine (fst_cons _ _).2 ⟨hok, (fst_cons _ _).2 ⟨(unl_zero (by decide)).2 (inR_iff.2 (by omega)), rfl⟩⟩
  refine this.mono fun e w' ⟨hb, hh⟩ => ⟨hb, ?_⟩
  rcases hh with ⟨hh, -⟩ | ⟨h0, g, hg, A, c, he, ho⟩
  · exact absurd e0 hh
  · rw [Int.toNat_natCast] at hg
    obtain ⟨g2, hg2, hc⟩ := h.symm.fget hg
    rw [hf] at hg2
    injection hg2 with hg2
    subst hg2
    rw [cutS_con hc.symm] at he ho
    refine ⟨A, c, he, own_cap ho, ?_, own_sl ho⟩
    rcases ho.2 with ⟨e1, -⟩ | ⟨_, _, _, e1, _, _, _, h2, _⟩
    · injection e1 with _ _ e1
      omega
    · injection e1 with _ _ e1
      omega
theorem allS_len (fs : List Fu) (l : List Int) : (allS fs l).length ≤ fs.length := by
  have key : ∀ k, (allK fs l k).length ≤ k := by
    intro k
    induction k with
    | zero => exact Nat.le_refl 0
    | succ k ih =>
      rw [allK, List.length_append]
      split
      · split <;> simp <;> omega
      · simp; omega
  exact key _
/-- What the law asks of a mode. -/
theorem mode_law {n : Nt} (h : netErr n = 0) {l : List Int} (hl : Asc l n.ps.length) {i : Nat} {d : Md} (hd : n.ms[i]? = some d) :
    (d.r.l.length = 0 ∧ marR n i = (0, 12)) ∨ (d.r.l.length ≠ 0 ∧ ∃ mz : Int, marR n i = (mz, 0) ∧ ((l.length : Int) < mz → (∀ (k : Nat) (x : Int), d.r.l[k]? = some x → (allS n.fs l).contains x = true) ∧ 0 ≤ idxF (hasB n.fs l) n.ms 0 ∧ idxF (hasB n.fs l) n.ms 0 ≤ i)) := by
  have ho := net_ok h
  have hi := (List.getElem?_eq_some_iff.1 hd).1
  have e0 : marE n i = 0 := by
    unfold marE
    exact (fst_cons _ _).2 ⟨h, (fst_cons _ _).2 ⟨(unl_zero (by decide)).2 (inR_iff.2 (by omega)), rfl⟩⟩
  have em : marR n i = if d.r.l.length = 0 then (0, 12) else (minS (szS n d.r.l), 0) := by
    rw [marR, if_pos e0, Int.toNat_natCast, hd]
  by_cases h0 : d.r.l.length = 0
  · exact .inl ⟨h0, by rw [em, if_pos h0]⟩
  refine .inr ⟨h0, minS (szS n d.r.l), by rw [em, if_neg h0], fun hlt => ?_⟩
  have hw : ∀ (k : Nat) (x : Int), d.r.l[k]? = some x → ∃ f, n.fs[x.toNat]? = some f ∧ x = (x.toNat : Nat) ∧ wksB f l = true := fun k x hx => by
    have hr := ho.need d (List.mem_of_getElem? hd) x (List.mem_of_getElem? hx)
    have hf : n.fs[x.toNat]? = some (n.fs[x.toNat]'(by omega)) := List.getElem?_eq_getElem _
    generalize n.fs[x.toNat]'(by omega) = f at hf
    refine ⟨f, hf, by omega, few_works ho.p10 (ho.nn f (List.mem_of_getElem? hf)) hl ?_⟩
    have h1 := minS_le _ (List.mem_of_getElem? (szS_at hx hf))
    omega
  have hh : hasB n.fs l d = true := by
    unfold hasB
    rw [List.all_eq_true]
    intro x hx
    obtain ⟨k, hk⟩ := List.mem_iff_getElem?.1 hx
    obtain ⟨f, hf, -, hw⟩ := hw k x hk
    unfold needB
    rw [hf]
    exact hw
  have h2 := idxF_at n.ms 0 i d hd hh (Int.le_refl 0)
  refine ⟨fun k x hx => ?_, h2.1, by omega⟩
  obtain ⟨f, hf, e, hw⟩ := hw k x hx
  have h3 := all_has (l := l) hf
  rw [← e, hw] at h3
  exact h3
set_option maxHeartbeats 0 in
theorem r_BusFaults (n : Nt) (l : List Int) (x0 x1 x2 : Int) (Ap Af Am A : Option Addr) (cp cf cm c : Nat) (w : World) (hn : NtR n Ap Af Am cp cf cm w) (hs : Sl cI 1 w A l) (hlm : l.length ≤ maxLen) (hT : Tab w) :
    Calls Tryd.prog 11 #[vNt Ap Af Am n.ps.length n.fs.length n.ms.length cp cf cm, .slice A l.length c, .agg #[.int .i64 x0, .int .i64 x1, .int .i64 x2]] w (Ret (.bool true) w) := by
  obtain ⟨i0, hi, hz0, hz1, hz2⟩ := info_parts infoI
  have haw := Lib.hid fun W (hb : Below w.heap.size w W) => r_awake W (hT.below hb)
  have hfw := Lib.hid (r_few n Ap Af Am cp cf cm)
  have Hs := Lib.hid fun W (hb : Below w.heap.size w W) => hs.below hb
  have hTT := Lib.hid fun W (hb : Below w.heap.size w W) => hT.below hb
  have hfew := Lib.hid fun h : fewN n = true => few_net hn h
  have hfr : Hid (∀ W, Below w.heap.size w W → NtR n Ap Af Am cp cf cm W) := fun W hb => ⟨hn.pcap, hn.fcap, hn.mcap, hn.psl.below hb, hn.fsl.below hb, hn.msl.below hb, hn.pnm, fun f hf => ⟨(hn.fin f hf).nm, (hn.fin f hf).cap, (hn.fin f hf).sl.below hb, fun r hr => ⟨((hn.fin f hf).rows r hr).cap, ((hn.fin f hf).rows r hr).sl.below hb⟩⟩, fun m hm => ⟨(hn.min m hm).nm, (hn.min m hm).row.cap, (hn.min m hm).row.sl.below hb⟩⟩
  clear hn hs hT
  change Calls Tryd.prog 11 #[.agg #[.slice Ap n.ps.length cp, .slice Af n.fs.length cf, .slice Am n.ms.length cm], .slice A l.length c, .agg #[.int .i64 x0, .int .i64 x1, .int .i64 x2]] w _
  dsimp only [vNt, aNt] at hfw
  have hfw2 := Lib.hid fun W (hb : Below w.heap.size w W) => hfw.out W (hfr.out W hb)
  clear hfw hfr
  go_enter Tryd.func11, Tryd.ntmps11
  go_upto_region 1 with fail
  first
  | apply absB2 (w0 := w) (g0 := w.heap.size) (g1 := w.heap.size + 1)
  | apply absTB2 (w0 := w) (g0 := w.heap.size) (g1 := w.heap.size + 1)
  | apply absIB2 (w0 := w) (g0 := w.heap.size) (g1 := w.heap.size + 1)
  iterate 3 (focus ((with_reducible (repeat' (first | assumption | apply jA | apply jB | apply jC | apply jD | apply jE | apply jF | apply hb3 | apply jG | apply jH | apply jI | apply jJ | apply jK | apply hb3x | (apply jL; first | (simp; done) | rfl) | apply jM | apply jN | apply jO | apply jP | apply jQ | apply jR | apply jS | apply jT (hb := hb3 _ (jA _)) | omega | (simp; done) | (simp; omega) | (dsimp only; omega)))); done))
  intro wa hb0' k0' k1'
  (try simp only [List.setIfInBounds_toArray, List.set_cons_zero, List.set_cons_succ] at k0' k1')
  try clear hb3
  try clear hb0
  try clear k0
  try clear k1
  have hb0 := hb0'; clear hb0'
  have k0 := k0'; clear k0'
  have k1 := k1'; clear k1'
  go_wp2_with fail
  refine (haw.out wa hb0).mono ?_
  rintro e w1 ⟨rfl, hb1⟩
  replace hb0 := bl_tr hb0 hb1
  replace k0 := k0.below hb1
  replace k1 := k1.below hb1
  have L0 := k0.cell
  clear hb1 haw
  cases hF : fewN n
  · rw [hF] at hfw2
    clear hfew Hs hTT
    generalize n.ps.length = np at *
    generalize n.fs.length = nf at *
    generalize n.ms.length = nm at *
    generalize l.length = ll at *
    go_wp2_with fail
    refine (hfw2.out _ hb0).mono ?_
    rintro e w2 ⟨rfl, hb1⟩
    go_wp2
    go_ret
    exact ⟨rfl, bl_tr hb0 hb1⟩
  rw [hF] at hfw2
  obtain ⟨hni, hp12, hf12, hm8⟩ := hfew.out hF
  clear hfew hF
  have hne := Lib.hid fun W (hb : Below w.heap.size w W) => r_NetErr n Ap Af Am cp cf cm W (hni.below hb)
  dsimp only [vNt, aNt] at hne
  by_cases hd : netErr n = 0
  rotate_left
  · have u2 : (netErr n != 0) = true := by simp [hd]
    clear Hs hTT hni
    generalize netErr n = d0 at *
    generalize n.ps.length = np at *
    generalize n.fs.length = nf at *
    generalize n.ms.length = nm at *
    generalize l.length = ll at *
    replace hd := Lib.hid hd
    go_wp2_with fail
    refine (hfw2.out _ hb0).mono ?_
    rintro e w2 ⟨rfl, hb1⟩
    replace hb0 := bl_tr hb0 hb1
    replace k0 := k0.below hb1
    clear L0 hb1
    have L0 := k0.cell
    go_wp2_with fail
    refine (hne.out _ hb0).mono ?_
    rintro e w3 ⟨rfl, hb1⟩
    go_wp2
    go_ret
    exact ⟨rfl, bl_tr hb0 hb1⟩
  rw [hd] at hne
  go_wp2_with fail
  refine (hfw2.out _ hb0).mono ?_
  rintro e w2 ⟨rfl, hb1⟩
  replace hb0 := bl_tr hb0 hb1
  replace k0 := k0.below hb1
  replace k1 := k1.below hb1
  clear L0 hb1 hfw2
  have L0 := k0.cell
  go_wp2_with fail
  refine (hne.out _ hb0).mono ?_
  rintro e w3 ⟨rfl, hb1⟩
  replace hb0 := bl_tr hb0 hb1
  replace k0 := k0.below hb1
  replace k1 := k1.below hb1
  clear L0 hb1 hne
  have L0 := k0.cell
  have ho := net_ok hd
  have hp10 := ho.p10
  have hp1 := ho.p1
  have hf10 := ho.f10
  have hm6 := ho.m6
  have hie := Lib.hid fun W (hb : Below w.heap.size w W) => r_IndexesErrL l n.ps.length A c W (Hs.out W hb) hlm (by omega)
  by_cases hix : idxErr l n.ps.length = 0
  rotate_left
  · have u2 : (idxErr l n.ps.length != 0) = true := by simp [hix]
    clear Hs hTT hni ho
    generalize idxErr l n.ps.length = ie at *
    generalize n.ps.length = np at *
    generalize n.fs.length = nf at *
    generalize n.ms.length = nm at *
    generalize l.length = ll at *
    replace hix := Lib.hid hix
    replace hd := Lib.hid hd
    go_wp2_with fail
    refine (hie.out _ hb0).mono ?_
    rintro e w4 ⟨rfl, hb1⟩
    go_wp2
    go_ret
    exact ⟨rfl, bl_tr hb0 hb1⟩
  rw [hix] at hie
  have hasc := asc_of hix
  have hl10 : l.length ≤ 10 := by
    have h1 := asc_size hp10 hasc
    have h2 := listS_len (setN l)
    unfold sizeS at h1
    omega
  go_wp2_with fail
  refine (hie.out _ hb0).mono ?_
  rintro e w4 ⟨rfl, hb1⟩
  replace hb0 := bl_tr hb0 hb1
  replace k0 := k0.below hb1
  replace k1 := k1.below hb1
  clear L0 hb1 hie
  -- what the calls answer
  have hcp := Lib.hid fun W (hb : Below w.heap.size w W) => r_CopyNet n Ap Af Am cp cf cm W (hni.below hb)
  have hci := Lib.hid fun (L : List Int) (k : Nat) (hL : L.length = k ∧ k ≤ 1000) (A1 : Option Addr) (c1 : Nat) (W : World) (hs : Sl cI 1 W A1 L) => (show Calls Tryd.prog 17 #[.slice A1 k c1] W (fun e w' => ∃ A2 c2, e = .returned (.slice A2 k c2) ∧ Below W.heap.size W w' ∧ w'.ownsRow W.heap.size 3 1 (.slice A2 k c2) k (L.map (.int .i64)) ∧ Sl cI 1 w' A2 L) from by
    obtain ⟨rfl, h2⟩ := hL
    exact (r_CopyInts L A1 c1 W hs h2).mono fun e w' ⟨A2, c2, h1, h2, h3⟩ => ⟨A2, c2, h1, h2, h3, own_sl h3⟩)
  have hwa : Hid (∀ (m : Nt) Bp Bf Bm dp df dm W, NtEq n m → NtIn m Bp Bf Bm dp df dm W → Tab W → ∀ (L : List Int) (k : Nat), Asc L n.ps.length → L.length = k → ∀ A1 c1, Sl cI 1 W A1 L → Calls Tryd.prog 50 #[vNt Bp Bf Bm n.ps.length n.fs.length n.ms.length dp df dm, .slice A1 k c1] W
      (fun e w' => Below W.heap.size W w' ∧ ∃ A3 c3, e = .returned (.tuple #[.slice A3 (allS n.fs L).length c3, .int .i64 0]) ∧ Sl cI 1 w' A3 (allS n.fs L))) := Lib.hid fun m Bp Bf Bm dp df dm W h hm hT L k ha hk A1 c1 hs => by
    subst hk
    have hf0 : fltE n L = 0 := by rw [flt_idx hd]; exact ha.err
    have hL : L.length ≤ 1000 := by have h1 := asc_size hp10 ha; have h2 := listS_len (setN L); unfold sizeS at h1; omega
    refine (q_WorksAfter h hm hT L A1 c1 hs hL).mono fun e w' ⟨hb, hh⟩ => ?_
    rcases hh with ⟨h0, -⟩ | ⟨-, A3, c3, e3, h3⟩
    · exact absurd hf0 h0
    · rw [after_all ho fun x hx => (ha.rng x hx).1] at e3 h3
      exact ⟨hb, A3, c3, e3, h3⟩
  have hma : Hid (∀ (m : Nt) Bp Bf Bm dp df dm W, NtEq n m → NtIn m Bp Bf Bm dp df dm W → ∀ (L : List Int) (k : Nat), Asc L n.ps.length → L.length = k → ∀ A1 c1, Sl cI 1 W A1 L → Calls Tryd.prog 51 #[vNt Bp Bf Bm n.ps.length n.fs.length n.ms.length dp df dm, .slice A1 k c1] W
      (Ret (.tuple #[.int .i64 (max (idxF (hasB n.fs L) n.ms 0) 0), .int .i64 (unl (decide (0 ≤ idxF (hasB n.fs L) n.ms 0)) 12)]) W)) := Lib.hid fun m Bp Bf Bm dp df dm W h hm L k ha hk A1 c1 hs => by
    subst hk
    have hf0 : fltE n L = 0 := by rw [flt_idx hd]; exact ha.err
    have hL : L.length ≤ 1000 := by have h1 := asc_size hp10 ha; have h2 := listS_len (setN L); unfold sizeS at h1; omega
    have := q_ModeAfter h hm L A1 c1 hs hL
    rw [modR, if_pos hf0, mode_eq ho fun x hx => (ha.rng x hx).1] at this
    exact this
  have hcut := Lib.hid fun (m : Nt) Bp Bf Bm dp df dm W (h : NtEq n m) (hm : NtIn m Bp Bf Bm dp df dm W) (hT : Tab W) (k : Nat) (f : Fu) (hf : n.fs[k]? = some f) => q_CutOf2 h hm hT k f hf hd
  have hmar := Lib.hid fun (m : Nt) Bp Bf Bm dp df dm W (h : NtEq n m) (hm : NtIn m Bp Bf Bm dp df dm W) (hT : Tab W) (k : Nat) => q_MarginOf h hm hT (k : Nat)
  have hhas := Lib.hid fun (L : List Int) (k : Nat) (hL : L.length = k ∧ k ≤ 1000) (x : Int) (A1 : Option Addr) (c1 : Nat) (W : World) (hs : Sl cI 1 W A1 L) => (show Calls Tryd.prog 48 #[.slice A1 k c1, .int .i64 x] W (Ret (.bool (L.contains x)) W) from by
    obtain ⟨rfl, h2⟩ := hL
    exact r_Has L x A1 c1 W hs h2)
  have hieC := Lib.hid fun (L : List Int) (k : Nat) (hL : L.length = k ∧ k ≤ 1000 ∧ Asc L n.ps.length) (A1 : Option Addr) (c1 : Nat) (W : World) (hs : Sl cI 1 W A1 L) => (show Calls Tryd.prog 53 #[.slice A1 k c1, .int .i64 n.ps.length] W (Ret (.int .i64 0) W) from by
    obtain ⟨rfl, h2, h3⟩ := hL
    have := r_IndexesErr L n.ps.length A1 c1 W hs h2 (by omega)
    rw [h3.err] at this
    exact this)
  have hmod := Lib.hid fun (x : Int) (k : Nat) (h1 : 0 < k) (h2 : k ≤ 10) (W : World) => (show ∃ a : Nat, a < k ∧ Calls Tryd.prog 31 #[.int .i64 x, .int .i64 (k : Nat)] W (Same (.int .i64 (a : Nat)) W) from by
    have h3 := Int.emod_nonneg x (show (k : Int) ≠ 0 by omega)
    have h4 := Int.emod_lt_of_pos x (show (0 : Int) < k by omega)
    refine ⟨(x % k).toNat, by omega, ?_⟩
    rw [show (((x % (k : Int)).toNat : Nat) : Int) = x % k by omega]
    exact r_Mod x k W (by omega) (by omega))
  -- the laws of plain numbers
  have hM := Lib.hid fun (P : Nat) => (show Asc (moreK l P n.ps.length) n.ps.length ∧ (moreK l P n.ps.length).length ≤ n.ps.length ∧ (∀ x ∈ allS n.fs (moreK l P n.ps.length), (allS n.fs l).contains x = true) ∧
      (0 ≤ idxF (hasB n.fs (moreK l P n.ps.length)) n.ms 0 → 0 ≤ idxF (hasB n.fs l) n.ms 0 ∧ idxF (hasB n.fs l) n.ms 0 ≤ idxF (hasB n.fs (moreK l P n.ps.length)) n.ms 0) from
    ⟨moreK_asc l P _, moreK_len l P _, all_sub (moreK_sub hasc), fun h => idxF_mono (fun d hd => hasB_mono (moreK_sub hasc) hd) n.ms 0 (Int.le_refl 0) h⟩)
  have hC := Lib.hid fun (k : Nat) (f : Fu) (hf : n.fs[k]? = some f) => (show ∃ C : List Int, listS (cutS f n.ps.length) = C ∧ 0 < C.length ∧ C.length ≤ 10 ∧ Asc C n.ps.length ∧ (l.length < C.length → (allS n.fs l).contains (k : Int) = true) ∧ (allS n.fs C).contains (k : Int) = false ∧
      ∀ m, m < C.length → Asc (C.take m ++ C.drop (m + 1)) n.ps.length ∧ (allS n.fs (C.take m ++ C.drop (m + 1))).contains (k : Int) = true from by
    have hm := List.mem_of_getElem? hf
    have h1 := ho.nn f hm
    have h2 := ho.st f hm
    refine ⟨_, rfl, cut_pos hp10 h2 (net_ways hd f hm), listS_len _, cut_asc hp10, fun h => ?_, ?_, fun m hm => ⟨(cut_asc hp10).erase m, ?_⟩⟩
    · rw [all_has hf]; exact few_works hp10 h1 hasc h
    · rw [all_has hf]; exact cut_stop hp10 h1 h2
    · rw [all_has hf]; exact cut_less hp10 h1 hm)
  have hD := Lib.hid fun (i : Nat) (d : Md) (hdd : n.ms[i]? = some d) => mode_law hd hasc hdd
  have hms := Lib.hid fun (k : Nat) (d : Md) (hd : n.ms[k]? = some d) => (show d.r.l.length ≤ 1000 ∧ Sl cI 1 w d.r.A d.r.l ∧ ∃ b off, Am = some ⟨b, off, none⟩ ∧ ∀ W, Below w.heap.size w W → W.cell? ⟨b, off + k * 2 + 1, none⟩ = some (.slice d.r.A d.r.l.length d.r.c) from by
    obtain ⟨b, off, e, hc⟩ := hni.msl k d hd
    exact ⟨(hni.min d (List.mem_of_getElem? hd)).row.len, (hni.min d (List.mem_of_getElem? hd)).row.sl, b, off, e, fun W hb => kcell hb (hc 1 _ rfl)⟩)
  have hAL := Lib.hid fun L => allS_len n.fs L
  have hmk1 : Hid (∀ (P : Int) (k : Nat), moreK l P (k + 1) = moreK l P k ++ if ((k : Int) == P) || l.contains (k : Int) then [(k : Int)] else []) := fun _ _ => rfl
  have hmk0 : Hid (∀ P, moreK l P 0 = []) := fun _ => rfl
  have hmkl := Lib.hid (moreK_len l)
  have hmI := Lib.hid (idxF_lt (hasB n.fs l) n.ms 0)
  dsimp only [vNt, aNt] at hcp hwa hma hcut hmar
  clear hni ho hix hd
  generalize allS n.fs = AL at *
  generalize hasB n.fs = HB at *
  obtain ⟨MI, hMI⟩ : ∃ MI : List Int → Int, ∀ L, idxF (HB L) n.ms 0 = MI L := ⟨_, fun _ => rfl⟩
  simp only [hMI] at hma hM hD hmI
  clear hMI
  obtain ⟨MR, hMR⟩ : ∃ MR : Nat → Int × Int, ∀ k : Nat, marR n k = MR k := ⟨_, fun _ => rfl⟩
  simp only [hMR] at hmar hD
  clear hMR
  obtain ⟨np, Hp⟩ : ∃ k, Hid (n.ps.length = k) := ⟨_, rfl⟩
  obtain ⟨nf, Hf⟩ : ∃ k, Hid (n.fs.length = k) := ⟨_, rfl⟩
  obtain ⟨nm, Hm⟩ : ∃ k, Hid (n.ms.length = k) := ⟨_, rfl⟩
  rw [Hp.out] at hcp hwa hma hcut hmar hieC hM hC hp10 hp1 k0 hasc
  rw [Hf.out] at hcp hwa hma hcut hmar hAL hf10 k0
  rw [Hm.out] at hcp hwa hma hcut hmar hm6 k0
  obtain ⟨MK, hMK⟩ : ∃ MK : Int → Nat → List Int, ∀ P k, moreK l P k = MK P k := ⟨_, fun _ _ => rfl⟩
  simp only [hMK] at hM hmk1 hmk0 hmkl
  clear hMK
  obtain ⟨ll, Hll⟩ : ∃ k, Hid (l.length = k) := ⟨_, rfl⟩
  have HlS := Lib.hid fun W (hb : Below w.heap.size w W) => Hs.out W hb
  have hk : Hid (FK w #[.slice Ap np cp, .slice Af nf cf, .slice Am nm cm] #[.int .i64 x0, .int .i64 x1, .int .i64 x2] [] w4) := Lib.hid ⟨hb0, k0, k1, fun p hp => by simp at hp⟩
  rw [Hll.out] at hC hD hl10
  replace hasc := Lib.hid hasc
  clear hb0 k0 k1 Hs
  rw [Hp.out, Hf.out, Hm.out, Hll.out]
  have L0 := hk.out.k0.cell
  have L1 := hk.out.k1.cell
  obtain ⟨part, hpart, hmodP⟩ := hmod.out x0 np (by omega) hp10 w4
  replace hmodP := Lib.hid hmodP
  go_wp2_with fail
  refine (hmodP.out).mono ?_
  rintro e w5 ⟨rfl, rfl⟩
  go_wp2
  clear L0 L1 hmodP
  go_loopw [8, 9] (fun v i wr => ∃ k : Nat, k ≤ np ∧ i = .int .i64 k ∧ FK w #[.slice Ap np cp, .slice Af nf cf, .slice Am nm cm] #[.int .i64 x0, .int .i64 x1, .int .i64 x2] [] wr ∧ wr.ownsRow (w.heap.size + 2) 3 1 v (MK part k).length ((MK part k).map (.int .i64))) (fun _ i _ => np - (intOf i).toNat)
  case atStart => exact ⟨0, Nat.zero_le _, rfl, hk.out, by rw [hmk0.out]; exact World.ownsRow_nil _ _ _ _⟩
  case round =>
    clear hk
    obtain ⟨k, hkk, rfl, hk, ho⟩ := hrel
    replace hk := Lib.hid hk
    replace ho := Lib.hid ho
    have L0 := hk.out.k0.cell
    have L1 := hk.out.k1.cell
    have hkl := hmkl.out (part : Int) k
    have hsz2 : w.heap.size + 2 ≤ wr.heap.size := by have := hk.out.k1.lt; omega
    by_cases hkn : k < np
    · have hst := Lib.hid (hmk1.out (part : Int) k)
      clear hM hC hD hms hmar hcut hwa hma hAL hmI
      by_cases hkp : k = part
      · have e := Lib.hid (show MK part (k + 1) = MK part k ++ [(k : Int)] by rw [hst.out, hkp]; simp)
        subst hkp
        clear hst
        have hoA := Lib.hid (own_below ho.out (bl_al (.cells #[.int .i64 k] 3) (bl_refl _)))
        go_wp2_with (at_builtin; refine wpList_append_own2 rfl _ _ 22 rfl (w.heap.size + 2) 3 i0 (.int .i64 0) 1 8 Tryd.underlying22 hi hz0 hz1 hz2 rfl (by decide) _ _ _ rfl hoA.out ⟨_, 0, none⟩ 1 1 [.int .i64 k] rfl rfl ?c1 ?c2 ?c3 ?c4 ?c5 ?_)
        try case c1 =>
          intro j u hj
          match j, hj with
          | 0, hj => simp at hj; subst hj; simp [Addr.add]
          | j + 1, hj => simp at hj
        case c2 => first | (intro u hu; simp at hu; subst hu; rfl) | rfl
        case c3 => unfold maxLen; omega
        case c4 => omega
        case c5 => first | omega | (simp; omega)
        intro v9 w9 hown hg2 hd2
        have hk9 := (hk.out.below (bl_al (.cells #[.int .i64 k] 3) (bl_refl _))).grown hg2 (own_ge hoA.out)
        have hown9 := Lib.hid (show w9.ownsRow (w.heap.size + 2) 3 1 v9 (MK k (k + 1)).length ((MK k (k + 1)).map (.int .i64)) by rw [e.out]; simpa using hown)
        clear hg2 hd2 hown hoA
        go_wp2
        go_roundw
        case rel => exact ⟨k + 1, by omega, by go_num, hk9, hown9.out⟩
        case measure => simp [intOf]; omega
      · have hq : ((k : Int) == (part : Int)) = false := by simp; omega
        have hq2 : (k == part) = false := by simp; omega
        have hq3 : ¬ (k : Int) = (part : Int) := by omega
        go_wp2_with fail
        refine (hhas.out l ll ⟨Hll.out, by omega⟩ (k : Int) A c _ (HlS.out _ hk.out.bel)).mono ?_
        rintro e w8 ⟨rfl, hb1⟩
        replace hk := Lib.hid (hk.out.below hb1)
        replace ho := Lib.hid (own_below ho.out hb1)
        have hsz2 : w.heap.size + 2 ≤ w8.heap.size := by have := hk.out.k1.lt; omega
        clear hb1 L0 L1
        have L0 := hk.out.k0.cell
        have L1 := hk.out.k1.cell
        cases hcon : l.contains (k : Int)
        · have e := Lib.hid (show MK part (k + 1) = MK part k by rw [hst.out, hcon, show ((k : Int) == (part : Int)) = false from hq]; simp)
          go_wp2
          go_roundw
          case rel => exact ⟨k + 1, by omega, by go_num, hk.out, by rw [e.out]; exact ho.out⟩
          case measure => simp [intOf]; omega
        · have e := Lib.hid (show MK part (k + 1) = MK part k ++ [(k : Int)] by rw [hst.out, hcon]; simp)
          have hoA := Lib.hid (own_below ho.out (bl_al (.cells #[.int .i64 k] 3) (bl_refl _)))
          go_wp2_with (at_builtin; refine wpList_append_own2 rfl _ _ 22 rfl (w.heap.size + 2) 3 i0 (.int .i64 0) 1 8 Tryd.underlying22 hi hz0 hz1 hz2 rfl (by decide) _ _ _ rfl hoA.out ⟨_, 0, none⟩ 1 1 [.int .i64 k] rfl rfl ?c1 ?c2 ?c3 ?c4 ?c5 ?_)
          try case c1 =>
            intro j u hj
            match j, hj with
            | 0, hj => simp at hj; subst hj; simp [Addr.add]
            | j + 1, hj => simp at hj
          case c2 => first | (intro u hu; simp at hu; subst hu; rfl) | rfl
          case c3 => unfold maxLen; omega
          case c4 => omega
          case c5 => first | omega | (simp; omega)
          intro v9 w9 hown hg2 hd2
          have hk9 := (hk.out.below (bl_al (.cells #[.int .i64 k] 3) (bl_refl _))).grown hg2 (own_ge hoA.out)
          have hown9 := Lib.hid (show w9.ownsRow (w.heap.size + 2) 3 1 v9 (MK part (k + 1)).length ((MK part (k + 1)).map (.int .i64)) by rw [e.out]; simpa using hown)
          clear hg2 hd2 hown hoA
          go_wp2
          go_roundw
          case rel => exact ⟨k + 1, by omega, by go_num, hk9, hown9.out⟩
          case measure => simp [intOf]; omega
    obtain rfl : np = k := by omega
    obtain ⟨M1, M2, M3, M4⟩ := hM.out part
    obtain ⟨ML, hML⟩ : ∃ ML, MK part np = ML := ⟨_, rfl⟩
    rw [hML] at M1 M2 M3 M4 ho
    clear hM hmk0 hmk1 hmkl hkl hML hkn hkk
    obtain ⟨mA, mC, hv⟩ := own_slice ho.out
    subst hv
    replace hk := Lib.hid (hk.out.add (own_sl ho.out))
    obtain ⟨lm, Hlm⟩ : ∃ k, Hid (ML.length = k) := ⟨_, rfl⟩
    rw [Hlm.out] at M2 ⊢
    replace M1 := Lib.hid M1
    replace M3 := Lib.hid M3
    replace M4 := Lib.hid M4
    clear ho hsz2
    go_wp2_with fail
    refine (hcp.out _ hk.out.bel).mono ?_
    rintro e v1 ⟨hb1, m, Bp, Bf, Bm, dp, df, dm, hq, hm, rfl⟩
    replace hk := Lib.hid (hk.out.below hb1)
    replace hm := Lib.hid hm
    clear hb1 L0 L1
    have L0 := hk.out.k0.cell
    have L1 := hk.out.k1.cell
    go_wp2_with fail
    refine (hci.out l ll ⟨Hll.out, by omega⟩ A c _ (HlS.out _ hk.out.bel)).mono ?_
    rintro e v2 ⟨A1, c1, rfl, hb1, -, hs1⟩
    replace hk := Lib.hid (hk.out.below hb1)
    replace hm := Lib.hid (hm.out.below hb1)
    replace hs1 := Lib.hid hs1
    clear hb1 L0 L1
    have L0 := hk.out.k0.cell
    have L1 := hk.out.k1.cell
    go_wp2_with fail
    refine (hwa.out _ _ _ _ _ _ _ _ hq hm.out (hTT.out _ hk.out.bel) l ll hasc.out Hll.out _ _ hs1.out).mono ?_
    rintro e v3 ⟨hb1, aA, aAc, rfl, aAs⟩
    replace hk := Lib.hid (hk.out.below hb1)
    replace hk := Lib.hid (hk.out.add aAs)
    clear hm hq hs1 aAs
    clear hb1 L0 L1
    have L0 := hk.out.k0.cell
    have L1 := hk.out.k1.cell
    go_wp2_with fail
    refine (hcp.out _ hk.out.bel).mono ?_
    rintro e v4 ⟨hb1, m, Bp, Bf, Bm, dp, df, dm, hq, hm, rfl⟩
    replace hk := Lib.hid (hk.out.below hb1)
    replace hm := Lib.hid hm
    clear hb1 L0 L1
    have L0 := hk.out.k0.cell
    have L1 := hk.out.k1.cell
    go_wp2_with fail
    refine (hci.out ML lm ⟨Hlm.out, by omega⟩ mA mC _ (hk.out.sl (mA, ML) (by simp))).mono ?_
    rintro e v5 ⟨A1, c1, rfl, hb1, -, hs1⟩
    replace hk := Lib.hid (hk.out.below hb1)
    replace hm := Lib.hid (hm.out.below hb1)
    replace hs1 := Lib.hid hs1
    clear hb1 L0 L1
    have L0 := hk.out.k0.cell
    have L1 := hk.out.k1.cell
    go_wp2_with fail
    refine (hwa.out _ _ _ _ _ _ _ _ hq hm.out (hTT.out _ hk.out.bel) ML lm M1.out Hlm.out _ _ hs1.out).mono ?_
    rintro e v6 ⟨hb1, bA, bAc, rfl, bAs⟩
    replace hk := Lib.hid (hk.out.below hb1)
    replace hk := Lib.hid (hk.out.add bAs)
    clear hm hq hs1 bAs
    clear hb1 L0 L1
    have L0 := hk.out.k0.cell
    have L1 := hk.out.k1.cell
    go_wp2_with fail
    refine (hcp.out _ hk.out.bel).mono ?_
    rintro e v7 ⟨hb1, m, Bp, Bf, Bm, dp, df, dm, hq, hm, rfl⟩
    replace hk := Lib.hid (hk.out.below hb1)
    replace hm := Lib.hid hm
    clear hb1 L0 L1
    have L0 := hk.out.k0.cell
    have L1 := hk.out.k1.cell
    go_wp2_with fail
    refine (hci.out l ll ⟨Hll.out, by omega⟩ A c _ (HlS.out _ hk.out.bel)).mono ?_
    rintro e v8 ⟨A1, c1, rfl, hb1, -, hs1⟩
    replace hk := Lib.hid (hk.out.below hb1)
    replace hm := Lib.hid (hm.out.below hb1)
    replace hs1 := Lib.hid hs1
    clear hb1 L0 L1
    have L0 := hk.out.k0.cell
    have L1 := hk.out.k1.cell
    go_wp2_with fail
    refine (hma.out _ _ _ _ _ _ _ _ hq hm.out l ll hasc.out Hll.out _ _ hs1.out).mono ?_
    rintro e v9 ⟨rfl, hb1⟩
    replace hk := Lib.hid (hk.out.below hb1)
    clear hm hq hs1
    clear hb1 L0 L1
    have L0 := hk.out.k0.cell
    have L1 := hk.out.k1.cell
    go_wp2_with fail
    refine (hcp.out _ hk.out.bel).mono ?_
    rintro e v10 ⟨hb1, m, Bp, Bf, Bm, dp, df, dm, hq, hm, rfl⟩
    replace hk := Lib.hid (hk.out.below hb1)
    replace hm := Lib.hid hm
    clear hb1 L0 L1
    have L0 := hk.out.k0.cell
    have L1 := hk.out.k1.cell
    go_wp2_with fail
    refine (hci.out ML lm ⟨Hlm.out, by omega⟩ mA mC _ (hk.out.sl (mA, ML) (by simp))).mono ?_
    rintro e v11 ⟨A1, c1, rfl, hb1, -, hs1⟩
    replace hk := Lib.hid (hk.out.below hb1)
    replace hm := Lib.hid (hm.out.below hb1)
    replace hs1 := Lib.hid hs1
    clear hb1 L0 L1
    have L0 := hk.out.k0.cell
    have L1 := hk.out.k1.cell
    go_wp2_with fail
    refine (hma.out _ _ _ _ _ _ _ _ hq hm.out ML lm M1.out Hlm.out _ _ hs1.out).mono ?_
    rintro e v12 ⟨rfl, hb1⟩
    replace hk := Lib.hid (hk.out.below hb1)
    clear hm hq hs1
    clear hb1 L0 L1
    have L0 := hk.out.k0.cell
    have L1 := hk.out.k1.cell
    obtain ⟨la, Hla⟩ : ∃ k, Hid ((AL l).length = k) := ⟨_, rfl⟩
    obtain ⟨lb, Hlb⟩ : ∃ k, Hid ((AL ML).length = k) := ⟨_, rfl⟩
    have hla10 := hAL.out l
    have hlb10 := hAL.out ML
    rw [Hla.out] at hla10 ⊢
    rw [Hlb.out] at hlb10 ⊢
    have hM4 := M4.out
    have hPG0 : 0 ≤ MI l → unl (decide (0 ≤ MI l)) 12 = 0 ∧ max (MI l) 0 = MI l := fun h => ⟨by rw [decide_eq_true h]; rfl, by omega⟩
    have hQ0 : unl (decide (0 ≤ MI ML)) 12 = 0 → unl (decide (0 ≤ MI l)) 12 = 0 ∧ max (MI l) 0 ≤ max (MI ML) 0 := fun h => by
      have h1 : 0 ≤ MI ML := of_decide_eq_true ((unl_zero (by decide)).1 h)
      obtain ⟨h2, h3⟩ := hM4 h1
      exact ⟨by rw [decide_eq_true h2]; rfl, by omega⟩
    generalize unl (decide (0 ≤ MI l)) 12 = gv at *
    generalize max (MI l) 0 = pv at *
    generalize unl (decide (0 ≤ MI ML)) 12 = hv2 at *
    generalize max (MI ML) 0 = qv at *
    have hPG := Lib.hid hPG0
    clear hPG0 hM4 M4 hmI hma
    by_cases hh : hv2 = 0
    have hQ1 := hQ0 hh
    have u1 : (hv2 == 0) = true := by simp [hh]
    have u2 : (gv != 0) = false := by simp [hQ1.1]
    have u3 : ¬ qv < pv := by have := hQ1.2; omega
    replace hQ1 := Lib.hid hQ1
    replace hh := Lib.hid hh
    clear hQ0
    go_upto_region 18 with fail
    clear u1 u2 u3 hh hQ1
    rotate_left
    have u1 : (hv2 == 0) = false := by simp [hh]
    replace hh := Lib.hid hh
    clear hQ0
    go_upto_region 18 with fail
    clear u1 hh
    all_goals
      go_wp2
      clear L0 L1
      go_loopw [18] (fun i wr => ∃ k : Nat, k ≤ lb ∧ i = .int .i64 k ∧ FK w #[.slice Ap np cp, .slice Af nf cf, .slice Am nm cm] #[.int .i64 x0, .int .i64 x1, .int .i64 x2] [(bA, AL ML), (aA, AL l)] wr) (fun i _ => lb - (intOf i).toNat)
      case atStart => exact ⟨0, Nat.zero_le _, rfl, hk.out.less (by simp)⟩
      case round =>
        clear hk
        obtain ⟨k, hkk, rfl, hk⟩ := hrel
        replace hk := Lib.hid hk
        have L0 := hk.out.k0.cell
        have L1 := hk.out.k1.cell
        by_cases hkb : k < lb
        · have hx : (AL ML)[k]? = some ((AL ML)[k]'(by rw [Hlb.out]; exact hkb)) := List.getElem?_eq_getElem _
          generalize (AL ML)[k]'(by rw [Hlb.out]; exact hkb) = x at hx
          have hcn := M3.out x (List.mem_of_getElem? hx)
          obtain ⟨b5, o5, e5, hc5⟩ := hk.out.sl (bA, AL ML) (by simp) k x hx
          dsimp only at e5
          subst e5
          have c1 : wr.cell? ⟨b5, o5 + k, none⟩ = some (.int .i64 x) := by simpa using hc5 0 _ rfl
          have hhx := Lib.hid (hhas.out (AL l) la ⟨Hla.out, by omega⟩ x aA aAc wr (hk.out.sl (aA, AL l) (by simp)))
          rw [hcn] at hhx
          clear hx hc5 hcn hC hD hms hmar hcut hwa hAL
          go_wp2_with fail
          refine (hhx.out).mono ?_
          rintro e wz ⟨rfl, hb1⟩
          replace hk := Lib.hid (hk.out.below hb1)
          clear hb1 L0 L1 c1 hhx
          go_wp2
          go_roundw
          case rel => exact ⟨k + 1, by omega, by go_num, hk.out⟩
          case measure => simp [intOf]; omega
        obtain rfl : lb = k := by omega
        by_cases hnf : 0 < nf
        rotate_left
        · have hnf0 : ¬ (0 : Int) < nf := by omega
          go_upto_region 38 with fail
          as_aux_lemma =>
            by_cases hnm : nm = 0
            · have hnm0 : ((nm : Int) == 0) = true := by simp [hnm]
              replace hnm := Lib.hid hnm
              go_wp2
              go_ret
              exact ⟨rfl, hk.out.bel⟩
            have hnm0 : ((nm : Int) == 0) = false := by simp; omega
            have hnm1 : 0 < nm := by omega
            obtain ⟨km, hkm, hmodM⟩ := hmod.out x2 nm hnm1 (by omega) wr
            replace hmodM := Lib.hid hmodM
            go_wp2_with fail
            refine (hmodM.out).mono ?_
            rintro e wz ⟨rfl, rfl⟩
            clear hmodM hnm0
            have hdx : n.ms[km]? = some (n.ms[km]'(by rw [Hm.out]; exact hkm)) := List.getElem?_eq_getElem _
            generalize n.ms[km]'(by rw [Hm.out]; exact hkm) = d at hdx
            obtain ⟨hdn, hds, bm, om, rfl, hdc⟩ := hms.out km d hdx
            have hDk := hD.out km d hdx
            have hmarK := Lib.hid fun m Bp Bf Bm dp df dm W h hm hT => hmar.out m Bp Bf Bm dp df dm W h hm hT km
            replace hds := Lib.hid hds
            replace hdc := Lib.hid hdc
            clear hD hms hmar hdx
            obtain ⟨dl, Hd⟩ : ∃ k, Hid (d.r.l.length = k) := ⟨_, rfl⟩
            rw [Hd.out] at hDk hdn hdc
            replace hDk := Lib.hid hDk
            go_wp2_with fail
            refine (hcp.out _ hk.out.bel).mono ?_
            rintro e v13 ⟨hb1, m, Bp, Bf, Bm, dp, df, dm, hq, hm, rfl⟩
            replace hk := Lib.hid (hk.out.below hb1)
            replace hm := Lib.hid hm
            clear hb1 L0 L1
            have L0 := hk.out.k0.cell
            have L1 := hk.out.k1.cell
            rcases hDk.out with ⟨hd0, hmr⟩ | ⟨hd0, mz, hmr, hlaw⟩
            · rw [hmr] at hmarK
              dsimp only at hmarK
              clear hDk hmr hd0
              go_wp2_with fail
              refine (hmarK.out _ _ _ _ _ _ _ _ hq hm.out (hTT.out _ hk.out.bel)).mono ?_
              rintro e v14 ⟨rfl, hb1⟩
              replace hk := Lib.hid (hk.out.below hb1)
              clear hb1 L0 L1
              have L0 := hk.out.k0.cell
              have L1 := hk.out.k1.cell
              go_wp2
              go_ret
              exact ⟨rfl, hk.out.bel⟩
            rw [hmr] at hmarK
            dsimp only at hmarK
            replace hlaw := Lib.hid hlaw
            clear hDk hmr hd0
            go_wp2_with fail
            refine (hmarK.out _ _ _ _ _ _ _ _ hq hm.out (hTT.out _ hk.out.bel)).mono ?_
            rintro e v15 ⟨rfl, hb1⟩
            replace hk := Lib.hid (hk.out.below hb1)
            clear hm hq hmarK
            clear hb1 L0 L1
            have L0 := hk.out.k0.cell
            have L1 := hk.out.k1.cell
            by_cases hlz : (ll : Int) < mz
            rotate_left
            · have hlz1 : mz ≤ (ll : Int) := by omega
              clear hlaw
              go_wp2
              go_ret
              exact ⟨rfl, hk.out.bel⟩
            have hlz1 : ¬ mz ≤ (ll : Int) := by omega
            obtain ⟨w1, w2, w3⟩ := hlaw.out hlz
            obtain ⟨hg0, hp0⟩ := hPG.out w2
            replace w1 := Lib.hid w1
            replace hg0 := Lib.hid hg0
            replace hp0 := Lib.hid hp0
            have hpl : pv ≤ (km : Int) := by rw [hp0.out]; exact w3
            clear hlaw w3 w2
            have cD := hdc.out _ hk.out.bel
            go_wp2
            clear hlz hlz1 L0 L1 cD
            go_loopw [31] (fun i wr => ∃ k : Nat, k ≤ dl ∧ i = .int .i64 k ∧ FK w #[.slice Ap np cp, .slice Af nf cf, .slice (some ⟨bm, om, none⟩) nm cm] #[.int .i64 x0, .int .i64 x1, .int .i64 x2] [(aA, AL l)] wr) (fun i _ => dl - (intOf i).toNat)
            case atStart => exact ⟨0, Nat.zero_le _, rfl, hk.out.less (by simp)⟩
            case round =>
              clear hk
              obtain ⟨k, hkk, rfl, hk⟩ := hrel
              replace hk := Lib.hid hk
              have L0 := hk.out.k0.cell
              have L1 := hk.out.k1.cell
              have c0 := hdc.out wr hk.out.bel
              have hkm2 : (km : Int) < nm := by omega
              by_cases hkd : k < dl
              · have hx : d.r.l[k]? = some (d.r.l[k]'(by rw [Hd.out]; exact hkd)) := List.getElem?_eq_getElem _
                generalize d.r.l[k]'(by rw [Hd.out]; exact hkd) = x at hx
                have hcn := w1.out k x hx
                obtain ⟨b5, o5, e5, hc5⟩ := hds.out k x hx
                have c1 : wr.cell? ⟨b5, o5 + k, none⟩ = some (.int .i64 x) := by simpa using kcell hk.out.bel (hc5 0 _ rfl)
                rw [e5] at c0
                have hhx := Lib.hid (hhas.out (AL l) la ⟨Hla.out, by omega⟩ x aA aAc wr (hk.out.sl (aA, AL l) (by simp)))
                rw [hcn] at hhx
                clear hx hc5 hcn e5
                go_wp2_with fail
                refine (hhx.out).mono ?_
                rintro e wz ⟨rfl, hb1⟩
                replace hk := Lib.hid (hk.out.below hb1)
                clear hb1 L0 L1 c0 c1 hhx
                go_wp2
                go_roundw
                case rel => exact ⟨k + 1, by omega, by go_num, hk.out⟩
                case measure => simp [intOf]; omega
              obtain rfl : dl = k := by omega
              have hg1 : (gv == 0) = true := by simp [hg0.out]
              go_wp2
              go_ret
              exact ⟨rfl, hk.out.bel⟩
        have hnf1 : (0 : Int) < nf := by omega
        obtain ⟨ka, hka, hmodA⟩ := hmod.out x1 nf hnf hf10 wr
        replace hmodA := Lib.hid hmodA
        go_wp2_with fail
        refine (hmodA.out).mono ?_
        rintro e wz ⟨rfl, rfl⟩
        clear hmodA hnf1
        have hfx : n.fs[ka]? = some (n.fs[ka]'(by rw [Hf.out]; exact hka)) := List.getElem?_eq_getElem _
        generalize n.fs[ka]'(by rw [Hf.out]; exact hka) = f at hfx
        obtain ⟨C, hCe, c0, c10, aC9, c4, c5, c6⟩ := hC.out ka f hfx
        have hcutF := Lib.hid fun m Bp Bf Bm dp df dm W h hm hT => hcut.out m Bp Bf Bm dp df dm W h hm hT ka f hfx
        rw [hCe] at hcutF
        clear hcut hC hfx hCe
        replace c4 := Lib.hid c4
        replace c5 := Lib.hid c5
        replace c6 := Lib.hid c6
        replace aC9 := Lib.hid aC9
        go_wp2_with fail
        refine (hcp.out _ hk.out.bel).mono ?_
        rintro e v16 ⟨hb1, m, Bp, Bf, Bm, dp, df, dm, hq, hm, rfl⟩
        replace hk := Lib.hid (hk.out.below hb1)
        replace hm := Lib.hid hm
        clear hb1 L0 L1
        have L0 := hk.out.k0.cell
        have L1 := hk.out.k1.cell
        go_wp2_with fail
        refine (hcutF.out _ _ _ _ _ _ _ _ hq hm.out (hTT.out _ hk.out.bel)).mono ?_
        rintro e v17 ⟨hb1, uA, uC, rfl, hcc1, hcc2, hcs⟩
        replace hk := Lib.hid (hk.out.below hb1)
        replace hk := Lib.hid (hk.out.add hcs)
        clear hm hq hcs hcutF
        clear hb1 L0 L1
        have L0 := hk.out.k0.cell
        have L1 := hk.out.k1.cell
        obtain ⟨lc, Hlc⟩ : ∃ k, Hid (C.length = k) := ⟨_, rfl⟩
        rw [Hlc.out] at c0 c10 c4 c6 hcc1 ⊢
        have c00 : ((lc : Int) == 0) = false := by simp; omega
        go_wp2_with fail
        refine (hieC.out C lc ⟨Hlc.out, by omega, aC9.out⟩ uA uC _ (hk.out.sl (uA, C) (by simp))).mono ?_
        rintro e wz ⟨rfl, hb1⟩
        replace hk := Lib.hid (hk.out.below hb1)
        clear hb1 L0 L1 c00 hieC
        have L0 := hk.out.k0.cell
        have L1 := hk.out.k1.cell
        by_cases hlc : ll < lc
        have hl1 : (ll : Int) < lc := by omega
        go_wp2_with fail
        have hhy := hhas.out (AL l) la ⟨Hla.out, by omega⟩ (ka : Int) aA aAc wz (hk.out.sl (aA, AL l) (by simp))
        rw [c4.out hlc] at hhy
        refine hhy.mono ?_
        rintro e wy ⟨rfl, hb1⟩
        replace hk := Lib.hid (hk.out.below hb1)
        clear hb1 L0 L1 hhy
        have L0 := hk.out.k0.cell
        have L1 := hk.out.k1.cell
        go_upto_region 28 with fail
        clear hl1
        rotate_left
        have hl1 : ¬ (ll : Int) < lc := by omega
        go_upto_region 28 with fail
        clear hl1
        all_goals
          go_wp2_with fail
          refine (hcp.out _ hk.out.bel).mono ?_
          rintro e v18 ⟨hb1, m, Bp, Bf, Bm, dp, df, dm, hq, hm, rfl⟩
          replace hk := Lib.hid (hk.out.below hb1)
          replace hm := Lib.hid hm
          clear hb1 L0 L1
          have L0 := hk.out.k0.cell
          have L1 := hk.out.k1.cell
          go_wp2_with fail
          refine (hci.out C lc ⟨Hlc.out, by omega⟩ uA uC _ (hk.out.sl (uA, C) (by simp))).mono ?_
          rintro e v19 ⟨A1, c1, rfl, hb1, -, hs1⟩
          replace hk := Lib.hid (hk.out.below hb1)
          replace hm := Lib.hid (hm.out.below hb1)
          replace hs1 := Lib.hid hs1
          clear hb1 L0 L1
          have L0 := hk.out.k0.cell
          have L1 := hk.out.k1.cell
          go_wp2_with fail
          refine (hwa.out _ _ _ _ _ _ _ _ hq hm.out (hTT.out _ hk.out.bel) C lc aC9.out Hlc.out _ _ hs1.out).mono ?_
          rintro e v20 ⟨hb1, dA, dAc, rfl, dAs⟩
          replace hk := Lib.hid (hk.out.below hb1)
          replace hk := Lib.hid (hk.out.add dAs)
          clear hm hq hs1 dAs
          clear hb1 L0 L1
          have L0 := hk.out.k0.cell
          have L1 := hk.out.k1.cell
          obtain ⟨ld, Hld⟩ : ∃ k, Hid ((AL C).length = k) := ⟨_, rfl⟩
          have hld10 := hAL.out C
          rw [Hld.out] at hld10 ⊢
          have hhz := Lib.hid fun W (hs : Sl cI 1 W dA (AL C)) => hhas.out (AL C) ld ⟨Hld.out, by omega⟩ (ka : Int) dA dAc W hs
          rw [c5.out] at hhz
          go_wp2_with fail
          refine (hhz.out _ (hk.out.sl (dA, AL C) (by simp))).mono ?_
          rintro e wy ⟨rfl, hb1⟩
          replace hk := Lib.hid (hk.out.below hb1)
          clear hb1 L0 L1 hhz
          have L0 := hk.out.k0.cell
          have L1 := hk.out.k1.cell
          obtain ⟨b6, o6, e6, -⟩ := hk.out.sl (uA, C) (by simp) 0 (C[0]'(by rw [Hlc.out]; omega)) (List.getElem?_eq_getElem _)
          dsimp only at e6
          subst e6
          go_wp2
          clear L0 L1
          go_loopw [24] (fun i wr => ∃ m : Nat, m ≤ lc ∧ i = .int .i64 m ∧ FK w #[.slice Ap np cp, .slice Af nf cf, .slice Am nm cm] #[.int .i64 x0, .int .i64 x1, .int .i64 x2] [(some ⟨b6, o6, none⟩, C), (aA, AL l)] wr) (fun i _ => lc - (intOf i).toNat)
          case atStart => exact ⟨0, Nat.zero_le _, rfl, hk.out.less (by simp)⟩
          case round =>
            clear hk
            obtain ⟨k, hkk, rfl, hk⟩ := hrel
            replace hk := Lib.hid hk
            have L0 := hk.out.k0.cell
            have L1 := hk.out.k1.cell
            by_cases hkc : k < lc
            · obtain ⟨r1, r2⟩ := c6.out k hkc
              have hciT := Lib.hid fun W (hb : Below wr.heap.size wr W) => hci.out (C.take k) k ⟨by rw [List.length_take, Hlc.out]; omega, by omega⟩ (some ⟨b6, o6, none⟩) uC W (((hk.out.sl (some ⟨b6, o6, none⟩, C) (by simp)).below hb).take k)
              have hsC := Lib.hid fun W (hb : Below wr.heap.size wr W) => ((hk.out.sl (some ⟨b6, o6, none⟩, C) (by simp)).below hb : Sl cI 1 W (some ⟨b6, o6, none⟩) C)
              replace r1 := Lib.hid r1
              replace r2 := Lib.hid r2
              have y1 : k ≤ uC := by omega
              have y2 : (k : Int) + 1 ≤ lc := by omega
              have y3 : k + 1 ≤ lc := by omega
              have y4 : (k : Int) ≤ lc := by omega
              have y5 : k + 1 ≤ uC := by omega
              have y6 : (k : Int) + 1 ≤ uC := by omega
              have y7 : (k : Int) ≤ uC := by omega
              have y8 : (lc : Int) ≤ uC := by omega
              have y9 : (0 : Int) ≤ (k : Int) + 1 := by omega
              obtain ⟨ad, y10, had⟩ : ∃ ad : Addr, (if uC = k + 1 then some (⟨b6, o6, none⟩ : Addr) else some ⟨b6, o6 + (k + 1), none⟩) = some ad ∧ (C.length ≠ k + 1 → ad = ⟨b6, o6 + (k + 1), none⟩) := by
                by_cases hu : uC = k + 1
                · exact ⟨⟨b6, o6, none⟩, by rw [if_pos hu], fun h => by rw [Hlc.out] at h; omega⟩
                · exact ⟨⟨b6, o6 + (k + 1), none⟩, by rw [if_neg hu], fun _ => rfl⟩
              replace had := Lib.hid had
              unfold maxLen at hcc2
              go_upto_region 34 with fail
              clear L0 L1
              refine wp_any (w0 := wr) ⟨[8, 9], [], [some 205, some 206, some 207, some 208, some 209, some 210, some 211, some 212, none, none], [[], [], [0, 1], [0, 1, 2], [], [], [5], [4, 5, 6], [0, 1, 2, 3, 4, 5, 6, 7], [0, 1, 2, 3, 4, 5, 6, 7, 8]], [[], [], [0, 1], [2], [], [], [5], [4, 6], [], []]⟩ (fun γ => ownL (.slice (γ 3).A k (γ 3).c)) (by kernel_rfl) (by kernel_rfl) (by (with_reducible (repeat' (first | assumption | apply jA | apply jB | apply jC | apply jD | apply jE | apply jF | apply hb3 | omega | (simp; done) | (simp; omega) | (dsimp only; omega))))) (fun u => by simp only [putD, Act.put, List.setIfInBounds_toArray, List.set_cons_zero, List.set_cons_succ, Nat.zero_add, Nat.reduceAdd]; rfl) ?_
              apply RGW.on (i := 0) rfl
              · (simp only [gA, gB, gC] <;> rfl)
              · intro γ u W hcur hd
                clear hd
                (try dsimp only)
                refine ⟨rfl, ?_⟩
                go_simp <;> (try go_bits) <;> with_reducible rfl
              · exact fun _ _ _ => rfl
              · rfl
              dsimp only [nA, cA]
              apply RGW.on (i := 1) rfl
              · (simp only [gA, gB, gC] <;> rfl)
              · intro γ u W hcur hd
                clear hd
                (try dsimp only)
                refine ⟨rfl, ?_⟩
                go_simp <;> (try go_bits) <;> with_reducible rfl
              · exact fun _ _ _ => rfl
              · rfl
              dsimp only [nA, cA]
              apply RGW.on (i := 2) rfl
              · (simp only [gA, gB, gC] <;> rfl)
              · intro γ u W hcur hd
                obtain ⟨⟨h0, -, -⟩, ⟨h1, -, -⟩, -⟩ := hd
                dsimp only at h0 h1
                (try simp only [h0, h1])
                refine ⟨rfl, ?_⟩
                go_simp <;> (try go_bits) <;> with_reducible rfl
              · exact fun _ _ _ => rfl
              · rfl
              dsimp only [nA, cA]
              apply RGW.gh (⟨fun γ => .slice (γ 3).A k (γ 3).c, fun γ W => W.ownsRow wr.heap.size 3 1 (.slice (γ 3).A k (γ 3).c) k ((C.take k).map (.int .i64)), fun _ => []⟩) (i := 3) rfl
              · (simp only [gA, gB, gC] <;> rfl)
              · intro γ u W hcur hd
                obtain ⟨⟨h2, -, -⟩, -⟩ := hd
                dsimp only at h2
                (try simp only [h2])
                refine ⟨rfl, fun K hK => ?_⟩
                go_simp
                first
                | (go_at_call 17; (with_reducible refine (hciT.out _ hcur).mono ?_); rintro e w3 ⟨Ax, cx, rfl, hb3, hox, -⟩; dsimp only; exact hK.out ⟨0, undef, Ax, cx⟩ _ _ (by simp [up]) hb3 (by simpa [up] using own_mono hcur.size hox) (by simp))
                | (refine wp_appTn _ _ rfl Tryd.underlying22 hi hz0 hz1 hz2 rfl (by decide) (.slice (γ 3).A k (γ 3).c) k _ ad (lc - (k + 1)) _ ((C.drop (k + 1)).map (.int .i64)) rfl rfl r3 (by rw [List.length_map, List.length_drop, Hlc.out, Nat.mul_one]) (drop_news (hsC.out wd hwd) had.out) (by intro u hu; obtain ⟨y, -, rfl⟩ := List.mem_map.1 hu; rfl) (by unfold maxLen; omega) (by omega) hwd.size ?_; intro v' w' hown' hbx'; obtain ⟨zA, zC, rfl⟩ := own_slice hown'; refine hK.out _ _ hbx' (fun hcur => ?_))
              · first
                | exact fun _ _ _ => rfl
                | intro γ γ' hg
                  try dsimp only
                  have e3 := hg 3 (by decide)
                  simp only [e3]
                  try exact ⟨trivial, fun _ h => h⟩
              · intro γ W W' hbl hR
                first | exact hR.below hbl | exact own_below hR hbl | exact trivial | exact ⟨hR.1.below hbl, hR.2⟩
              · rfl
              dsimp only [nA, cA]
              apply RGW.on (i := 4) rfl
              · (simp only [gA, gB, gC] <;> rfl)
              · intro γ u W hcur hd
                clear hd
                (try dsimp only)
                refine ⟨rfl, ?_⟩
                go_simp <;> (try go_bits) <;> with_reducible rfl
              · exact fun _ _ _ => rfl
              · rfl
              dsimp only [nA, cA]
              apply RGW.on (i := 5) rfl
              · (simp only [gA, gB, gC] <;> rfl)
              · intro γ u W hcur hd
                clear hd
                (try dsimp only)
                refine ⟨rfl, ?_⟩
                go_simp <;> (try go_bits) <;> with_reducible rfl
              · exact fun _ _ _ => rfl
              · rfl
              dsimp only [nA, cA]
              apply RGW.on (i := 6) rfl
              · (simp only [gA, gB, gC] <;> rfl)
              · intro γ u W hcur hd
                obtain ⟨⟨h5, -, -⟩, -⟩ := hd
                dsimp only at h5
                (try simp only [h5])
                refine ⟨rfl, ?_⟩
                go_simp <;> (try go_bits) <;> with_reducible rfl
              · exact fun _ _ _ => rfl
              · rfl
              dsimp only [nA, cA]
              apply RGW.on (i := 7) rfl
              · (simp only [gA, gB, gC] <;> rfl)
              · intro γ u W hcur hd
                obtain ⟨⟨h4, -, -⟩, ⟨h6, -, -⟩, -⟩ := hd
                dsimp only at h4 h6
                (try simp only [h4, h6])
                refine ⟨rfl, ?_⟩
                go_simp <;> (try go_bits) <;> with_reducible rfl
              · exact fun _ _ _ => rfl
              · rfl
              dsimp only [nA, cA]
              refine RGW.skip (i := 8) rfl rfl ?_
              dsimp only [nA, cA]
              refine RGW.skip (i := 9) rfl rfl ?_
              dsimp only [nA, cA]
              refine RGW.fin (fun γ u wd hwd hd hdis => ?_)
              obtain ⟨⟨h0, -, -⟩, ⟨h1, -, -⟩, ⟨h2, -, -⟩, ⟨h3, r3, b3⟩, ⟨h4, -, -⟩, ⟨h5, -, -⟩, ⟨h6, -, -⟩, ⟨h7, -, -⟩, -⟩ := hd
              dsimp only at h0 h1 h2 h3 h4 h5 h6 h7 r3 b3
              clear hdis
              simp only [h0, h1, h2, h3, h4, h5, h6, h7]
              clear h7 h6 h5 h4 h3 h2 h1 h0
              clear u
              simp only [List.map_cons, List.map_nil]
              apply PlanW.step
              · (simp only [gA, gB, gC] <;> rfl)
              · rfl
              intro K hK
              first
              | (go_at_call 17; (with_reducible refine (hciT.out _ hcur).mono ?_); rintro e w3 ⟨Ax, cx, rfl, hb3, hox, -⟩; dsimp only; exact hK.out ⟨0, undef, Ax, cx⟩ _ _ (by simp [up]) hb3 (by simpa [up] using own_mono hcur.size hox) (by simp))
              | (refine wp_appTn _ _ rfl Tryd.underlying22 hi hz0 hz1 hz2 rfl (by decide) (.slice (γ 3).A k (γ 3).c) k _ ad (lc - (k + 1)) _ ((C.drop (k + 1)).map (.int .i64)) rfl rfl r3 (by rw [List.length_map, List.length_drop, Hlc.out, Nat.mul_one]) (drop_news (hsC.out wd hwd) had.out) (by intro u hu; obtain ⟨y, -, rfl⟩ := List.mem_map.1 hu; rfl) (by unfold maxLen; omega) (by omega) hwd.size ?_; intro v' w' hown' hbx'; obtain ⟨zA, zC, rfl⟩ := own_slice hown'; refine hK.out _ _ hbx' (fun hcur => ?_))
              clear hK K
              try simp only [Act.put, List.setIfInBounds_toArray, List.set_cons_zero, List.set_cons_succ]
              apply PlanW.step
              · (simp only [gA, gB, gC] <;> rfl)
              · rfl
              intro K hK
              go_simp
              refine hK.out _ _ (by with_reducible first | assumption | exact bx_refl _ _) (fun hcur => ?_)
              clear hK K
              try simp only [Act.put, List.setIfInBounds_toArray, List.set_cons_zero, List.set_cons_succ]
              refine PlanW.done ?_
              have hb3 := bl_tt hwd
              have hge := ownL_ge r3
              have hb1 := bx_below hwd hcur hge
              replace hk := Lib.hid (hk.out.below hb1)
              rw [← List.map_append] at hown'
              obtain ⟨LS, HLS⟩ : ∃ LS, Hid (C.take k ++ C.drop (k + 1) = LS) := ⟨_, rfl⟩
              have hlS : LS.length = k + (lc - (k + 1)) := by rw [← HLS.out, List.length_append, List.length_take, List.length_drop, Hlc.out]; omega
              rw [HLS.out] at hown' r1 r2
              have hs1 := Lib.hid (own_sl (L := LS) (by rw [hlS]; exact hown'))
              obtain ⟨n7, Hn7⟩ : ∃ q, k + (lc - (k + 1)) = q := ⟨_, rfl⟩
              rw [Hn7] at hlS ⊢
              replace hlS := Lib.hid hlS
              replace Hn7 := Lib.hid Hn7
              clear hge hb1 hcur hbx' hown' r3 hb3 hwd hciT hsC HLS had y10
              have L0 := hk.out.k0.cell
              have L1 := hk.out.k1.cell
              go_wp2_with fail
              refine (hcp.out _ hk.out.bel).mono ?_
              rintro e v21 ⟨hb1, m, Bp, Bf, Bm, dp, df, dm, hq, hm, rfl⟩
              replace hk := Lib.hid (hk.out.below hb1)
              replace hm := Lib.hid hm
              replace hs1 := Lib.hid (hs1.out.below hb1)
              clear hb1 L0 L1
              have L0 := hk.out.k0.cell
              have L1 := hk.out.k1.cell
              go_wp2_with fail
              refine (hwa.out _ _ _ _ _ _ _ _ hq hm.out (hTT.out _ hk.out.bel) LS n7 r1.out hlS.out _ _ hs1.out).mono ?_
              rintro e v22 ⟨hb1, eA, eAc, rfl, eAs⟩
              replace hk := Lib.hid (hk.out.below hb1)
              replace hk := Lib.hid (hk.out.add eAs)
              clear hm hq hs1 eAs
              clear hb1 L0 L1
              have L0 := hk.out.k0.cell
              have L1 := hk.out.k1.cell
              obtain ⟨le, Hle⟩ : ∃ q, Hid ((AL LS).length = q) := ⟨_, rfl⟩
              have hle10 := hAL.out LS
              rw [Hle.out] at hle10 ⊢
              have hhz := Lib.hid fun W (hs : Sl cI 1 W eA (AL LS)) => hhas.out (AL LS) le ⟨Hle.out, by omega⟩ (ka : Int) eA eAc W hs
              rw [r2.out] at hhz
              go_wp2_with fail
              refine (hhz.out _ (hk.out.sl (eA, AL LS) (by simp))).mono ?_
              rintro e wy ⟨rfl, hb1⟩
              replace hk := Lib.hid (hk.out.below hb1)
              clear hb1 L0 L1 hhz
              have L0 := hk.out.k0.cell
              have L1 := hk.out.k1.cell
              go_wp2
              go_roundw
              case rel => exact ⟨k + 1, by omega, by go_num, hk.out.less (by simp)⟩
              case measure => simp [intOf]; omega
            obtain rfl : lc = k := by omega
            go_upto_region 38 with fail
            as_aux_lemma =>
              by_cases hnm : nm = 0
              · have hnm0 : ((nm : Int) == 0) = true := by simp [hnm]
                replace hnm := Lib.hid hnm
                go_wp2
                go_ret
                exact ⟨rfl, hk.out.bel⟩
              have hnm0 : ((nm : Int) == 0) = false := by simp; omega
              have hnm1 : 0 < nm := by omega
              obtain ⟨km, hkm, hmodM⟩ := hmod.out x2 nm hnm1 (by omega) wr
              replace hmodM := Lib.hid hmodM
              go_wp2_with fail
              refine (hmodM.out).mono ?_
              rintro e wz ⟨rfl, rfl⟩
              clear hmodM hnm0
              have hdx : n.ms[km]? = some (n.ms[km]'(by rw [Hm.out]; exact hkm)) := List.getElem?_eq_getElem _
              generalize n.ms[km]'(by rw [Hm.out]; exact hkm) = d at hdx
              obtain ⟨hdn, hds, bm, om, rfl, hdc⟩ := hms.out km d hdx
              have hDk := hD.out km d hdx
              have hmarK := Lib.hid fun m Bp Bf Bm dp df dm W h hm hT => hmar.out m Bp Bf Bm dp df dm W h hm hT km
              replace hds := Lib.hid hds
              replace hdc := Lib.hid hdc
              clear hD hms hmar hdx
              obtain ⟨dl, Hd⟩ : ∃ k, Hid (d.r.l.length = k) := ⟨_, rfl⟩
              rw [Hd.out] at hDk hdn hdc
              replace hDk := Lib.hid hDk
              go_wp2_with fail
              refine (hcp.out _ hk.out.bel).mono ?_
              rintro e v23 ⟨hb1, m, Bp, Bf, Bm, dp, df, dm, hq, hm, rfl⟩
              replace hk := Lib.hid (hk.out.below hb1)
              replace hm := Lib.hid hm
              clear hb1 L0 L1
              have L0 := hk.out.k0.cell
              have L1 := hk.out.k1.cell
              rcases hDk.out with ⟨hd0, hmr⟩ | ⟨hd0, mz, hmr, hlaw⟩
              · rw [hmr] at hmarK
                dsimp only at hmarK
                clear hDk hmr hd0
                go_wp2_with fail
                refine (hmarK.out _ _ _ _ _ _ _ _ hq hm.out (hTT.out _ hk.out.bel)).mono ?_
                rintro e v24 ⟨rfl, hb1⟩
                replace hk := Lib.hid (hk.out.below hb1)
                clear hb1 L0 L1
                have L0 := hk.out.k0.cell
                have L1 := hk.out.k1.cell
                go_wp2
                go_ret
                exact ⟨rfl, hk.out.bel⟩
              rw [hmr] at hmarK
              dsimp only at hmarK
              replace hlaw := Lib.hid hlaw
              clear hDk hmr hd0
              go_wp2_with fail
              refine (hmarK.out _ _ _ _ _ _ _ _ hq hm.out (hTT.out _ hk.out.bel)).mono ?_
              rintro e v25 ⟨rfl, hb1⟩
              replace hk := Lib.hid (hk.out.below hb1)
              clear hm hq hmarK
              clear hb1 L0 L1
              have L0 := hk.out.k0.cell
              have L1 := hk.out.k1.cell
              by_cases hlz : (ll : Int) < mz
              rotate_left
              · have hlz1 : mz ≤ (ll : Int) := by omega
                clear hlaw
                go_wp2
                go_ret
                exact ⟨rfl, hk.out.bel⟩
              have hlz1 : ¬ mz ≤ (ll : Int) := by omega
              obtain ⟨w1, w2, w3⟩ := hlaw.out hlz
              obtain ⟨hg0, hp0⟩ := hPG.out w2
              replace w1 := Lib.hid w1
              replace hg0 := Lib.hid hg0
              replace hp0 := Lib.hid hp0
              have hpl : pv ≤ (km : Int) := by rw [hp0.out]; exact w3
              clear hlaw w3 w2
              have cD := hdc.out _ hk.out.bel
              go_wp2
              clear hlz hlz1 L0 L1 cD
              go_loopw [31] (fun i wr => ∃ k : Nat, k ≤ dl ∧ i = .int .i64 k ∧ FK w #[.slice Ap np cp, .slice Af nf cf, .slice (some ⟨bm, om, none⟩) nm cm] #[.int .i64 x0, .int .i64 x1, .int .i64 x2] [(aA, AL l)] wr) (fun i _ => dl - (intOf i).toNat)
              case atStart => exact ⟨0, Nat.zero_le _, rfl, hk.out.less (by simp)⟩
              case round =>
                clear hk
                obtain ⟨k, hkk, rfl, hk⟩ := hrel
                replace hk := Lib.hid hk
                have L0 := hk.out.k0.cell
                have L1 := hk.out.k1.cell
                have c0 := hdc.out wr hk.out.bel
                have hkm2 : (km : Int) < nm := by omega
                by_cases hkd : k < dl
                · have hx : d.r.l[k]? = some (d.r.l[k]'(by rw [Hd.out]; exact hkd)) := List.getElem?_eq_getElem _
                  generalize d.r.l[k]'(by rw [Hd.out]; exact hkd) = x at hx
                  have hcn := w1.out k x hx
                  obtain ⟨b5, o5, e5, hc5⟩ := hds.out k x hx
                  have c1 : wr.cell? ⟨b5, o5 + k, none⟩ = some (.int .i64 x) := by simpa using kcell hk.out.bel (hc5 0 _ rfl)
                  rw [e5] at c0
                  have hhx := Lib.hid (hhas.out (AL l) la ⟨Hla.out, by omega⟩ x aA aAc wr (hk.out.sl (aA, AL l) (by simp)))
                  rw [hcn] at hhx
                  clear hx hc5 hcn e5
                  go_wp2_with fail
                  refine (hhx.out).mono ?_
                  rintro e wz ⟨rfl, hb1⟩
                  replace hk := Lib.hid (hk.out.below hb1)
                  clear hb1 L0 L1 c0 c1 hhx
                  go_wp2
                  go_roundw
                  case rel => exact ⟨k + 1, by omega, by go_num, hk.out⟩
                  case measure => simp [intOf]; omega
                obtain rfl : dl = k := by omega
                have hg1 : (gv == 0) = true := by simp [hg0.out]
                go_wp2
                go_ret
                exact ⟨rfl, hk.out.bel⟩
end Go.Proofs.YtdlmkblmljhbfaaDoor
