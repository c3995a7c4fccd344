/-
  What the laws on nets use: the contracts at a copy of a net, and that both sides mean the same.
  Walk: the law on nets.
  Walk: the law on cuts.
-/
import Derived.Test.YtdlmkblmljhbfaaDoorVCuts3
import Derived.Test.YtdlmkblmljhbfaaDoorVCuts2
import Derived.Test.YtdlmkblmljhbfaaDoorU6
import Derived.Test.YtdlmkblmljhbfaaDoorU5
namespace Go.Proofs.YtdlmkblmljhbfaaDoor
set_option linter.unusedSimpArgs false
set_option linter.unusedVariables false
open Go.RowKit Go.Shelf
set_option maxRecDepth 20000
/-! ### The contracts at a copy. -/
section
variable {n m : Nt} {Bp Bf Bm : Option Addr} {dp df dm : Nat} {W : World}
theorem q_CheckNet (h : NtEq n m) (hm : NtIn m Bp Bf Bm dp df dm W) : Calls Tryd.prog 49 #[vNt Bp Bf Bm n.ps.length n.fs.length n.ms.length dp df dm] W (Ret (.tuple #[.int .i64 (netChk n).1, .int .i64 (netChk n).2]) W) := by
  have := c_CheckNet m Bp Bf Bm dp df dm W hm
  rw [h.chk, h.ps, h.flen, h.mlen] at this
  exact this
theorem NtEq.flt (h : NtEq n m) (l : List Int) : fltE m l = fltE n l := by unfold fltE; rw [h.err, h.ps]
theorem NtEq.work (h : NtEq n m) (s : Nat) : workN m.fs s m.fs.length = workN n.fs s n.fs.length := by rw [workN_con h.fs, h.flen]
theorem NtEq.after (h : NtEq n m) (l : List Int) : afterS m l = afterS n l := by unfold afterS; rw [h.work]
theorem idxF_map {α β : Type} (g : α → β) (p : β → Bool) : ∀ (l : List α) (k : Int), idxF (fun x => p (g x)) l k = idxF p (l.map g) k
  | [], _ => rfl
  | x :: l, k => by simp only [idxF, List.map_cons, idxF_map g p l (k + 1)]
theorem NtEq.modI (h : NtEq n m) (l : List Int) : modI m l = modI n l := by
  unfold Go.Proofs.YtdlmkblmljhbfaaDoor.modI
  rw [h.work]
  have := fun k : List Md => idxF_map Md.con (fun c : ByteArray × List Int => modeB c.2 (workN n.fs (setN l) n.fs.length)) k 0
  have e : ∀ k : List Md, idxF (fun m : Md => modeB m.r.l (workN n.fs (setN l) n.fs.length)) k 0 = idxF (fun c : ByteArray × List Int => modeB c.2 (workN n.fs (setN l) n.fs.length)) (k.map Md.con) 0 := this
  rw [e, e, h.ms]
theorem NtEq.modR (h : NtEq n m) (l : List Int) : modR m l = modR n l := by
  unfold Go.Proofs.YtdlmkblmljhbfaaDoor.modR
  rw [h.flt, h.modI]
theorem NtEq.cutErr (h : NtEq n m) (k : Int) : cutErr m k = cutErr n k := by
  unfold Go.Proofs.YtdlmkblmljhbfaaDoor.cutErr
  rw [h.err, h.flen]
theorem NtEq.marE (h : NtEq n m) (k : Int) : marE m k = marE n k := by
  unfold Go.Proofs.YtdlmkblmljhbfaaDoor.marE
  rw [h.err, h.mlen]
theorem NtEq.szS (h : NtEq n m) (l : List Int) : szS m l = szS n l := by
  unfold Go.Proofs.YtdlmkblmljhbfaaDoor.szS
  rw [h.ps]
  apply List.map_congr_left
  intro x _
  have h1 := congrArg (fun l => l[x.toNat]?) h.fs
  simp only [List.getElem?_map] at h1
  cases ha : m.fs[x.toNat]? with
  | none =>
    rw [ha] at h1
    cases hb : n.fs[x.toNat]? with
    | none => rfl
    | some y => rw [hb] at h1; cases h1
  | some a =>
    rw [ha] at h1
    cases hb : n.fs[x.toNat]? with
    | none => rw [hb] at h1; cases h1
    | some y =>
      rw [hb] at h1
      have : a.con = y.con := by injection h1
      simp only [cutS_con this]
theorem NtEq.marR (h : NtEq n m) (k : Int) : marR m k = marR n k := by
  unfold Go.Proofs.YtdlmkblmljhbfaaDoor.marR
  rw [h.marE]
  have h1 := congrArg (fun l => l[k.toNat]?) h.ms
  simp only [List.getElem?_map] at h1
  cases ha : m.ms[k.toNat]? with
  | none =>
    rw [ha] at h1
    cases hb : n.ms[k.toNat]? with
    | none => rfl
    | some y => rw [hb] at h1; cases h1
  | some a =>
    rw [ha] at h1
    cases hb : n.ms[k.toNat]? with
    | none => rw [hb] at h1; cases h1
    | some y =>
      rw [hb] at h1
      have : a.con = y.con := by injection h1
      have e : a.r.l = y.r.l := congrArg Prod.snd this
      simp only [e, h.szS]
theorem q_WorksAfter (h : NtEq n m) (hm : NtIn m Bp Bf Bm dp df dm W) (hT : Tab W) (l : List Int) (A : Option Addr) (c : Nat) (hs : Sl cI 1 W A l) (hl : l.length ≤ 1000) :
    Calls Tryd.prog 50 #[vNt Bp Bf Bm n.ps.length n.fs.length n.ms.length dp df dm, .slice A l.length c] W (fun e w' => Below W.heap.size W w' ∧
      ((fltE n l ≠ 0 ∧ e = .returned (.tuple #[.slice none 0 0, .int .i64 (fltE n l)])) ∨
        (fltE n l = 0 ∧ ∃ A2 c2, e = .returned (.tuple #[.slice A2 (afterS n l).length c2, .int .i64 0]) ∧ Sl cI 1 w' A2 (afterS n l)))) := by
  have := c_WorksAfter m l Bp Bf Bm A dp df dm c W hm hs hl hT
  rw [h.flt, h.after, h.ps, h.flen, h.mlen] at this
  exact this
theorem q_ModeAfter (h : NtEq n m) (hm : NtIn m Bp Bf Bm dp df dm W) (l : List Int) (A : Option Addr) (c : Nat) (hs : Sl cI 1 W A l) (hl : l.length ≤ 1000) :
    Calls Tryd.prog 51 #[vNt Bp Bf Bm n.ps.length n.fs.length n.ms.length dp df dm, .slice A l.length c] W (Ret (.tuple #[.int .i64 (modR n l).1, .int .i64 (modR n l).2]) W) := by
  have := c_ModeAfter m l Bp Bf Bm A dp df dm c W hm hs hl
  rw [h.modR, h.ps, h.flen, h.mlen] at this
  exact this
theorem q_MarginOf (h : NtEq n m) (hm : NtIn m Bp Bf Bm dp df dm W) (hT : Tab W) (k : Int) : Calls Tryd.prog 35 #[vNt Bp Bf Bm n.ps.length n.fs.length n.ms.length dp df dm, .int .i64 k] W (Ret (.tuple #[.int .i64 (marR n k).1, .int .i64 (marR n k).2]) W) := by
  have := c_MarginOf m k Bp Bf Bm dp df dm W hm hT
  rw [h.marR, h.ps, h.flen, h.mlen] at this
  exact this
theorem q_CutOf (h : NtEq n m) (hm : NtIn m Bp Bf Bm dp df dm W) (hT : Tab W) (k : Int) :
    Calls Tryd.prog 33 #[vNt Bp Bf Bm n.ps.length n.fs.length n.ms.length dp df dm, .int .i64 k] W (fun e w' => Below W.heap.size W w' ∧
      ((cutErr n k ≠ 0 ∧ e = .returned (.tuple #[.slice none 0 0, .int .i64 (cutErr n k)])) ∨
        (cutErr n k = 0 ∧ ∃ f, n.fs[k.toNat]? = some f ∧ ∃ A c, e = .returned (.tuple #[.slice A (listS (cutS f n.ps.length)).length c, .int .i64 0]) ∧ Sl cI 1 w' A (listS (cutS f n.ps.length))))) := by
  have := c_CutOf m k Bp Bf Bm dp df dm W hm hT
  rw [h.cutErr, h.ps, h.flen, h.mlen] at this
  refine this.mono fun e w' ⟨hb, hh⟩ => ⟨hb, ?_⟩
  rcases hh with hh | ⟨h0, f, hf, A, c, he, ho⟩
  · exact .inl hh
  · obtain ⟨g, hg, hc⟩ := h.symm.fget hf
    rw [cutS_con hc.symm] at he ho
    exact .inr ⟨h0, g, hg, A, c, he, own_sl ho⟩
end
/-! ### Both sides mean the same. -/
theorem not_bit {left k : Nat} (hl : left < 1024) (hk : k < 64) : (18446744073709551615 - left).testBit k = !left.testBit k := by
  have : 18446744073709551615 - left = 2 ^ 64 - (left + 1) := by omega
  rw [this, Nat.testBit_two_pow_sub_succ (by omega)]
  simp [hk]
theorem modeB_all {needs : List Int} {left : Nat} (hn : ∀ x ∈ needs, 0 ≤ x ∧ x < 10) (hl : left < 1024) : modeB needs left = needs.all fun x => left.testBit x.toNat := by
  unfold modeB
  rw [Bool.eq_iff_iff, beq_iff_eq, List.all_eq_true]
  constructor
  · intro h x hx
    obtain ⟨h0, h1⟩ := hn x hx
    have h2 := congrArg (fun n => n.testBit x.toNat) h
    have h3 : ((x.toNat : Nat) : Int) = x := by omega
    simp only [Nat.testBit_and, setN_bit needs (fun y hy => (hn y hy).1), not_bit hl (show x.toNat < 64 by omega), Nat.zero_testBit, h3, hx, decide_true, Bool.true_and, Bool.not_eq_false'] at h2
    exact h2
  · intro h
    apply Nat.eq_of_testBit_eq
    intro k
    rw [Nat.testBit_and, setN_bit needs (fun y hy => (hn y hy).1), Nat.zero_testBit]
    by_cases hk : (k : Int) ∈ needs
    · have h1 := h _ hk
      have h2 := (hn _ hk).2
      rw [Int.toNat_natCast] at h1
      rw [not_bit hl (show k < 64 by omega), h1]
      simp
    · simp [hk]
theorem need_bit {fs : List Fu} {l : List Int} (hf : ∀ f ∈ fs, NonNeg f) (hb : ∀ x ∈ l, 0 ≤ x) {x : Int} (hx : x.toNat < fs.length) : (workN fs (setN l) fs.length).testBit x.toNat = needB fs l x := by
  rw [workN_bit, decide_eq_true hx, Bool.true_and]
  unfold needB
  rw [List.getElem?_eq_getElem hx]
  simp only
  exact wks_works (hf _ (List.getElem_mem hx)) hb
structure NtOk (n : Nt) : Prop where
  p10 : n.ps.length ≤ 10
  f10 : n.fs.length ≤ 10
  m6 : n.ms.length ≤ 6
  p1 : 1 ≤ n.ps.length
  nn : ∀ f ∈ n.fs, NonNeg f
  st : ∀ f ∈ n.fs, Stops f n.ps.length
  need : NeedOk n
  ways : ∀ f ∈ n.fs, ∀ r ∈ f.ws, 0 < r.l.length ∧ ∀ x ∈ r.l, 0 ≤ x ∧ x < n.ps.length
theorem waysE_pos {parts : Int} : ∀ (ws : List Rw) (e : Int), waysE parts e ws = 0 → e = 0 ∧ ∀ r ∈ ws, 0 < r.l.length
  | [], e, h => ⟨h, by simp⟩
  | r :: ws, e, h => by
    obtain ⟨h1, h2⟩ := waysE_pos ws _ h
    obtain ⟨h3, h4⟩ := (fst_cons _ _).1 h1
    obtain ⟨h5, h6⟩ := (fst_cons _ _).1 h4
    have h7 := (unl_zero (by decide)).1 h5
    refine ⟨h3, fun r' hr => ?_⟩
    rcases List.mem_cons.1 hr with rfl | hr
    · exact of_decide_eq_true h7
    · exact h2 r' hr
theorem net_ok {n : Nt} (h : netErr n = 0) : NtOk n := by
  obtain ⟨o1, o2, o3⟩ := netErr_ok h
  obtain ⟨o4, o5⟩ := net_md h
  have hw : ∀ f ∈ n.fs, ∀ r ∈ f.ws, 0 < r.l.length := by
    unfold netErr netChk at h
    split at h
    · split at h
      · split at h
        · rename_i h2
          intro f hf r hr
          obtain ⟨k, hk⟩ := List.mem_iff_getElem?.1 hf
          have b1 := eachS_ok _ n.fs 0 h2 k f hk
          exact (waysE_pos f.ws _ b1).2 r hr
        · rename_i h2
          exact absurd h h2
      · rename_i h1
        exact absurd h h1
    · rename_i h0
      exact absurd h h0
  have hp : 1 ≤ n.ps.length := by
    by_cases h0 : n.ps.length = 0
    · have e := e0_zero h0
      unfold netErr netChk at h
      rw [if_neg (by rw [e]; decide)] at h
      exact absurd (e.symm.trans h) (by decide)
    · omega
  exact ⟨o1, o2, o4, hp, fun f hf r hr x hx => (o3 f hf r hr x hx).1, fun f hf => stops_of fun r hr => ⟨hw f hf r hr, o3 f hf r hr⟩, fun m hm x hx => o5 m hm x hx, fun f hf r hr => ⟨hw f hf r hr, o3 f hf r hr⟩⟩
theorem NtOk.cut {n : Nt} (h : NtOk n) : CutOk n := ⟨h.p10, fun f hf => ⟨h.nn f hf, h.st f hf⟩⟩
theorem after_all {n : Nt} {l : List Int} (h : NtOk n) (hb : ∀ x ∈ l, 0 ≤ x) : afterS n l = allS n.fs l := list_all h.f10 h.nn hb
theorem idxF_congr {α : Type} {p q : α → Bool} : ∀ (l : List α) (k : Int), (∀ x ∈ l, p x = q x) → idxF p l k = idxF q l k
  | [], _, _ => rfl
  | x :: l, k, h => by
    rw [idxF, idxF, h x (by simp), idxF_congr l (k + 1) fun y hy => h y (List.mem_cons_of_mem _ hy)]
theorem all_congr2 {α : Type} {l : List α} {p q : α → Bool} (h : ∀ x ∈ l, p x = q x) : l.all p = l.all q := by
  induction l with
  | nil => rfl
  | cons x l ih => rw [List.all_cons, List.all_cons, h x (by simp), ih fun y hy => h y (List.mem_cons_of_mem _ hy)]
theorem mode_eq {n : Nt} {l : List Int} (h : NtOk n) (hb : ∀ x ∈ l, 0 ≤ x) : modI n l = idxF (hasB n.fs l) n.ms 0 := by
  refine idxF_congr n.ms 0 fun m hm => ?_
  have h1 := h.need m hm
  have h2 := h.f10
  rw [modeB_all (fun x hx => by have := h1 x hx; omega) (work_lt h2 _)]
  unfold hasB
  exact all_congr2 fun x hx => need_bit h.nn hb (by have := h1 x hx; omega)
theorem idxF_lt {α : Type} (p : α → Bool) : ∀ (l : List α) (k : Int), idxF p l k = -1 ∨ (k ≤ idxF p l k ∧ idxF p l k < k + l.length)
  | [], _ => .inl rfl
  | x :: l, k => by
    rw [idxF]
    split
    · right; simp; omega
    · rcases idxF_lt p l (k + 1) with h | h
      · exact .inl h
      · right; simp; omega
theorem size_le {f : Fu} {p : Nat} (hp : p ≤ 10) : sizeS (cutS f p) ≤ p := by
  have h1 := Nat.two_pow_pos p
  have hlt : ∀ k, k ≤ 2 ^ p → cutTo f (2 ^ p - 1) k < 2 ^ p := by
    intro k
    induction k with
    | zero => intro _; rw [cutTo]; omega
    | succ k ih =>
      intro hk
      rw [cutTo]
      split
      · omega
      · exact ih (by omega)
  have h2 : cutS f p < 2 ^ p := hlt _ (Nat.le_refl _)
  unfold sizeS
  rw [← setL_list hp h2]
  exact setL_len _ p
theorem szS_le {n : Nt} (hp : n.ps.length ≤ 10) (l : List Int) : ∀ x ∈ szS n l, x ≤ n.ps.length := fun x hx => by
  unfold szS at hx
  obtain ⟨y, -, rfl⟩ := List.mem_map.1 hx
  split
  · have := size_le (f := ‹Fu›) hp; omega
  · omega
theorem margin_eq {n : Nt} (hp : n.ps.length ≤ 10) {l : List Int} (hl : l.length ≠ 0) : mgK n.ps.length (szS n l) l.length = minS (szS n l) := by
  have h1 := szS_le hp l
  have h2 := szS_len n l
  unfold mgK
  rw [List.take_of_length_le (by omega)]
  cases hz : szS n l with
  | nil => rw [hz] at h2; simp at h2; omega
  | cons x z =>
    have := h1 x (by rw [hz]; simp)
    unfold minS
    rw [List.foldl_cons, show min (n.ps.length : Int) x = x by omega]
theorem cut_eq {n : Nt} (h : NtOk n) {k : Nat} {f : Fu} (hf : n.fs[k]? = some f) : (rcut f n.ps.length (2 ^ n.ps.length)).2 = listS (cutS f n.ps.length) := by
  rw [rcut_end h.p10 (h.nn f (List.mem_of_getElem? hf)) (h.st f (List.mem_of_getElem? hf))]
end Go.Proofs.YtdlmkblmljhbfaaDoor
namespace Go.Proofs.YtdlmkblmljhbfaaDoor
set_option linter.unusedSimpArgs false
set_option linter.unusedVariables false
open Go.RowKit Go.Shelf
attribute [local go_sem] bl_al bl_drew bl_drewN bl_refl bx_al bx_drew bx_drewN bx_refl
set_option maxRecDepth 20000
/-- Numbers, or an error and none. -/
def NumP (w : World) (V : Int) (L : List Int) (e : Ending) (w' : World) : Prop :=
  Below w.heap.size w w' ∧ ∃ A3 n c3, e = .returned (.tuple #[.slice A3 (n : Nat) c3, .int .i64 V]) ∧ (V ≠ 0 → n = 0) ∧ (V = 0 → n = L.length ∧ Sl cI 1 w' A3 L)
theorem flt_net {n : Nt} {l : List Int} (h : netErr n ≠ 0) : fltE n l = netErr n := by simp [fltE, fstE, h]
theorem flt_idx {n : Nt} {l : List Int} (h : netErr n = 0) : fltE n l = idxErr l n.ps.length := by
  simp [fltE, fstE, h]
  exact fun h => h.symm
set_option maxHeartbeats 0 in
theorem r_BusNets (n : Nt) (l : List Int) (Ap Af Am A : Option Addr) (cp cf cm c : Nat) (w : World) (hn : NtR n Ap Af Am cp cf cm w) (hs : Sl cI 1 w A l) (hT : Tab w) :
    Calls Tryd.prog 8 #[vNt Ap Af Am n.ps.length n.fs.length n.ms.length cp cf cm, .slice A l.length c] w (Ret (.bool true) w) := by
  have haw := Lib.hid fun W (hb : Below w.heap.size w W) => r_awake W (hT.below hb)
  have hfw := Lib.hid (r_few n Ap Af Am cp cf cm)
  have hnr := Lib.hid hn
  have Hs := Lib.hid fun W (hb : Below w.heap.size w W) => hs.below hb
  have hTT := Lib.hid fun W (hb : Below w.heap.size w W) => hT.below hb
  have hfew := Lib.hid fun h : fewN n = true => few_net hn h
  have hfr : Hid (∀ W, Below w.heap.size w W → NtR n Ap Af Am cp cf cm W) := fun W hb => ⟨hn.pcap, hn.fcap, hn.mcap, hn.psl.below hb, hn.fsl.below hb, hn.msl.below hb, hn.pnm, fun f hf => ⟨(hn.fin f hf).nm, (hn.fin f hf).cap, (hn.fin f hf).sl.below hb, fun r hr => ⟨((hn.fin f hf).rows r hr).cap, ((hn.fin f hf).rows r hr).sl.below hb⟩⟩, fun m hm => ⟨(hn.min m hm).nm, (hn.min m hm).row.cap, (hn.min m hm).row.sl.below hb⟩⟩
  clear hn hs hT
  change Calls Tryd.prog 8 #[.agg #[.slice Ap n.ps.length cp, .slice Af n.fs.length cf, .slice Am n.ms.length cm], .slice A l.length c] w _
  dsimp only [vNt, aNt] at hfw
  have hfw2 := Lib.hid fun W (hb : Below w.heap.size w W) => hfw.out W (hfr.out W hb)
  clear hfw hfr hnr
  cases hF : fewN n
  · rw [hF] at hfw2
    clear hfew Hs hTT
    generalize n.ps.length = np at *
    generalize n.fs.length = nf at *
    generalize n.ms.length = nm at *
    generalize l.length = ll at *
    go_enter Tryd.func8, Tryd.ntmps8
    go_upto_region 1 with fail
    first
    | apply absB1 (w0 := w) (g0 := w.heap.size)
    | apply absTB1 (w0 := w) (g0 := w.heap.size)
    | apply absIB1 (w0 := w) (g0 := w.heap.size)
    iterate 2 (focus ((with_reducible (repeat' (first | assumption | apply jA | apply jB | apply jC | apply jD | apply jE | apply jF | apply hb3 | apply jG | apply jH | apply jI | apply jJ | apply jK | apply hb3x | (apply jL; first | (simp; done) | rfl) | apply jM | apply jN | apply jO | apply jP | apply jQ | apply jR | apply jS | apply jT (hb := hb3 _ (jA _)) | omega | (simp; done) | (simp; omega) | (dsimp only; omega)))); done))
    intro wa hb0' k0'
    (try simp only [List.setIfInBounds_toArray, List.set_cons_zero, List.set_cons_succ] at k0')
    try clear hb3
    try clear hb0
    try clear k0
    have hb0 := hb0'; clear hb0'
    have k0 := k0'; clear k0'
    go_wp2_with fail
    refine (haw.out wa hb0).mono ?_
    rintro e w1 ⟨rfl, hb1⟩
    replace hb0 := bl_tr hb0 hb1
    replace k0 := k0.below hb1
    have L0 := k0.cell
    clear hb1
    go_wp2_with fail
    refine (hfw2.out _ hb0).mono ?_
    rintro e w2 ⟨rfl, hb1⟩
    go_wp2
    go_ret
    exact ⟨rfl, bl_tr hb0 hb1⟩
  rw [hF] at hfw2
  obtain ⟨hni, hp12, hf12, hm8⟩ := hfew.out hF
  clear hfew hF
  by_cases hl12 : (12 : Int) < l.length
  · clear Hs hTT hni
    generalize n.ps.length = np at *
    generalize n.fs.length = nf at *
    generalize n.ms.length = nm at *
    generalize l.length = ll at *
    go_enter Tryd.func8, Tryd.ntmps8
    go_upto_region 1 with fail
    first
    | apply absB1 (w0 := w) (g0 := w.heap.size)
    | apply absTB1 (w0 := w) (g0 := w.heap.size)
    | apply absIB1 (w0 := w) (g0 := w.heap.size)
    iterate 2 (focus ((with_reducible (repeat' (first | assumption | apply jA | apply jB | apply jC | apply jD | apply jE | apply jF | apply hb3 | apply jG | apply jH | apply jI | apply jJ | apply jK | apply hb3x | (apply jL; first | (simp; done) | rfl) | apply jM | apply jN | apply jO | apply jP | apply jQ | apply jR | apply jS | apply jT (hb := hb3 _ (jA _)) | omega | (simp; done) | (simp; omega) | (dsimp only; omega)))); done))
    intro wa hb0' k0'
    (try simp only [List.setIfInBounds_toArray, List.set_cons_zero, List.set_cons_succ] at k0')
    try clear hb3
    try clear hb0
    try clear k0
    have hb0 := hb0'; clear hb0'
    have k0 := k0'; clear k0'
    go_wp2_with fail
    refine (haw.out wa hb0).mono ?_
    rintro e w1 ⟨rfl, hb1⟩
    replace hb0 := bl_tr hb0 hb1
    replace k0 := k0.below hb1
    have L0 := k0.cell
    clear hb1
    go_wp2_with fail
    refine (hfw2.out _ hb0).mono ?_
    rintro e w2 ⟨rfl, hb1⟩
    go_wp2
    go_ret
    exact ⟨rfl, bl_tr hb0 hb1⟩
  have hl1000 : l.length ≤ 1000 := by omega
  have hcp := Lib.hid fun W (hb : Below w.heap.size w W) => r_CopyNet n Ap Af Am cp cf cm W (hni.below hb)
  have hrc := Lib.hid fun W (hb : Below w.heap.size w W) => r_CheckNet n Ap Af Am cp cf cm W (hni.below hb)
  have hci := Lib.hid fun W (hb : Below w.heap.size w W) => r_CopyInts l A c W (Hs.out W hb) hl1000
  have hie := Lib.hid fun W (hb : Below w.heap.size w W) => r_IndexesErr l n.ps.length A c W (Hs.out W hb) hl1000 (by omega)
  have hal := Lib.hid fun W (hb : Below w.heap.size w W) => r_All n l Ap Af Am A cp cf cm c W (hni.below hb) (Hs.out W hb) hl1000
  have hmo := Lib.hid fun (h : netErr n = 0) W (hb : Below w.heap.size w W) => r_Mode n l Ap Af Am A cp cf cm c W (hni.below hb) (net_ok h).need (Hs.out W hb) hl1000
  have hck := Lib.hid fun (m : Nt) Bp Bf Bm dp df dm W (h : NtEq n m) (hm : NtIn m Bp Bf Bm dp df dm W) => q_CheckNet h hm
  have hwa : Hid (∀ (m : Nt) Bp Bf Bm dp df dm W, NtEq n m → NtIn m Bp Bf Bm dp df dm W → Tab W → ∀ A1 c1, Sl cI 1 W A1 l → Calls Tryd.prog 50 #[vNt Bp Bf Bm n.ps.length n.fs.length n.ms.length dp df dm, .slice A1 l.length c1] W (NumP W (fltE n l) (afterS n l))) := fun m Bp Bf Bm dp df dm W h hm hT A1 c1 hs =>
    (q_WorksAfter h hm hT l A1 c1 hs hl1000).mono fun e w' ⟨hb, hh⟩ => by
      rcases hh with ⟨h0, e3⟩ | ⟨h0, A3, c3, e3, h3⟩
      · exact ⟨hb, none, 0, 0, e3, fun _ => rfl, fun h => absurd h h0⟩
      · exact ⟨hb, A3, _, c3, by rw [h0]; exact e3, fun h => absurd h0 h, fun _ => ⟨rfl, h3⟩⟩
  have hma := Lib.hid fun (m : Nt) Bp Bf Bm dp df dm W (h : NtEq n m) (hm : NtIn m Bp Bf Bm dp df dm W) A1 c1 (hs : Sl cI 1 W A1 l) => q_ModeAfter h hm l A1 c1 hs hl1000
  have hd : (netChk n).2 = netErr n := rfl
  have hE1 := Lib.hid fun h : netErr n ≠ 0 => flt_net (l := l) h
  have hE2 := Lib.hid fun h : netErr n = 0 => flt_idx (l := l) h
  have hm1 : Hid (fltE n l ≠ 0 → modR n l = (0, fltE n l)) := fun h => by rw [modR, if_neg h]
  have hm2 : Hid (fltE n l = 0 → netErr n = 0 ∧ afterS n l = allS n.fs l ∧ modR n l = (max (idxF (hasB n.fs l) n.ms 0) 0, unl (decide (0 ≤ idxF (hasB n.fs l) n.ms 0)) 12)) := fun h => by
    have h1 := (fltE_ok h).1
    have h2 := (flt_lt h).2
    exact ⟨h1, after_all (net_ok h1) fun x hx => (h2 x hx).1, by rw [modR, if_pos h, mode_eq (net_ok h1) fun x hx => (h2 x hx).1]⟩
  have hil := Lib.hid (idxF_lt (hasB n.fs l) n.ms 0)
  have hml := hm8
  have hafl : Hid ((allS n.fs l).length ≤ n.fs.length) := by
    have key : ∀ k, (allK n.fs l k).length ≤ k := by
      intro k
      induction k with
      | zero => exact Nat.le_refl 0
      | succ k ih =>
        rw [allK, List.length_append]
        split
        · split <;> simp <;> omega
        · simp; omega
    exact Lib.hid (key _)
  dsimp only [vNt, aNt] at hcp hrc hal hmo hck hwa hma
  generalize netChk n = NC at *
  obtain ⟨ic, dc⟩ := NC
  dsimp only at hd
  subst hd
  generalize netErr n = d0 at *
  generalize fltE n l = E at *
  generalize afterS n l = AF at *
  generalize allS n.fs l = AL at *
  generalize modR n l = MR at *
  generalize idxF (hasB n.fs l) n.ms 0 = I at *
  generalize idxErr l n.ps.length = IE at *
  obtain ⟨mr, me⟩ := MR
  dsimp only at *
  generalize n.ps.length = np at *
  generalize n.fs.length = nf at *
  generalize n.ms.length = nm at *
  generalize hll : l.length = ll at *
  replace hll := Lib.hid hll
  clear hni
  go_enter Tryd.func8, Tryd.ntmps8
  go_upto_region 1 with fail
  first
  | apply absB1 (w0 := w) (g0 := w.heap.size)
  | apply absTB1 (w0 := w) (g0 := w.heap.size)
  | apply absIB1 (w0 := w) (g0 := w.heap.size)
  iterate 2 (focus ((with_reducible (repeat' (first | assumption | apply jA | apply jB | apply jC | apply jD | apply jE | apply jF | apply hb3 | apply jG | apply jH | apply jI | apply jJ | apply jK | apply hb3x | (apply jL; first | (simp; done) | rfl) | apply jM | apply jN | apply jO | apply jP | apply jQ | apply jR | apply jS | apply jT (hb := hb3 _ (jA _)) | omega | (simp; done) | (simp; omega) | (dsimp only; omega)))); done))
  intro wa hb0' k0'
  (try simp only [List.setIfInBounds_toArray, List.set_cons_zero, List.set_cons_succ] at k0')
  try clear hb3
  try clear hb0
  try clear k0
  have hb0 := hb0'; clear hb0'
  have k0 := k0'; clear k0'
  go_wp2_with fail
  refine (haw.out wa hb0).mono ?_
  rintro e w1 ⟨rfl, hb1⟩
  replace hb0 := bl_tr hb0 hb1
  replace k0 := k0.below hb1
  have L0 := k0.cell
  clear hb1 haw
  go_wp2_with fail
  refine (hfw2.out _ hb0).mono ?_
  rintro e w2 ⟨rfl, hb1⟩
  replace hb0 := bl_tr hb0 hb1
  replace k0 := k0.below hb1
  clear hb1 hfw2 L0
  have L0 := k0.cell
  go_wp2_with fail
  refine (hcp.out _ hb0).mono ?_
  rintro e w3 ⟨hb1, m, Bp, Bf, Bm, dp, df, dm, hq, hm, rfl⟩
  replace hb0 := bl_tr hb0 hb1
  replace k0 := k0.below hb1
  clear hb1 L0
  have L0 := k0.cell
  replace hm := Lib.hid hm
  go_wp2_with fail
  refine (hck.out _ _ _ _ _ _ _ _ hq hm.out).mono ?_
  rintro e w4 ⟨rfl, hb1⟩
  replace hb0 := bl_tr hb0 hb1
  replace k0 := k0.below hb1
  clear hb1 L0 hm hq
  have L0 := k0.cell
  go_wp2_with fail
  refine (hcp.out _ hb0).mono ?_
  rintro e w5 ⟨hb1, m, Bp, Bf, Bm, dp, df, dm, hq, hm, rfl⟩
  replace hb0 := bl_tr hb0 hb1
  replace k0 := k0.below hb1
  clear hb1 L0
  have L0 := k0.cell
  replace hm := Lib.hid hm
  go_wp2_with fail
  refine (hci.out _ hb0).mono ?_
  rintro e w6 ⟨A1, c1, rfl, hb1, ho⟩
  rw [hll.out] at ho ⊢
  replace hb0 := bl_tr hb0 hb1
  replace k0 := k0.below hb1
  replace hm := Lib.hid (hm.out.below hb1)
  have hs1 := Lib.hid (own_sl (L := l) (by rw [hll.out]; exact ho))
  clear hb1 L0 ho
  have L0 := k0.cell
  go_wp2_with fail
  refine (hwa.out _ _ _ _ _ _ _ _ hq hm.out (hTT.out _ hb0) _ _ hs1.out).mono ?_
  rintro e w7 ⟨hb1, A3, n3, c3, rfl, z1, q1⟩
  replace hb0 := bl_tr hb0 hb1
  replace k0 := k0.below hb1
  replace z1 := Lib.hid z1
  replace q1 := Lib.hid q1
  clear hb1 L0 hm hq hs1
  have L0 := k0.cell
  go_wp2_with fail
  refine (hcp.out _ hb0).mono ?_
  rintro e w8 ⟨hb1, m, Bp, Bf, Bm, dp, df, dm, hq, hm, rfl⟩
  replace hb0 := bl_tr hb0 hb1
  replace k0 := k0.below hb1
  replace q1 := Lib.hid fun h => (⟨(q1.out h).1, (q1.out h).2.below hb1⟩ : n3 = AF.length ∧ Sl cI 1 w8 A3 AF)
  clear hb1 L0
  have L0 := k0.cell
  replace hm := Lib.hid hm
  go_wp2_with fail
  refine (hci.out _ hb0).mono ?_
  rintro e w9 ⟨A1, c1, rfl, hb1, ho⟩
  rw [hll.out] at ho ⊢
  replace hb0 := bl_tr hb0 hb1
  replace k0 := k0.below hb1
  replace hm := Lib.hid (hm.out.below hb1)
  replace q1 := Lib.hid fun h => (⟨(q1.out h).1, (q1.out h).2.below hb1⟩ : n3 = AF.length ∧ Sl cI 1 w9 A3 AF)
  have hs1 := Lib.hid (own_sl (L := l) (by rw [hll.out]; exact ho))
  clear hb1 L0 ho
  have L0 := k0.cell
  go_wp2_with fail
  refine (hma.out _ _ _ _ _ _ _ _ hq hm.out _ _ hs1.out).mono ?_
  rintro e w10 ⟨rfl, hb1⟩
  replace hb0 := bl_tr hb0 hb1
  replace k0 := k0.below hb1
  replace q1 := Lib.hid fun h => (⟨(q1.out h).1, (q1.out h).2.below hb1⟩ : n3 = AF.length ∧ Sl cI 1 w10 A3 AF)
  clear hb1 L0 hm hq hs1
  have L0 := k0.cell
  go_wp2_with fail
  refine (hrc.out _ hb0).mono ?_
  rintro e w11 ⟨rfl, hb1⟩
  replace hb0 := bl_tr hb0 hb1
  replace k0 := k0.below hb1
  replace q1 := Lib.hid fun h => (⟨(q1.out h).1, (q1.out h).2.below hb1⟩ : n3 = AF.length ∧ Sl cI 1 w11 A3 AF)
  clear hb1 L0 hrc hcp hck hci hwa hma hTT
  have L0 := k0.cell
  have t1 : (d0 != d0) = false := by simp
  have t2 : (ic != ic) = false := by simp
  by_cases hd : d0 = 0
  rotate_left
  · have u1 : (d0 == 0) = false := by simp [hd]
    have u2 : (d0 != 0) = true := by simp [hd]
    have hE := hE1.out hd
    subst hE
    have hn3 := z1.out hd
    have hmr := hm1.out hd
    injection hmr with hmr hme
    subst hn3 hmr hme
    replace hd := Lib.hid hd
    clear hm1 hm2 hE1 hE2 z1 q1
    go_wp2
    go_ret
    exact ⟨by simp, hb0⟩
  subst hd
  have hE := hE2.out rfl
  subst hE
  clear hE1 hE2 t1
  go_wp2_with fail
  refine (hie.out _ hb0).mono ?_
  rintro e w12 ⟨rfl, hb1⟩
  replace hb0 := bl_tr hb0 hb1
  replace k0 := k0.below hb1
  replace q1 := Lib.hid fun h => (⟨(q1.out h).1, (q1.out h).2.below hb1⟩ : n3 = AF.length ∧ Sl cI 1 w12 A3 AF)
  clear hb1 L0 hie
  have L0 := k0.cell
  by_cases hd : E = 0
  rotate_left
  · have u2 : (E != 0) = true := by simp [hd]
    have hn3 := z1.out hd
    have hmr := hm1.out hd
    injection hmr with hmr hme
    subst hn3 hmr hme
    replace hd := Lib.hid hd
    clear hm1 hm2 z1 q1
    go_wp2
    go_ret
    exact ⟨by simp, hb0⟩
  subst hd
  obtain ⟨-, hal2, hmr⟩ := hm2.out rfl
  injection hmr with hmr hme
  obtain ⟨hn3, hsA⟩ := q1.out rfl
  subst hal2 hn3
  replace hmr := Lib.hid hmr
  replace hme := Lib.hid hme
  replace hsA := Lib.hid hsA
  have hmo1 := Lib.hid (hmo.out (by trivial))
  clear hm1 hm2 z1 q1 hmo
  go_wp2_with fail
  refine (hal.out _ hb0).mono ?_
  rintro e w13 ⟨A5, c5, rfl, hb1, ho⟩
  replace hb0 := bl_tr hb0 hb1
  replace k0 := k0.below hb1
  have hin := Lib.hid (r_Ints AF AF A3 A5 c3 c5 w13 (hsA.out.below hb1) (own_sl ho) (by have := hafl.out; omega) (by have := hafl.out; omega))
  have hiT : intsB AF AF = true := by simp [intsB]
  rw [hiT] at hin
  clear hb1 L0 hal ho hsA
  have L0 := k0.cell
  go_wp2_with fail
  refine (hin.out).mono ?_
  rintro e w14 ⟨rfl, hb1⟩
  replace hb0 := bl_tr hb0 hb1
  replace k0 := k0.below hb1
  clear hb1 L0 hin
  have L0 := k0.cell
  go_wp2_with fail
  refine (hmo1.out _ hb0).mono ?_
  rintro e w15 ⟨rfl, hb1⟩
  replace hb0 := bl_tr hb0 hb1
  clear hb1 L0 hmo1
  by_cases hI : 0 ≤ I
  · have e1 := hmr.out
    have e2 := hme.out
    rw [show max I 0 = I by omega] at e1
    rw [decide_eq_true hI] at e2
    change me = 0 at e2
    subst e1 e2
    go_wp2
    go_ret
    exact ⟨by simp, hb0⟩
  · have e1 := hmr.out
    have e2 := hme.out
    rw [show max I 0 = 0 by omega] at e1
    rw [decide_eq_false hI] at e2
    change me = 12 at e2
    subst e1 e2
    go_wp2
    go_ret
    exact ⟨by simp, hb0⟩
end Go.Proofs.YtdlmkblmljhbfaaDoor
namespace Go.Proofs.YtdlmkblmljhbfaaDoor
set_option linter.unusedSimpArgs false
set_option linter.unusedVariables false
open Go.RowKit Go.Shelf
attribute [local go_sem] bl_al bl_drew bl_drewN bl_refl bx_al bx_drew bx_drewN bx_refl
set_option maxRecDepth 20000
theorem cut_net {n : Nt} {k : Int} (h : netErr n ≠ 0) : cutErr n k = netErr n := by simp [cutErr, fstE, h]
theorem cut_in {n : Nt} {k : Int} (h : netErr n = 0) : cutErr n k = unl (inR k 0 ((n.fs.length : Int) - 1)) 6 := by
  simp [cutErr, fstE, h]
  exact fun h => h.symm
theorem mar_net {n : Nt} {k : Int} (h : netErr n ≠ 0) : marR n k = (0, netErr n) := by
  have e : marE n k = netErr n := by simp [marE, fstE, h]
  rw [marR, if_neg (by rw [e]; exact h), e]
theorem mar_out {n : Nt} {k : Int} (h : netErr n = 0) (hk : inR k 0 ((n.ms.length : Int) - 1) = false) : marR n k = (0, 6) := by
  have e : marE n k = 6 := by simp [marE, fstE, h, hk, unl]
  rw [marR, if_neg (by rw [e]; decide), e]
theorem mar_in {n : Nt} {k : Int} {d : Md} (h : netErr n = 0) (hk : inR k 0 ((n.ms.length : Int) - 1) = true) (hd : n.ms[k.toNat]? = some d) : marR n k = if d.r.l.length = 0 then (0, 12) else (minS (szS n d.r.l), 0) := by
  have e : marE n k = 0 := by simp [marE, fstE, h, hk, unl]
  rw [marR, if_pos e, hd]
set_option maxHeartbeats 0 in
theorem r_BusCuts (n : Nt) (x1 x2 : Int) (Ap Af Am : Option Addr) (cp cf cm : Nat) (w : World) (hn : NtR n Ap Af Am cp cf cm w) (hT : Tab w) :
    Calls Tryd.prog 6 #[vNt Ap Af Am n.ps.length n.fs.length n.ms.length cp cf cm, .int .i64 x1, .int .i64 x2] w (Ret (.bool true) w) := by
  have haw := Lib.hid fun W (hb : Below w.heap.size w W) => r_awake W (hT.below hb)
  have hfw := Lib.hid (r_few n Ap Af Am cp cf cm)
  have hTT := Lib.hid fun W (hb : Below w.heap.size w W) => hT.below hb
  have hfew := Lib.hid fun h : fewN n = true => few_net hn h
  have hfr : Hid (∀ W, Below w.heap.size w W → NtR n Ap Af Am cp cf cm W) := fun W hb => ⟨hn.pcap, hn.fcap, hn.mcap, hn.psl.below hb, hn.fsl.below hb, hn.msl.below hb, hn.pnm, fun f hf => ⟨(hn.fin f hf).nm, (hn.fin f hf).cap, (hn.fin f hf).sl.below hb, fun r hr => ⟨((hn.fin f hf).rows r hr).cap, ((hn.fin f hf).rows r hr).sl.below hb⟩⟩, fun m hm => ⟨(hn.min m hm).nm, (hn.min m hm).row.cap, (hn.min m hm).row.sl.below hb⟩⟩
  clear hn hT
  change Calls Tryd.prog 6 #[.agg #[.slice Ap n.ps.length cp, .slice Af n.fs.length cf, .slice Am n.ms.length cm], .int .i64 x1, .int .i64 x2] w _
  dsimp only [vNt, aNt] at hfw
  have hfw2 := Lib.hid fun W (hb : Below w.heap.size w W) => hfw.out W (hfr.out W hb)
  clear hfw hfr
  cases hF : fewN n
  · rw [hF] at hfw2
    clear hfew hTT
    generalize n.ps.length = np at *
    generalize n.fs.length = nf at *
    generalize n.ms.length = nm at *
    go_enter Tryd.func6, Tryd.ntmps6
    go_upto_region 1 with fail
    first
    | apply absB1 (w0 := w) (g0 := w.heap.size)
    | apply absTB1 (w0 := w) (g0 := w.heap.size)
    | apply absIB1 (w0 := w) (g0 := w.heap.size)
    iterate 2 (focus ((with_reducible (repeat' (first | assumption | apply jA | apply jB | apply jC | apply jD | apply jE | apply jF | apply hb3 | apply jG | apply jH | apply jI | apply jJ | apply jK | apply hb3x | (apply jL; first | (simp; done) | rfl) | apply jM | apply jN | apply jO | apply jP | apply jQ | apply jR | apply jS | apply jT (hb := hb3 _ (jA _)) | omega | (simp; done) | (simp; omega) | (dsimp only; omega)))); done))
    intro wa hb0' k0'
    (try simp only [List.setIfInBounds_toArray, List.set_cons_zero, List.set_cons_succ] at k0')
    try clear hb3
    try clear hb0
    try clear k0
    have hb0 := hb0'; clear hb0'
    have k0 := k0'; clear k0'
    go_wp2_with fail
    refine (haw.out wa hb0).mono ?_
    rintro e w1 ⟨rfl, hb1⟩
    replace hb0 := bl_tr hb0 hb1
    replace k0 := k0.below hb1
    have L0 := k0.cell
    clear hb1
    go_wp2_with fail
    refine (hfw2.out _ hb0).mono ?_
    rintro e w2 ⟨rfl, hb1⟩
    go_wp2
    go_ret
    exact ⟨rfl, bl_tr hb0 hb1⟩
  rw [hF] at hfw2
  obtain ⟨hni, hp12, hf12, hm8⟩ := hfew.out hF
  clear hfew hF
  have hcp := Lib.hid fun W (hb : Below w.heap.size w W) => r_CopyNet n Ap Af Am cp cf cm W (hni.below hb)
  have hne := Lib.hid fun W (hb : Below w.heap.size w W) => r_NetErr n Ap Af Am cp cf cm W (hni.below hb)
  have hcu := Lib.hid fun (k : Nat) (f : Fu) (hf : n.fs[k]? = some f) (h : netErr n = 0) W (hb : Below w.heap.size w W) => (show Calls Tryd.prog 38 #[vNt Ap Af Am n.ps.length n.fs.length n.ms.length cp cf cm, .int .i64 (k : Nat)] W (RetL (listS (cutS f n.ps.length)) W) by
    have := r_Cut n k f Ap Af Am cp cf cm W (hni.below hb) (net_ok h).p10 hf
    rw [cut_eq (net_ok h) hf] at this
    exact this)
  have hmg := Lib.hid fun (k : Nat) (d : Md) (hd : n.ms[k]? = some d) (h : netErr n = 0) (hl : d.r.l.length ≠ 0) W (hb : Below w.heap.size w W) => (show Calls Tryd.prog 39 #[vNt Ap Af Am n.ps.length n.fs.length n.ms.length cp cf cm, .int .i64 (k : Nat)] W (Ret (.int .i64 (minS (szS n d.r.l))) W) by
    have := r_Margin n k d Ap Af Am cp cf cm W (hni.below hb) (net_ok h).need (net_ok h).cut hd
    rw [margin_eq (net_ok h).p10 hl] at this
    exact this)
  have hqc := Lib.hid fun (m : Nt) Bp Bf Bm dp df dm W (h : NtEq n m) (hm : NtIn m Bp Bf Bm dp df dm W) (hT : Tab W) => q_CutOf h hm hT x1
  have hqm := Lib.hid fun (m : Nt) Bp Bf Bm dp df dm W (h : NtEq n m) (hm : NtIn m Bp Bf Bm dp df dm W) (hT : Tab W) => q_MarginOf h hm hT x2
  have hE1 := Lib.hid fun h : netErr n ≠ 0 => cut_net (k := x1) h
  have hE2 := Lib.hid fun h : netErr n = 0 => cut_in (k := x1) h
  have hM1 := Lib.hid fun h : netErr n ≠ 0 => mar_net (k := x2) h
  have hM2 := Lib.hid fun (h : netErr n = 0) hk => mar_out (k := x2) h hk
  have hM3 := Lib.hid fun (d : Md) (h : netErr n = 0) hk hd => mar_in (k := x2) (d := d) h hk hd
  have hwf := Lib.hid fun W : World => r_Within x1 0 ((n.fs.length : Int) - 1) W
  have hwm := Lib.hid fun W : World => r_Within x2 0 ((n.ms.length : Int) - 1) W
  have hms := Lib.hid fun (k : Nat) (d : Md) (hd : n.ms[k]? = some d) => (show ∃ b off, Am = some ⟨b, off, none⟩ ∧ ∀ W, Below w.heap.size w W → W.cell? ⟨b, off + k * 2 + 1, none⟩ = some (.slice d.r.A d.r.l.length d.r.c) from by
    obtain ⟨b, off, e, hc⟩ := hni.msl k d hd
    exact ⟨b, off, e, fun W hb => kcell hb (hc 1 _ rfl)⟩)
  have hll := Lib.hid fun s : Nat => listS_len s
  dsimp only [vNt, aNt] at hcp hne hcu hmg hqc hqm
  clear hni
  by_cases hd : netErr n = 0
  rotate_left
  · have e1 := hE1.out hd
    have e2 := hM1.out hd
    rw [e1] at hqc
    rw [e2] at hqm
    have u1 : (netErr n == 0) = false := by simp [hd]
    have u2 : (netErr n != 0) = true := by simp [hd]
    clear hcu hmg hE1 hE2 hM1 hM2 hM3 hwf hwm hms hll e1 e2
    generalize netErr n = d0 at *
    generalize n.ps.length = np at *
    generalize hnf : n.fs.length = nf at *
    generalize n.ms.length = nm at *
    replace hd := Lib.hid hd
    go_enter Tryd.func6, Tryd.ntmps6
    go_upto_region 1 with fail
    first
    | apply absB1 (w0 := w) (g0 := w.heap.size)
    | apply absTB1 (w0 := w) (g0 := w.heap.size)
    | apply absIB1 (w0 := w) (g0 := w.heap.size)
    iterate 2 (focus ((with_reducible (repeat' (first | assumption | apply jA | apply jB | apply jC | apply jD | apply jE | apply jF | apply hb3 | apply jG | apply jH | apply jI | apply jJ | apply jK | apply hb3x | (apply jL; first | (simp; done) | rfl) | apply jM | apply jN | apply jO | apply jP | apply jQ | apply jR | apply jS | apply jT (hb := hb3 _ (jA _)) | omega | (simp; done) | (simp; omega) | (dsimp only; omega)))); done))
    intro wa hb0' k0'
    (try simp only [List.setIfInBounds_toArray, List.set_cons_zero, List.set_cons_succ] at k0')
    try clear hb3
    try clear hb0
    try clear k0
    have hb0 := hb0'; clear hb0'
    have k0 := k0'; clear k0'
    go_wp2_with fail
    refine (haw.out wa hb0).mono ?_
    rintro e w1 ⟨rfl, hb1⟩
    replace hb0 := bl_tr hb0 hb1
    replace k0 := k0.below hb1
    have L0 := k0.cell
    clear hb1 haw
    go_wp2_with fail
    refine (hfw2.out _ hb0).mono ?_
    rintro e w2 ⟨rfl, hb1⟩
    replace hb0 := bl_tr hb0 hb1
    replace k0 := k0.below hb1
    clear hb1 hfw2 L0
    have L0 := k0.cell
    go_wp2_with fail
    refine (hcp.out _ hb0).mono ?_
    rintro e w3 ⟨hb1, m, Bp, Bf, Bm, dp, df, dm, hq, hm, rfl⟩
    replace hb0 := bl_tr hb0 hb1
    replace k0 := k0.below hb1
    clear hb1 L0
    have L0 := k0.cell
    replace hm := Lib.hid hm
    go_wp2_with fail
    refine (hqc.out _ _ _ _ _ _ _ _ hq hm.out (hTT.out _ hb0)).mono ?_
    rintro e w4 ⟨hb1, ⟨-, rfl⟩ | ⟨h, -⟩⟩
    rotate_left
    · exact absurd h hd.out
    replace hb0 := bl_tr hb0 hb1
    replace k0 := k0.below hb1
    clear hb1 L0 hm hq
    have L0 := k0.cell
    go_wp2_with fail
    refine (hcp.out _ hb0).mono ?_
    rintro e w5 ⟨hb1, m, Bp, Bf, Bm, dp, df, dm, hq, hm, rfl⟩
    replace hb0 := bl_tr hb0 hb1
    replace k0 := k0.below hb1
    clear hb1 L0
    have L0 := k0.cell
    replace hm := Lib.hid hm
    go_wp2_with fail
    refine (hqm.out _ _ _ _ _ _ _ _ hq hm.out (hTT.out _ hb0)).mono ?_
    rintro e w6 ⟨rfl, hb1⟩
    replace hb0 := bl_tr hb0 hb1
    replace k0 := k0.below hb1
    clear hb1 L0 hm hq
    have L0 := k0.cell
    go_wp2_with fail
    refine (hne.out _ hb0).mono ?_
    rintro e w7 ⟨rfl, hb1⟩
    replace hb0 := bl_tr hb0 hb1
    go_wp2
    go_ret
    exact ⟨by simp, hb0⟩
  have hE := hE2.out hd
  rw [hE] at hqc
  obtain ⟨LC, HLC⟩ : ∃ LC : List Int, Hid (∀ f, n.fs[x1.toNat]? = some f → listS (cutS f n.ps.length) = LC) := by
    cases h : n.fs[x1.toNat]? with
    | none => exact ⟨[], Lib.hid fun f hf => by cases hf⟩
    | some f => exact ⟨_, Lib.hid fun g hg => by injection hg with hg; rw [← hg]⟩
  have hlc : Hid (inR x1 0 ((n.fs.length : Int) - 1) = true → LC.length ≤ 10 ∧ ∀ W, Below w.heap.size w W → Calls Tryd.prog 38 #[.agg #[.slice Ap n.ps.length cp, .slice Af n.fs.length cf, .slice Am n.ms.length cm], .int .i64 x1] W (RetL LC W)) := Lib.hid fun h => by
    have h1 := inR_iff.1 h
    have hf : n.fs[x1.toNat]? = some (n.fs[x1.toNat]'(by omega)) := List.getElem?_eq_getElem _
    refine ⟨by rw [← HLC.out _ hf]; exact hll.out _, fun W hb => ?_⟩
    have := hcu.out x1.toNat _ hf hd W hb
    rw [HLC.out _ hf, show ((x1.toNat : Nat) : Int) = x1 by omega] at this
    exact this
  have hqc2 : Hid (∀ (m : Nt) Bp Bf Bm dp df dm W, NtEq n m → NtIn m Bp Bf Bm dp df dm W → Tab W → Calls Tryd.prog 33 #[.agg #[.slice Bp n.ps.length dp, .slice Bf n.fs.length df, .slice Bm n.ms.length dm], .int .i64 x1] W (NumP W (unl (inR x1 0 ((n.fs.length : Int) - 1)) 6) LC)) := Lib.hid fun m Bp Bf Bm dp df dm W h hm hT =>
    (hqc.out m Bp Bf Bm dp df dm W h hm hT).mono fun e w' ⟨hb, hh⟩ => by
      rcases hh with ⟨h0, e3⟩ | ⟨h0, f, hf, A3, c3, e3, h3⟩
      · exact ⟨hb, none, 0, 0, e3, fun _ => rfl, fun h => absurd h h0⟩
      · rw [HLC.out f hf] at e3 h3
        exact ⟨hb, A3, _, c3, by rw [h0]; exact e3, fun h => absurd h0 h, fun _ => ⟨rfl, h3⟩⟩
  have hmd : Hid (inR x2 0 ((n.ms.length : Int) - 1) = true → ∃ (d : Md) (b off : Nat), 0 ≤ x2 ∧ x2 < n.ms.length ∧ (d.r.l.length = 0 → marR n x2 = (0, 12)) ∧ (d.r.l.length ≠ 0 → marR n x2 = (minS (szS n d.r.l), 0) ∧ ∀ W, Below w.heap.size w W → Calls Tryd.prog 39 #[.agg #[.slice Ap n.ps.length cp, .slice Af n.fs.length cf, .slice Am n.ms.length cm], .int .i64 x2] W (Ret (.int .i64 (minS (szS n d.r.l))) W)) ∧
      Am = some ⟨b, off, none⟩ ∧ ∀ W, Below w.heap.size w W → W.cell? ⟨b, off + x2.toNat * 2 + 1, none⟩ = some (.slice d.r.A d.r.l.length d.r.c)) := Lib.hid fun h => by
    have h1 := inR_iff.1 h
    have hx : n.ms[x2.toNat]? = some (n.ms[x2.toNat]'(by omega)) := List.getElem?_eq_getElem _
    generalize n.ms[x2.toNat]'(by omega) = d at hx
    obtain ⟨b, off, e1, e2⟩ := hms.out _ d hx
    have e3 := hM3.out d hd h hx
    refine ⟨d, b, off, by omega, by omega, fun h0 => by rw [e3, if_pos h0], fun h0 => ⟨by rw [e3, if_neg h0], fun W hb => ?_⟩, e1, e2⟩
    have := hmg.out x2.toNat d hx hd h0 W hb
    rw [show ((x2.toNat : Nat) : Int) = x2 by omega] at this
    exact this
  replace hM2 := Lib.hid fun h => hM2.out hd h
  rw [hd] at hne
  clear hE hE1 hE2 hM1 hM3 hd hcu hmg hqc hms hll HLC
  generalize inR x1 0 ((n.fs.length : Int) - 1) = iF at *
  generalize inR x2 0 ((n.ms.length : Int) - 1) = iM at *
  generalize hMR : marR n x2 = MR at *
  replace hMR := Lib.hid hMR
  obtain ⟨sz, hsz⟩ : ∃ sz : List Int → List Int, ∀ l, szS n l = sz l := ⟨_, fun _ => rfl⟩
  simp only [hsz] at hmd
  clear hsz
  generalize n.ps.length = np at *
  generalize n.fs.length = nf at *
  generalize n.ms.length = nm at *
  obtain ⟨mr, me⟩ := MR
  dsimp only at *
  go_enter Tryd.func6, Tryd.ntmps6
  go_upto_region 1 with fail
  first
  | apply absB1 (w0 := w) (g0 := w.heap.size)
  | apply absTB1 (w0 := w) (g0 := w.heap.size)
  | apply absIB1 (w0 := w) (g0 := w.heap.size)
  iterate 2 (focus ((with_reducible (repeat' (first | assumption | apply jA | apply jB | apply jC | apply jD | apply jE | apply jF | apply hb3 | apply jG | apply jH | apply jI | apply jJ | apply jK | apply hb3x | (apply jL; first | (simp; done) | rfl) | apply jM | apply jN | apply jO | apply jP | apply jQ | apply jR | apply jS | apply jT (hb := hb3 _ (jA _)) | omega | (simp; done) | (simp; omega) | (dsimp only; omega)))); done))
  intro wa hb0' k0'
  (try simp only [List.setIfInBounds_toArray, List.set_cons_zero, List.set_cons_succ] at k0')
  try clear hb3
  try clear hb0
  try clear k0
  have hb0 := hb0'; clear hb0'
  have k0 := k0'; clear k0'
  go_wp2_with fail
  refine (haw.out wa hb0).mono ?_
  rintro e w1 ⟨rfl, hb1⟩
  replace hb0 := bl_tr hb0 hb1
  replace k0 := k0.below hb1
  have L0 := k0.cell
  clear hb1 haw
  go_wp2_with fail
  refine (hfw2.out _ hb0).mono ?_
  rintro e w2 ⟨rfl, hb1⟩
  replace hb0 := bl_tr hb0 hb1
  replace k0 := k0.below hb1
  clear hb1 hfw2 L0
  have L0 := k0.cell
  go_wp2_with fail
  refine (hcp.out _ hb0).mono ?_
  rintro e w3 ⟨hb1, m, Bp, Bf, Bm, dp, df, dm, hq, hm, rfl⟩
  replace hb0 := bl_tr hb0 hb1
  replace k0 := k0.below hb1
  clear hb1 L0
  have L0 := k0.cell
  replace hm := Lib.hid hm
  go_wp2_with fail
  refine (hqc2.out _ _ _ _ _ _ _ _ hq hm.out (hTT.out _ hb0)).mono ?_
  rintro e w4 ⟨hb1, A3, n3, c3, rfl, z1, q1⟩
  replace hb0 := bl_tr hb0 hb1
  replace k0 := k0.below hb1
  replace z1 := Lib.hid z1
  replace q1 := Lib.hid q1
  clear hb1 L0 hm hq
  have L0 := k0.cell
  go_wp2_with fail
  refine (hcp.out _ hb0).mono ?_
  rintro e w5 ⟨hb1, m, Bp, Bf, Bm, dp, df, dm, hq, hm, rfl⟩
  replace hb0 := bl_tr hb0 hb1
  replace k0 := k0.below hb1
  replace q1 := Lib.hid fun h => (⟨(q1.out h).1, (q1.out h).2.below hb1⟩ : n3 = LC.length ∧ Sl cI 1 w5 A3 LC)
  clear hb1 L0
  have L0 := k0.cell
  replace hm := Lib.hid hm
  go_wp2_with fail
  refine (hqm.out _ _ _ _ _ _ _ _ hq hm.out (hTT.out _ hb0)).mono ?_
  rintro e w6 ⟨rfl, hb1⟩
  replace hb0 := bl_tr hb0 hb1
  replace k0 := k0.below hb1
  replace q1 := Lib.hid fun h => (⟨(q1.out h).1, (q1.out h).2.below hb1⟩ : n3 = LC.length ∧ Sl cI 1 w6 A3 LC)
  clear hb1 L0 hm hq
  have L0 := k0.cell
  go_wp2_with fail
  refine (hne.out _ hb0).mono ?_
  rintro e w7 ⟨rfl, hb1⟩
  replace hb0 := bl_tr hb0 hb1
  replace k0 := k0.below hb1
  replace q1 := Lib.hid fun h => (⟨(q1.out h).1, (q1.out h).2.below hb1⟩ : n3 = LC.length ∧ Sl cI 1 w7 A3 LC)
  clear hb1 L0 hne hcp hqc2 hqm hTT
  have L0 := k0.cell
  cases iF
  · have hn3 := z1.out (by decide)
    subst hn3
    clear q1 z1 hlc
    go_upto_region 15 with (go_at_call 21; (with_reducible refine (hwf.out _).mono ?_); rintro e w8 ⟨rfl, rfl⟩)
    cases iM
    · have hmr := hM2.out rfl
      have hmr2 := hmr
      injection hmr2 with e1 e2
      subst e1 e2
      clear hM2 hMR hmr hmd
      go_wp2_with (go_at_call 21; (with_reducible refine (hwm.out _).mono ?_); rintro e w9 ⟨rfl, rfl⟩)
      go_ret
      exact ⟨by simp, hb0⟩
    obtain ⟨d, b, off, hx0, hx1, hz, hnz, rfl, hcell⟩ := hmd.out rfl
    obtain ⟨xm, rfl⟩ : ∃ k : Nat, x2 = k := ⟨x2.toNat, by omega⟩
    have hc0 : ∀ W, Below w.heap.size w W → W.cell? ⟨b, off + xm * 2 + 1, none⟩ = some (.slice d.r.A d.r.l.length d.r.c) := fun W hb => by have := hcell W hb; rwa [Int.toNat_natCast] at this
    clear hmd hM2 hcell
    generalize sz d.r.l = Z at *
    generalize hdl : d.r.l.length = dl at *
    generalize d.r.A = dA at *
    generalize d.r.c = dc at *
    by_cases h0 : dl = 0
    · have hmr2 := (hz h0)
      injection hmr2 with e1 e2
      subst e1 e2 h0
      have c0 := hc0 _ hb0
      clear hz hnz hMR hdl
      go_wp2_with (go_at_call 21; (with_reducible refine (hwm.out _).mono ?_); rintro e w9 ⟨rfl, rfl⟩)
      go_ret
      exact ⟨by simp, hb0⟩
    · obtain ⟨hm1, hm2⟩ := hnz h0
      have hmr2 := hm1
      injection hmr2 with e1 e2
      subst e1 e2
      have hm3 := Lib.hid hm2
      have h0' : ((dl : Int) == 0) = false := by simp; omega
      have c0 := hc0 _ hb0
      clear hz hnz hMR hdl
      generalize minS Z = mZ at *
      go_wp2_with (go_at_call 21; (with_reducible refine (hwm.out _).mono ?_); rintro e w9 ⟨rfl, rfl⟩)
      refine (hm3.out _ hb0).mono ?_
      rintro e w10 ⟨rfl, hb1⟩
      go_wp2
      go_ret
      exact ⟨by simp, bl_tr hb0 hb1⟩
  obtain ⟨hn3, hsA⟩ := q1.out rfl
  obtain ⟨hl10, hcut⟩ := hlc.out rfl
  subst hn3
  replace hsA := Lib.hid hsA
  replace hcut := Lib.hid hcut
  clear q1 z1 hlc
  go_upto_region 11 with (go_at_call 21; (with_reducible refine (hwf.out _).mono ?_); rintro e w8 ⟨rfl, rfl⟩)
  go_wp2_with fail
  refine (hcut.out _ hb0).mono ?_
  rintro e w9 ⟨hb1, A5, c5, rfl, ho⟩
  replace hb0 := bl_tr hb0 hb1
  replace k0 := k0.below hb1
  have hin := Lib.hid (r_Ints LC LC A3 A5 c3 c5 w9 (hsA.out.below hb1) ho (by omega) (by omega))
  have hiT : intsB LC LC = true := by simp [intsB]
  rw [hiT] at hin
  clear hb1 L0 ho hsA hcut hiT
  have L0 := k0.cell
  go_wp2_with fail
  refine (hin.out).mono ?_
  rintro e w10 ⟨rfl, hb1⟩
  replace hb0 := bl_tr hb0 hb1
  replace k0 := k0.below hb1
  clear hb1 L0 hin
  have L0 := k0.cell
  go_upto_region 15 with fail
  cases iM
  · have hmr := hM2.out rfl
    have hmr2 := hmr
    injection hmr2 with e1 e2
    subst e1 e2
    clear hM2 hMR hmr hmd
    go_wp2_with (go_at_call 21; (with_reducible refine (hwm.out _).mono ?_); rintro e w9 ⟨rfl, rfl⟩)
    go_ret
    exact ⟨by simp, hb0⟩
  obtain ⟨d, b, off, hx0, hx1, hz, hnz, rfl, hcell⟩ := hmd.out rfl
  obtain ⟨xm, rfl⟩ : ∃ k : Nat, x2 = k := ⟨x2.toNat, by omega⟩
  have hc0 : ∀ W, Below w.heap.size w W → W.cell? ⟨b, off + xm * 2 + 1, none⟩ = some (.slice d.r.A d.r.l.length d.r.c) := fun W hb => by have := hcell W hb; rwa [Int.toNat_natCast] at this
  clear hmd hM2 hcell
  generalize sz d.r.l = Z at *
  generalize hdl : d.r.l.length = dl at *
  generalize d.r.A = dA at *
  generalize d.r.c = dc at *
  by_cases h0 : dl = 0
  · have hmr2 := (hz h0)
    injection hmr2 with e1 e2
    subst e1 e2 h0
    have c0 := hc0 _ hb0
    clear hz hnz hMR hdl
    go_wp2_with (go_at_call 21; (with_reducible refine (hwm.out _).mono ?_); rintro e w9 ⟨rfl, rfl⟩)
    go_ret
    exact ⟨by simp, hb0⟩
  · obtain ⟨hm1, hm2⟩ := hnz h0
    have hmr2 := hm1
    injection hmr2 with e1 e2
    subst e1 e2
    have hm3 := Lib.hid hm2
    have h0' : ((dl : Int) == 0) = false := by simp; omega
    have c0 := hc0 _ hb0
    clear hz hnz hMR hdl
    generalize minS Z = mZ at *
    go_wp2_with (go_at_call 21; (with_reducible refine (hwm.out _).mono ?_); rintro e w9 ⟨rfl, rfl⟩)
    refine (hm3.out _ hb0).mono ?_
    rintro e w10 ⟨rfl, hb1⟩
    go_wp2
    go_ret
    exact ⟨by simp, bl_tr hb0 hb1⟩
end Go.Proofs.YtdlmkblmljhbfaaDoor
