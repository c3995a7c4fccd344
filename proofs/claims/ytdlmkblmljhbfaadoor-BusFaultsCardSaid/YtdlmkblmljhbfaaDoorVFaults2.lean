/-
  Walks: the reference's functions that work after faults, and its mode.
  Walk: nets that the laws take.
  How the laws' arguments read, continued: nets.
  Walks: the reference's mode after faults; lists in their order.
  Walk: slices.IndexFunc at modes. (Printed by gen_mode.py.)
  Walks: which functions work after faults; the mode.
  'append' onto a slice of the call's own, as the end of a region that draws its order: what it turns is the slice's own block.
-/
import Derived.Test.YtdlmkblmljhbfaaDoorVFaults1
import Derived.Test.YtdlmkblmljhbfaaDoorU6
import Derived.Test.YtdlmkblmljhbfaaDoorU2
import Derived.Shelf.Abstract
import Derived.Test.YtdlmkblmljhbfaaDoorU5
import Derived.Laws.BitsAllLaws
import Derived.Test.YtdlmkblmljhbfaaDoorU1
namespace Go.Proofs.YtdlmkblmljhbfaaDoor
set_option linter.unusedSimpArgs false
set_option linter.unusedVariables false
open Go.RowKit Go.Shelf
attribute [local go_sem] bl_al bl_drew bl_drewN bl_refl bx_al bx_drew bx_drewN bx_refl
set_option maxRecDepth 20000
theorem all_drop {α : Type} (q : α → Bool) {l : List α} {k : Nat} {x : α} (hx : l[k]? = some x) : (l.drop k).all q = (q x && (l.drop (k + 1)).all q) := by
  have hk := (List.getElem?_eq_some_iff.1 hx).1
  rw [List.drop_eq_getElem_cons hk, (List.getElem?_eq_some_iff.1 hx).2, List.all_cons]
theorem all_take {α : Type} (q : α → Bool) {l : List α} {k : Nat} {x : α} (hx : l[k]? = some x) : (l.take (k + 1)).all q = ((l.take k).all q && q x) := by
  rw [List.take_add_one, hx, List.all_append]
  simp
theorem any_drop {α : Type} (q : α → Bool) {l : List α} {k : Nat} {x : α} (hx : l[k]? = some x) : (l.drop k).any q = (q x || (l.drop (k + 1)).any q) := by
  have hk := (List.getElem?_eq_some_iff.1 hx).1
  rw [List.drop_eq_getElem_cons hk, (List.getElem?_eq_some_iff.1 hx).2, List.any_cons]
set_option maxHeartbeats 4000000 in
theorem r_Works (f : Fu) (l : List Int) (A : Option Addr) (c : Nat) (w : World) (hf : FuIn f w) (hs : Sl cI 1 w A l) (hl : l.length ≤ 1000) :
    Calls Tryd.prog 92 #[vFu f, .slice A l.length c] w (Ret (.bool (wksB f l)) w) := by
  have hha := Lib.hid fun (x : Int) W (hb : Below w.heap.size w W) => r_Has l x A c W (hs.below hb) hl
  have hfi := Lib.hid hf
  have hfl := hf.len
  have hcap := hf.cap
  have h0 : Hid (wksB f l = (f.ws.drop 0).any fun w : Rw => w.l.all fun x => !l.contains x) := rfl
  have hn := Lib.hid fun (k : Nat) (r : Rw) (hr : f.ws[k]? = some r) => any_drop (fun w : Rw => w.l.all fun x => !l.contains x) hr
  have hz : Hid (((f.ws.drop f.ws.length).any fun w : Rw => w.l.all fun x => !l.contains x) = false) := Lib.hid (by rw [List.drop_length]; rfl)
  obtain ⟨g, hg⟩ : ∃ g : Nat → Bool, ∀ k, ((f.ws.drop k).any fun w : Rw => w.l.all fun x => !l.contains x) = g k := ⟨_, fun _ => rfl⟩
  simp only [hg] at h0 hn hz
  clear hg hf hs
  change Calls Tryd.prog 92 #[.agg #[.string f.name, .slice f.A f.ws.length f.c], .slice A l.length c] w _
  generalize wksB f l = R at *
  generalize l.length = ll at *
  obtain ⟨nw, Hw⟩ : ∃ k, Hid (f.ws.length = k) := ⟨_, rfl⟩
  rw [Hw.out] at hfl hcap hz ⊢
  generalize hfn : f.name = fn at *
  generalize hfA : f.A = fA at *
  generalize hfc : f.c = fc at *
  replace hfA := Lib.hid hfA
  clear hfn hfc
  go_enter Tryd.func92, Tryd.ntmps92
  go_upto_region 1 with fail
  first
  | apply absB1 (w0 := w) (g0 := w.heap.size)
  | apply absTB1 (w0 := w) (g0 := w.heap.size)
  | apply absIB1 (w0 := w) (g0 := w.heap.size)
  iterate 2 (focus ((with_reducible (repeat' (first | assumption | apply jA | apply jB | apply jC | apply jD | apply jE | apply jF | apply hb3 | apply jG | apply jH | apply jI | apply jJ | apply jK | apply hb3x | (apply jL; first | (simp; done) | rfl) | apply jM | apply jN | apply jO | apply jP | apply jQ | apply jR | apply jS | apply jT (hb := hb3 _ (jA _)) | omega | (simp; done) | (simp; omega) | (dsimp only; omega)))); done))
  intro wa hb0' k0'
  (try simp only [List.setIfInBounds_toArray, List.set_cons_zero, List.set_cons_succ] at k0')
  try clear hb3
  try clear hb0
  try clear k0
  have hb0 := hb0'; clear hb0'
  have k0 := k0'; clear k0'
  go_wp2
  go_loopw [5] (fun i wr => ∃ k : Nat, k ≤ nw ∧ i = .int .i64 k ∧ Below w.heap.size w wr ∧ Blk wr w.heap.size 129 #[.string fn, .slice fA nw fc] ∧ R = g k) (fun i _ => nw - (intOf i).toNat)
  case atStart => exact ⟨0, Nat.zero_le _, rfl, hb0, k0, h0.out⟩
  case round =>
    clear hb0 k0
    obtain ⟨k, hk, rfl, hb0, k0, hi⟩ := hrel
    replace hi := Lib.hid hi
    have L0 := k0.cell
    by_cases hkn : k < nw
    rotate_left
    · obtain rfl : nw = k := by omega
      have e := Lib.hid (hi.out.trans hz.out)
      go_wp2
      go_ret
      exact ⟨by rw [e.out] <;> rfl, hb0⟩
    have hx : f.ws[k]? = some (f.ws[k]'(by rw [Hw.out]; exact hkn)) := List.getElem?_eq_getElem _
    generalize f.ws[k]'(by rw [Hw.out]; exact hkn) = r at hx
    have hri := hfi.out.rows r (List.mem_of_getElem? hx)
    obtain ⟨b3, o3, e3, hc3⟩ := hfi.out.sl k r hx
    rw [hfA.out] at e3
    subst e3
    have c0 : ∀ W, Below w.heap.size w W → W.cell? ⟨b3, o3 + k, none⟩ = some (.slice r.A r.l.length r.c) := fun W hb => by simpa using kcell hb (hc3 0 _ rfl)
    have hd := Lib.hid (hi.out.trans (hn.out k r hx))
    have a0 : Hid ((r.l.take 0).all (fun x => !l.contains x) = true) := rfl
    have an := Lib.hid fun (m : Nat) (x : Int) (hx : r.l[m]? = some x) => all_take (fun x => !l.contains x) hx
    have az : Hid ((r.l.take r.l.length).all (fun x => !l.contains x) = r.l.all fun x => !l.contains x) := Lib.hid (by rw [List.take_length])
    obtain ⟨u, hu⟩ : ∃ u : Nat → Bool, ∀ m, (r.l.take m).all (fun x => !l.contains x) = u m := ⟨_, fun _ => rfl⟩
    simp only [hu] at a0 an az
    clear hu hc3 hx
    generalize (r.l.all fun x => !l.contains x) = B at *
    have hrs := Lib.hid hri.sl
    have hrn := hri.len
    obtain ⟨nl, Hl⟩ : ∃ k, Hid (r.l.length = k) := ⟨_, rfl⟩
    rw [Hl.out] at hrn az c0
    generalize hrA : r.A = rA at *
    generalize hrc : r.c = rc at *
    clear hri hrA hrc hz h0 hn
    have hkn2 : (k : Int) < nw := by omega
    go_wp2
    clear L0
    go_loopw [6, 7] (fun o i wi => ∃ m : Nat, m ≤ nl ∧ i = .int .i64 m ∧ o = .bool (u m) ∧ Below w.heap.size w wi ∧ Blk wi w.heap.size 129 #[.string fn, .slice (some ⟨b3, o3, none⟩) nw fc]) (fun _ i _ => nl - (intOf i).toNat)
    case atStart => exact ⟨0, Nat.zero_le _, rfl, by rw [a0.out], hb0, k0⟩
    case round =>
      clear hb0 k0
      obtain ⟨m, hm, rfl, rfl, hb0, k0⟩ := hrel
      have L0 := k0.cell
      have c1 := c0 wr hb0
      by_cases hmn : m < nl
      rotate_left
      · obtain rfl : nl = m := by omega
        rw [az.out]
        cases B
        · have e := Lib.hid (show R = g (k + 1) by rw [hd.out]; rfl)
          go_wp2
          go_roundw
          case rel => exact ⟨k + 1, by omega, by go_num, hb0, k0, e.out⟩
          case measure => simp [intOf]; omega
        · have e := Lib.hid (show R = true by rw [hd.out]; rfl)
          go_wp2
          go_ret
          exact ⟨by rw [e.out] <;> rfl, hb0⟩
      have hx : r.l[m]? = some (r.l[m]'(by rw [Hl.out]; exact hmn)) := List.getElem?_eq_getElem _
      generalize r.l[m]'(by rw [Hl.out]; exact hmn) = x at hx
      obtain ⟨b4, o4, rfl, hc4⟩ := hrs.out m x hx
      have c2 : wr.cell? ⟨b4, o4 + m, none⟩ = some (.int .i64 x) := by simpa using kcell hb0 (hc4 0 _ rfl)
      have ha := Lib.hid (an.out m x hx)
      have hh := Lib.hid (hha.out x)
      clear hc4 hx
      generalize l.contains x = C at *
      have hmn2 : (m : Int) < nl := by omega
      cases hU : u m
      · have e := Lib.hid (show u (m + 1) = false by rw [ha.out, hU]; rfl)
        go_wp2
        go_roundw
        case rel => exact ⟨m + 1, by omega, by go_num, by rw [e.out], hb0, k0⟩
        case measure => simp [intOf]; omega
      · have e := Lib.hid (show u (m + 1) = !C by rw [ha.out, hU]; rfl)
        go_wp2_with fail
        refine (hh.out _ hb0).mono ?_
        rintro e w3 ⟨rfl, hb3⟩
        replace hb0 := bl_tr hb0 hb3
        replace k0 := k0.below hb3
        clear L0 c1 c2 hb3
        go_wp2
        go_roundw
        case rel => exact ⟨m + 1, by omega, by go_num, by rw [e.out], hb0, k0⟩
        case measure => simp [intOf]; omega
set_option maxHeartbeats 4000000 in
theorem r_All (n : Nt) (l : List Int) (Ap Af Am A : Option Addr) (cp cf cm c : Nat) (w : World) (hn : NtIn n Ap Af Am cp cf cm w) (hs : Sl cI 1 w A l) (hl : l.length ≤ 1000) :
    Calls Tryd.prog 54 #[vNt Ap Af Am n.ps.length n.fs.length n.ms.length cp cf cm, .slice A l.length c] w (RetI (allS n.fs l) w) := by
  obtain ⟨i0, hi, hz0, hz1, hz2⟩ := info_parts infoI
  have hwk := Lib.hid fun (k : Nat) (f : Fu) (hf : n.fs[k]? = some f) W (hb : Below w.heap.size w W) => r_Works f l A c W ((hn.fin f (List.mem_of_getElem? hf)).below hb) (hs.below hb) hl
  have hst := Lib.hid fun (k : Nat) (f : Fu) (hf : n.fs[k]? = some f) => (show allK n.fs l (k + 1) = allK n.fs l k ++ if wksB f l then [(k : Int)] else [] by rw [allK, hf])
  have h0 : Hid (allK n.fs l 0 = []) := rfl
  have hend : Hid (allK n.fs l n.fs.length = allS n.fs l) := rfl
  have hlen : Hid (∀ k, (allK n.fs l k).length ≤ k) := fun k => by
    induction k with
    | zero => exact Nat.le_refl 0
    | succ k ih =>
      rw [allK, List.length_append]
      split
      · split <;> simp <;> omega
      · simp; omega
  obtain ⟨g, hg⟩ : ∃ g : Nat → List Int, ∀ k, allK n.fs l k = g k := ⟨_, fun _ => rfl⟩
  simp only [hg] at hst h0 hend hlen
  clear hg
  have hsl := Lib.hid hn.fsl
  have hfl := hn.flen
  generalize allS n.fs l = R at *
  clear hn hs
  change Calls Tryd.prog 54 #[.agg #[.slice Ap n.ps.length cp, .slice Af n.fs.length cf, .slice Am n.ms.length cm], .slice A l.length c] w _
  obtain ⟨nf, Hf⟩ : ∃ k, Hid (n.fs.length = k) := ⟨_, rfl⟩
  rw [Hf.out] at hend hfl ⊢
  generalize n.ps.length = np at *
  generalize n.ms.length = nm at *
  generalize l.length = ll at *
  go_enter Tryd.func54, Tryd.ntmps54
  go_upto_region 1 with fail
  first
  | apply absB1 (w0 := w) (g0 := w.heap.size)
  | apply absTB1 (w0 := w) (g0 := w.heap.size)
  | apply absIB1 (w0 := w) (g0 := w.heap.size)
  iterate 2 (focus ((with_reducible (repeat' (first | assumption | apply jA | apply jB | apply jC | apply jD | apply jE | apply jF | apply hb3 | apply jG | apply jH | apply jI | apply jJ | apply jK | apply hb3x | (apply jL; first | (simp; done) | rfl) | apply jM | apply jN | apply jO | apply jP | apply jQ | apply jR | apply jS | apply jT (hb := hb3 _ (jA _)) | omega | (simp; done) | (simp; omega) | (dsimp only; omega)))); done))
  intro wa hb0' k0'
  (try simp only [List.setIfInBounds_toArray, List.set_cons_zero, List.set_cons_succ] at k0')
  try clear hb3
  try clear hb0
  try clear k0
  have hb0 := hb0'; clear hb0'
  have k0 := k0'; clear k0'
  go_wp2
  go_loopw [5, 6] (fun v i wr => ∃ k : Nat, k ≤ nf ∧ i = .int .i64 k ∧ Below w.heap.size w wr ∧ Blk wr w.heap.size 61 #[.slice Ap np cp, .slice Af nf cf, .slice Am nm cm] ∧ wr.ownsRow (w.heap.size + 1) 3 1 v (g k).length ((g k).map (.int .i64))) (fun _ i _ => nf - (intOf i).toNat)
  case atStart => exact ⟨0, Nat.zero_le _, rfl, hb0, k0, by rw [h0.out]; exact World.ownsRow_nil _ _ _ _⟩
  case round =>
    clear hb0 k0
    obtain ⟨k, hk, rfl, hb0, k0, ho⟩ := hrel
    replace ho := Lib.hid ho
    have L0 := k0.cell
    by_cases hkn : k < nf
    rotate_left
    · obtain rfl : nf = k := by omega
      rw [hend.out] at ho
      obtain ⟨A5, c5, hv⟩ := own_slice ho.out
      subst hv
      go_wp2
      go_ret
      exact ⟨A5, c5, rfl, hb0, own_mono (by omega) ho.out⟩
    have hx : n.fs[k]? = some (n.fs[k]'(by rw [Hf.out]; exact hkn)) := List.getElem?_eq_getElem _
    generalize n.fs[k]'(by rw [Hf.out]; exact hkn) = f at hx
    have hwf := Lib.hid (hwk.out k f hx)
    have hs := Lib.hid (hst.out k f hx)
    obtain ⟨b, off, rfl, hc⟩ := hsl.out k f hx
    have c0 : wr.cell? ⟨b, off + k * 2, none⟩ = some (.string f.name) := by simpa using kcell hb0 (hc 0 _ rfl)
    have c1 : wr.cell? ⟨b, off + k * 2 + 1, none⟩ = some (.slice f.A f.ws.length f.c) := kcell hb0 (hc 1 _ rfl)
    dsimp only [vFu] at hwf
    clear hc hx
    have hgl := hlen.out k
    generalize wksB f l = B at *
    generalize f.name = fn at *
    generalize f.ws.length = fl at *
    generalize f.A = fA at *
    generalize f.c = fc at *
    go_wp2_with fail
    refine (hwf.out _ hb0).mono ?_
    rintro e w3 ⟨rfl, hb3⟩
    replace hb0 := bl_tr hb0 hb3
    replace k0 := k0.below hb3
    replace ho := Lib.hid (own_below ho.out hb3)
    clear L0 c0 c1 hb3 hwf
    cases B
    · have e := Lib.hid (show g (k + 1) = g k by rw [hs.out]; simp)
      go_wp2
      go_roundw
      case rel => exact ⟨k + 1, by omega, by go_num, hb0, k0, by rw [e.out]; exact ho.out⟩
      case measure => simp [intOf]; omega
    · have e := Lib.hid (show g (k + 1) = g k ++ [(k : Int)] by rw [hs.out]; simp)
      have hsz := hb0.size
      have hoA := Lib.hid (own_below ho.out (bl_al (.cells #[.int .i64 k] 3) (bl_refl _)))
      go_wp2_with (at_builtin; refine wpList_append_own2 rfl _ _ 22 rfl (w.heap.size + 1) 3 i0 (.int .i64 0) 1 8 Tryd.underlying22 hi hz0 hz1 hz2 rfl (by decide) _ _ _ rfl hoA.out ⟨_, 0, none⟩ 1 1 [.int .i64 k] rfl rfl ?c1 ?c2 ?c3 ?c4 ?c5 ?_)
      case c1 =>
        intro j u hj
        match j, hj with
        | 0, hj => simp at hj; subst hj; simp [Addr.add]
        | j + 1, hj => simp at hj
      case c2 => intro u hu; simp at hu; subst hu; rfl
      case c3 => unfold maxLen; omega
      case c4 => omega
      case c5 => have := k0.lt; simp; omega
      intro v1 w4 hown hg2 hd2
      have hge := own_ge ho.out
      have hb9 := (bl_al (.cells #[.int .i64 k] 3) hb0).grown hg2 (by simp; omega) (fun q hq => by have := hge q hq; omega)
      have k9 := (k0.alloc (.cells #[.int .i64 k] 3)).grown hg2 (fun h => by have := hge _ h.symm; omega)
      replace hown := Lib.hid hown
      clear hg2 hd2 hge ho hb0 k0
      go_wp2
      go_roundw
      case rel => exact ⟨k + 1, by omega, by go_num, hb9, k9, by rw [e.out]; simpa using hown.out⟩
      case measure => simp [intOf]; omega
end Go.Proofs.YtdlmkblmljhbfaaDoor
namespace Go.Proofs.YtdlmkblmljhbfaaDoor
set_option linter.unusedSimpArgs false
set_option linter.unusedVariables false
open Go.RowKit Go.Shelf
attribute [local go_sem] bl_al bl_drew bl_drewN bl_refl bx_al bx_drew bx_drewN bx_refl
set_option maxRecDepth 20000
/-- A net as an argument lies. -/
structure RwR (r : Rw) (w : World) : Prop where
  cap : r.l.length ≤ r.c
  sl : Sl cI 1 w r.A r.l
structure FuR (f : Fu) (w : World) : Prop where
  nm : f.name.size ≤ maxLen
  cap : f.ws.length ≤ f.c
  sl : Sl cRw 1 w f.A f.ws
  rows : ∀ r ∈ f.ws, RwR r w
structure MdR (m : Md) (w : World) : Prop where
  nm : m.name.size ≤ maxLen
  row : RwR m.r w
structure NtR (n : Nt) (Ap Af Am : Option Addr) (cp cf cm : Nat) (w : World) : Prop where
  pcap : n.ps.length ≤ cp
  fcap : n.fs.length ≤ cf
  mcap : n.ms.length ≤ cm
  psl : Sl cS 1 w Ap n.ps
  fsl : Sl cFu 2 w Af n.fs
  msl : Sl cMd 2 w Am n.ms
  pnm : ∀ s ∈ n.ps, s.size ≤ maxLen
  fin : ∀ f ∈ n.fs, FuR f w
  min : ∀ m ∈ n.ms, MdR m w
def fewP (s : ByteArray) : Bool := decide ((s.size : Int) ≤ 30)
def fewF (f : Fu) : Bool := (fewP f.name && decide ((f.ws.length : Int) ≤ 8)) && f.ws.all fun r : Rw => decide ((r.l.length : Int) ≤ 12)
def fewM (m : Md) : Bool := fewP m.name && decide ((m.r.l.length : Int) ≤ 12)
def fewN (n : Nt) : Bool := (decide ((n.ps.length : Int) ≤ 12) && (decide ((n.fs.length : Int) ≤ 12) && decide ((n.ms.length : Int) ≤ 8))) && (n.ps.all fewP && (n.fs.all fewF && n.ms.all fewM))
theorem few_net {n : Nt} {Ap Af Am : Option Addr} {cp cf cm : Nat} {w : World} (h : NtR n Ap Af Am cp cf cm w) (hf : fewN n = true) : NtIn n Ap Af Am cp cf cm w ∧ n.ps.length ≤ 12 ∧ n.fs.length ≤ 12 ∧ n.ms.length ≤ 8 := by
  unfold fewN at hf
  simp only [Bool.and_eq_true, decide_eq_true_eq, List.all_eq_true] at hf
  obtain ⟨⟨h1, h2, h3⟩, h4, h5, h6⟩ := hf
  refine ⟨⟨by omega, by omega, by omega, h.pcap, h.fcap, h.mcap, h.psl, h.fsl, h.msl, h.pnm, fun f hf => ?_, fun m hm => ?_⟩, by omega, by omega, by omega⟩
  · have h7 := h5 f hf
    unfold fewF at h7
    simp only [Bool.and_eq_true, decide_eq_true_eq, List.all_eq_true] at h7
    have h8 := h.fin f hf
    exact ⟨h8.nm, by omega, h8.cap, h8.sl, fun r hr => ⟨by have := h7.2 r hr; omega, (h8.rows r hr).cap, (h8.rows r hr).sl⟩⟩
  · have h7 := h6 m hm
    unfold fewM at h7
    simp only [Bool.and_eq_true, decide_eq_true_eq] at h7
    have h8 := h.min m hm
    exact ⟨h8.nm, by omega, h8.row.cap, h8.row.sl⟩
set_option maxHeartbeats 0 in
theorem r_few (n : Nt) (Ap Af Am : Option Addr) (cp cf cm : Nat) (w : World) (hn : NtR n Ap Af Am cp cf cm w) :
    Calls Tryd.prog 32 #[vNt Ap Af Am n.ps.length n.fs.length n.ms.length cp cf cm] w (Ret (.bool (fewN n)) w) := by
  have Hn := Lib.hid hn
  have hN : Hid (fewN n = ((decide ((n.ps.length : Int) ≤ 12) && (decide ((n.fs.length : Int) ≤ 12) && decide ((n.ms.length : Int) ≤ 8))) && (n.ps.all fewP && (n.fs.all fewF && n.ms.all fewM)))) := rfl
  have a1 := Lib.hid fun (k : Nat) (x : ByteArray) (hx : n.ps[k]? = some x) => all_drop fewP hx
  have a2 := Lib.hid fun (k : Nat) (x : Fu) (hx : n.fs[k]? = some x) => all_drop fewF hx
  have a3 := Lib.hid fun (k : Nat) (x : Md) (hx : n.ms[k]? = some x) => all_drop fewM hx
  have b1 : Hid ((n.ps.drop n.ps.length).all fewP = true) := Lib.hid (by rw [List.drop_length]; rfl)
  have b2 : Hid ((n.fs.drop n.fs.length).all fewF = true) := Lib.hid (by rw [List.drop_length]; rfl)
  have b3 : Hid ((n.ms.drop n.ms.length).all fewM = true) := Lib.hid (by rw [List.drop_length]; rfl)
  have e1 : Hid (∀ x, fewP x = decide ((x.size : Int) ≤ 30)) := fun _ => rfl
  have e2 : Hid (∀ f : Fu, fewF f = ((decide ((f.name.size : Int) ≤ 30) && decide ((f.ws.length : Int) ≤ 8)) && f.ws.all fun r : Rw => decide ((r.l.length : Int) ≤ 12))) := fun _ => rfl
  have e3 : Hid (∀ m : Md, fewM m = (decide ((m.name.size : Int) ≤ 30) && decide ((m.r.l.length : Int) ≤ 12))) := fun _ => rfl
  obtain ⟨g1, hg⟩ : ∃ g : Nat → Bool, ∀ k, (n.ps.drop k).all fewP = g k := ⟨_, fun _ => rfl⟩
  have e := hg 0
  rw [List.drop_zero] at e
  simp only [hg, e] at a1 b1 hN
  clear hg e
  obtain ⟨g2, hg⟩ : ∃ g : Nat → Bool, ∀ k, (n.fs.drop k).all fewF = g k := ⟨_, fun _ => rfl⟩
  have e := hg 0
  rw [List.drop_zero] at e
  simp only [hg, e] at a2 b2 hN
  clear hg e
  obtain ⟨g3, hg⟩ : ∃ g : Nat → Bool, ∀ k, (n.ms.drop k).all fewM = g k := ⟨_, fun _ => rfl⟩
  have e := hg 0
  rw [List.drop_zero] at e
  simp only [hg, e] at a3 b3 hN
  clear hg e hn
  generalize fewN n = R at *
  change Calls Tryd.prog 32 #[.agg #[.slice Ap n.ps.length cp, .slice Af n.fs.length cf, .slice Am n.ms.length cm]] w _
  obtain ⟨np, Hp⟩ : ∃ k, Hid (n.ps.length = k) := ⟨_, rfl⟩
  obtain ⟨nf, Hf⟩ : ∃ k, Hid (n.fs.length = k) := ⟨_, rfl⟩
  obtain ⟨nm, Hm⟩ : ∃ k, Hid (n.ms.length = k) := ⟨_, rfl⟩
  rw [Hp.out] at hN b1 ⊢
  rw [Hf.out] at hN b2 ⊢
  rw [Hm.out] at hN b3 ⊢
  by_cases q1 : (12 : Int) < np
  · have e := Lib.hid (show R = false by rw [hN.out, decide_eq_false (show ¬ (np : Int) ≤ 12 by omega)]; rfl)
    clear a1 a2 a3 b1 b2 b3 e1 e2 e3 hN
    go_enter Tryd.func32, Tryd.ntmps32
    go_wp2
    go_ret
    exact ⟨by rw [e.out] <;> rfl, by (with_reducible (repeat' (first | assumption | apply jA | apply jB | apply jC | apply jD | apply jE | apply jF | apply hb3 | omega | (simp; done) | (simp; omega) | (dsimp only; omega))))⟩
  by_cases q2 : (12 : Int) < nf
  · have e := Lib.hid (show R = false by rw [hN.out, decide_eq_false (show ¬ (nf : Int) ≤ 12 by omega)]; simp)
    clear a1 a2 a3 b1 b2 b3 e1 e2 e3 hN
    go_enter Tryd.func32, Tryd.ntmps32
    go_wp2
    go_ret
    exact ⟨by rw [e.out] <;> rfl, by (with_reducible (repeat' (first | assumption | apply jA | apply jB | apply jC | apply jD | apply jE | apply jF | apply hb3 | omega | (simp; done) | (simp; omega) | (dsimp only; omega))))⟩
  by_cases q3 : (8 : Int) < nm
  · have e := Lib.hid (show R = false by rw [hN.out, decide_eq_false (show ¬ (nm : Int) ≤ 8 by omega)]; simp)
    clear a1 a2 a3 b1 b2 b3 e1 e2 e3 hN
    go_enter Tryd.func32, Tryd.ntmps32
    go_wp2
    go_ret
    exact ⟨by rw [e.out] <;> rfl, by (with_reducible (repeat' (first | assumption | apply jA | apply jB | apply jC | apply jD | apply jE | apply jF | apply hb3 | omega | (simp; done) | (simp; omega) | (dsimp only; omega))))⟩
  replace hN := Lib.hid (show R = (g1 0 && (g2 0 && g3 0)) by rw [hN.out, decide_eq_true (show (np : Int) ≤ 12 by omega), decide_eq_true (show (nf : Int) ≤ 12 by omega), decide_eq_true (show (nm : Int) ≤ 8 by omega)]; simp)
  have p1 : np ≤ 12 := by omega
  have p2 : nf ≤ 12 := by omega
  have p3 : nm ≤ 8 := by omega
  go_enter Tryd.func32, Tryd.ntmps32
  go_upto_region 1 with fail
  first
  | apply absB1 (w0 := w) (g0 := w.heap.size)
  | apply absTB1 (w0 := w) (g0 := w.heap.size)
  | apply absIB1 (w0 := w) (g0 := w.heap.size)
  iterate 2 (focus ((with_reducible (repeat' (first | assumption | apply jA | apply jB | apply jC | apply jD | apply jE | apply jF | apply hb3 | apply jG | apply jH | apply jI | apply jJ | apply jK | apply hb3x | (apply jL; first | (simp; done) | rfl) | apply jM | apply jN | apply jO | apply jP | apply jQ | apply jR | apply jS | apply jT (hb := hb3 _ (jA _)) | omega | (simp; done) | (simp; omega) | (dsimp only; omega)))); done))
  intro wa hb0' k0'
  (try simp only [List.setIfInBounds_toArray, List.set_cons_zero, List.set_cons_succ] at k0')
  try clear hb3
  try clear hb0
  try clear k0
  have hb0 := hb0'; clear hb0'
  have k0 := k0'; clear k0'
  have L0 := k0.cell
  go_wp2
  clear L0 q1 q2 q3
  go_loopw [3] (fun i wr => ∃ k : Nat, k ≤ np ∧ i = .int .i64 k ∧ Below w.heap.size w wr ∧ Blk wr w.heap.size 61 #[.slice Ap np cp, .slice Af nf cf, .slice Am nm cm] ∧ g1 0 = g1 k) (fun i _ => np - (intOf i).toNat)
  case atStart => exact ⟨0, Nat.zero_le _, rfl, hb0, k0, rfl⟩
  case round =>
    clear hb0 k0
    obtain ⟨k, hk, rfl, hb0, k0, hi⟩ := hrel
    replace hi := Lib.hid hi
    have L0 := k0.cell
    by_cases hkn : k < np
    · have hx : n.ps[k]? = some (n.ps[k]'(by rw [Hp.out]; exact hkn)) := List.getElem?_eq_getElem _
      generalize n.ps[k]'(by rw [Hp.out]; exact hkn) = x at hx
      have hd := hi.out.trans (a1.out k x hx)
      rw [e1.out] at hd
      obtain ⟨b, off, rfl, hc⟩ := Hn.out.psl k x hx
      have c0 : wr.cell? ⟨b, off + k, none⟩ = some (.string x) := by simpa using kcell hb0 (hc 0 _ rfl)
      clear hc hx
      by_cases hT : (30 : Int) < x.size
      · have e := Lib.hid (show R = false by rw [hN.out, hd, decide_eq_false (show ¬ (x.size : Int) ≤ 30 by omega)]; rfl)
        clear hd
        go_wp2
        go_ret
        exact ⟨by rw [e.out] <;> rfl, hb0⟩
      · have e := Lib.hid (show g1 0 = g1 (k + 1) by rw [hd, decide_eq_true (show (x.size : Int) ≤ 30 by omega), Bool.true_and])
        clear hd
        go_wp2
        go_roundw
        case rel => exact ⟨k + 1, by omega, by go_num, hb0, k0, e.out⟩
        case measure => simp [intOf]; omega
    obtain rfl : np = k := by omega
    replace hN := Lib.hid (show R = (g2 0 && g3 0) by rw [hN.out, hi.out, b1.out, Bool.true_and])
    clear hi a1 b1 hkn hk
    go_wp2
    clear L0
    go_loopw [4] (fun i wr => ∃ k : Nat, k ≤ nf ∧ i = .int .i64 k ∧ Below w.heap.size w wr ∧ Blk wr w.heap.size 61 #[.slice Ap np cp, .slice Af nf cf, .slice Am nm cm] ∧ g2 0 = g2 k) (fun i _ => nf - (intOf i).toNat)
    case atStart => exact ⟨0, Nat.zero_le _, rfl, hb0, k0, rfl⟩
    case round =>
      clear hb0 k0
      obtain ⟨k, hk, rfl, hb0, k0, hi⟩ := hrel
      replace hi := Lib.hid hi
      have L0 := k0.cell
      by_cases hkn : k < nf
      · have hx : n.fs[k]? = some (n.fs[k]'(by rw [Hf.out]; exact hkn)) := List.getElem?_eq_getElem _
        generalize n.fs[k]'(by rw [Hf.out]; exact hkn) = f at hx
        have hd := hi.out.trans (a2.out k f hx)
        rw [e2.out] at hd
        have hfi := Lib.hid (Hn.out.fin f (List.mem_of_getElem? hx))
        obtain ⟨b, off, rfl, hc⟩ := Hn.out.fsl k f hx
        have c0 : wr.cell? ⟨b, off + k * 2, none⟩ = some (.string f.name) := by simpa using kcell hb0 (hc 0 _ rfl)
        have c1 : wr.cell? ⟨b, off + k * 2 + 1, none⟩ = some (.slice f.A f.ws.length f.c) := kcell hb0 (hc 1 _ rfl)
        have an := Lib.hid fun (m : Nat) (r : Rw) (hr : f.ws[m]? = some r) => all_drop (fun r : Rw => decide ((r.l.length : Int) ≤ 12)) hr
        have az : Hid ((f.ws.drop f.ws.length).all (fun r : Rw => decide ((r.l.length : Int) ≤ 12)) = true) := Lib.hid (by rw [List.drop_length]; rfl)
        obtain ⟨u, hu⟩ : ∃ u : Nat → Bool, ∀ m, (f.ws.drop m).all (fun r : Rw => decide ((r.l.length : Int) ≤ 12)) = u m := ⟨_, fun _ => rfl⟩
        have e := hu 0
        rw [List.drop_zero] at e
        simp only [hu] at an az
        rw [e] at hd
        replace hd := Lib.hid hd
        clear hc hx hu e
        obtain ⟨nw, Hw⟩ : ∃ k, Hid (f.ws.length = k) := ⟨_, rfl⟩
        rw [Hw.out] at c1 hd az
        generalize hfs : f.name.size = fz at *
        replace hfs := Lib.hid hfs
        generalize hfA : f.A = fA at *
        replace hfA := Lib.hid hfA
        generalize f.c = fc at *
        go_upto_region 12 with fail
        have k1 := Blk.new wr 129 #[.string f.name, .slice fA nw fc]
        replace k0 := k0.alloc (.cells #[.string f.name, .slice fA nw fc] 129)
        replace hb0 := bl_al (.cells #[.string f.name, .slice fA nw fc] 129) hb0
        clear c0 c1 L0
        generalize wr.alloc (.cells #[.string f.name, .slice fA nw fc] 129) = wb at *
        generalize hg1 : wr.heap.size = gF at *
        clear hg1
        have L1 := k1.cell
        have hfz := hfs.out
        by_cases hT : (30 : Int) < fz
        · have e := Lib.hid (show R = false by rw [hN.out, hd.out, decide_eq_false (show ¬ (fz : Int) ≤ 30 by omega)]; rfl)
          have hT2 : (30 : Int) < f.name.size := by omega
          clear hfz
          go_wp2
          go_ret
          exact ⟨by rw [e.out] <;> rfl, hb0⟩
        have hT2 : ¬ (30 : Int) < f.name.size := by omega
        clear hfz
        by_cases hW : (8 : Int) < nw
        · have e := Lib.hid (show R = false by rw [hN.out, hd.out, decide_eq_true (show (fz : Int) ≤ 30 by omega), decide_eq_false (show ¬ (nw : Int) ≤ 8 by omega)]; rfl)
          go_wp2
          go_ret
          exact ⟨by rw [e.out] <;> rfl, hb0⟩
        replace hd := Lib.hid (show g2 0 = (u 0 && g2 (k + 1)) by rw [hd.out, decide_eq_true (show (fz : Int) ≤ 30 by omega), decide_eq_true (show (nw : Int) ≤ 8 by omega)]; rfl)
        have hW2 : nw ≤ 8 := by omega
        go_wp2
        clear L1 hT hT2 hW
        go_loopw [6] (fun i wi => ∃ m : Nat, m ≤ nw ∧ i = .int .i64 m ∧ Below w.heap.size w wi ∧ Blk wi w.heap.size 61 #[.slice Ap np cp, .slice (some ⟨b, off, none⟩) nf cf, .slice Am nm cm] ∧ Blk wi gF 129 #[.string f.name, .slice fA nw fc] ∧ u 0 = u m) (fun i _ => nw - (intOf i).toNat)
        case atStart => exact ⟨0, Nat.zero_le _, rfl, hb0, k0, k1, rfl⟩
        case round =>
          clear hb0 k0 k1
          obtain ⟨m, hm, rfl, hb0, k0, k1, hum⟩ := hrel
          replace hum := Lib.hid hum
          have L0 := k0.cell
          have L1 := k1.cell
          by_cases hmn : m < nw
          rotate_left
          · obtain rfl : nw = m := by omega
            have e := Lib.hid (show g2 0 = g2 (k + 1) by rw [hd.out, hum.out, az.out, Bool.true_and])
            clear hd hum az an
            go_wp2
            go_roundw
            case rel => exact ⟨k + 1, by omega, by go_num, hb0, k0, e.out⟩
            case measure => simp [intOf]; omega
          have hx : f.ws[m]? = some (f.ws[m]'(by rw [Hw.out]; exact hmn)) := List.getElem?_eq_getElem _
          generalize f.ws[m]'(by rw [Hw.out]; exact hmn) = r at hx
          obtain ⟨b3, o3, e3, hc3⟩ := hfi.out.sl m r hx
          rw [hfA.out] at e3
          subst e3
          have c2 : wr.cell? ⟨b3, o3 + m, none⟩ = some (.slice r.A r.l.length r.c) := by simpa using kcell hb0 (hc3 0 _ rfl)
          have hun := hum.out.trans (an.out m r hx)
          clear hc3 hx
          generalize r.l.length = rl at *
          by_cases hR : (12 : Int) < rl
          · have e := Lib.hid (show R = false by rw [hN.out, hd.out, hun, decide_eq_false (show ¬ (rl : Int) ≤ 12 by omega)]; rfl)
            clear hun
            go_wp2
            go_ret
            exact ⟨by rw [e.out] <;> rfl, hb0⟩
          · have e := Lib.hid (show u 0 = u (m + 1) by rw [hun, decide_eq_true (show (rl : Int) ≤ 12 by omega), Bool.true_and])
            clear hun
            go_wp2
            go_roundw
            case rel => exact ⟨m + 1, by omega, by go_num, hb0, k0, k1, e.out⟩
            case measure => simp [intOf]; omega
      obtain rfl : nf = k := by omega
      replace hN := Lib.hid (show R = g3 0 by rw [hN.out, hi.out, b2.out, Bool.true_and])
      clear hi a2 b2 hkn hk
      go_wp2
      clear L0
      go_loopw [7] (fun i wr => ∃ k : Nat, k ≤ nm ∧ i = .int .i64 k ∧ Below w.heap.size w wr ∧ Blk wr w.heap.size 61 #[.slice Ap np cp, .slice Af nf cf, .slice Am nm cm] ∧ g3 0 = g3 k) (fun i _ => nm - (intOf i).toNat)
      case atStart => exact ⟨0, Nat.zero_le _, rfl, hb0, k0, rfl⟩
      case round =>
        clear hb0 k0
        obtain ⟨k, hk, rfl, hb0, k0, hi⟩ := hrel
        replace hi := Lib.hid hi
        have L0 := k0.cell
        by_cases hkn : k < nm
        rotate_left
        · obtain rfl : nm = k := by omega
          have e := Lib.hid (show R = true by rw [hN.out, hi.out, b3.out])
          go_wp2
          go_ret
          exact ⟨by rw [e.out] <;> rfl, hb0⟩
        have hx : n.ms[k]? = some (n.ms[k]'(by rw [Hm.out]; exact hkn)) := List.getElem?_eq_getElem _
        generalize n.ms[k]'(by rw [Hm.out]; exact hkn) = f at hx
        have hd := hi.out.trans (a3.out k f hx)
        rw [e3.out] at hd
        obtain ⟨b, off, rfl, hc⟩ := Hn.out.msl k f hx
        have c0 : wr.cell? ⟨b, off + k * 2, none⟩ = some (.string f.name) := by simpa using kcell hb0 (hc 0 _ rfl)
        have c1 : wr.cell? ⟨b, off + k * 2 + 1, none⟩ = some (.slice f.r.A f.r.l.length f.r.c) := kcell hb0 (hc 1 _ rfl)
        clear hc hx
        generalize f.r.l.length = rl at *
        by_cases hT : (30 : Int) < f.name.size
        · have e := Lib.hid (show R = false by rw [hN.out, hd, decide_eq_false (show ¬ (f.name.size : Int) ≤ 30 by omega)]; rfl)
          clear hd
          go_wp2
          go_ret
          exact ⟨by rw [e.out] <;> rfl, hb0⟩
        by_cases hR : (12 : Int) < rl
        · have e := Lib.hid (show R = false by rw [hN.out, hd, decide_eq_true (show (f.name.size : Int) ≤ 30 by omega), decide_eq_false (show ¬ (rl : Int) ≤ 12 by omega)]; rfl)
          clear hd
          go_wp2
          go_ret
          exact ⟨by rw [e.out] <;> rfl, hb0⟩
        · have e := Lib.hid (show g3 0 = g3 (k + 1) by rw [hd, decide_eq_true (show (f.name.size : Int) ≤ 30 by omega), decide_eq_true (show (rl : Int) ≤ 12 by omega)]; rfl)
          clear hd
          go_wp2
          go_roundw
          case rel => exact ⟨k + 1, by omega, by go_num, hb0, k0, e.out⟩
          case measure => simp [intOf]; omega
end Go.Proofs.YtdlmkblmljhbfaaDoor
namespace Go.Proofs.YtdlmkblmljhbfaaDoor
set_option linter.unusedSimpArgs false
set_option linter.unusedVariables false
open Go.ChangeShapes Go.WideShapes Go.ChangeAt Go.RowKit Go.Deep
set_option maxRecDepth 20000
theorem cRw1 : Tryd.prog.cellsOf 22 = 1 := by kernel_rfl
theorem cTx1 : Tryd.prog.cellsOf 9 = 1 := by kernel_rfl
theorem cTs1 : Tryd.prog.cellsOf 57 = 1 := by kernel_rfl
theorem cWs1 : Tryd.prog.cellsOf 127 = 1 := by kernel_rfl
theorem cFs1 : Tryd.prog.cellsOf 58 = 1 := by kernel_rfl
theorem cMm1 : Tryd.prog.cellsOf 59 = 1 := by kernel_rfl
theorem cFu2 : Tryd.prog.cellsOf 129 = 2 := by kernel_rfl
theorem cMd2 : Tryd.prog.cellsOf 71 = 2 := by kernel_rfl
theorem cI3 : Tryd.prog.cellsOf 106 = 3 := by kernel_rfl
theorem cNt3 : Tryd.prog.cellsOf 61 = 3 := by kernel_rfl
section
variable {H : Type} {enc : TypeId × Value → H} {w : World} {base : Nat} {spare : Nat → Bool} {held : Bool} {fuel : Nat} {cs : List Value} {y : DataW H × List MemPlace}
theorem rd_I3 (h : DataW.trod enc Tryd.prog w base spare held fuel 106 cs = some y) : ∃ p q r : Int, cs = [.int .i64 p, .int .i64 q, .int .i64 r] := by
  obtain ⟨xs, n, -, -, hl, hlen, hf⟩ := DataW.trod_array Tryd.underlying106 h
  rw [cI3] at hl
  obtain ⟨c0, c1, c2, rfl⟩ := len3 hl
  obtain ⟨x0, x1, x2, rfl⟩ := len3 hlen
  have h0 := hf 0 (by decide)
  have h1 := hf 1 (by decide)
  have h2 := hf 2 (by decide)
  simp [ci] at h0 h1 h2
  obtain ⟨a, e0⟩ := rd_int h0
  obtain ⟨b, e1⟩ := rd_int h1
  obtain ⟨c, e2⟩ := rd_int h2
  simp at e0 e1 e2
  exact ⟨a, b, c, by rw [e0, e1, e2]⟩
theorem rd_Rw (h : DataW.trod enc Tryd.prog w base spare held fuel 22 cs = some y) : ∃ r : Rw, cs = cRw r ∧ RwR r w := by
  obtain ⟨A, c, l, e, h1, -, h3⟩ := rd_Is h
  exact ⟨⟨A, c, l⟩, e, h1, h3⟩
theorem rd_Rws (h : DataW.trod enc Tryd.prog w base spare held fuel 127 cs = some y) : ∃ A c, ∃ l : List Rw, cs = [.slice A l.length c] ∧ l.length ≤ c ∧ c ≤ maxLen ∧ Sl cRw 1 w A l ∧ ∀ r ∈ l, RwR r w :=
  rd_slice (c := cRw) (ok := fun r : Rw => RwR r w) Tryd.underlying127 cRw1 (by decide) (fun _ => rfl) (fun _ _ _ hz => rd_Rw hz) h
theorem rd_Txs (h : DataW.trod enc Tryd.prog w base spare held fuel 57 cs = some y) : ∃ A c, ∃ l : List ByteArray, cs = [.slice A l.length c] ∧ l.length ≤ c ∧ c ≤ maxLen ∧ Sl cS 1 w A l ∧ ∀ s ∈ l, s.size ≤ maxLen :=
  rd_slice (c := cS) (ok := fun s : ByteArray => s.size ≤ maxLen) Tryd.underlying57 cTx1 (by decide) (fun _ => rfl) (fun _ _ _ hz => by obtain ⟨s, e, -, hs⟩ := DataW.trod_string Tryd.underlying9 hz; exact ⟨s, e, hs⟩) h
theorem rd_Fu (h : DataW.trod enc Tryd.prog w base spare held fuel 129 cs = some y) : ∃ f : Fu, cs = cFu f ∧ FuR f w := by
  obtain ⟨xs, n, -, -, hl, hlen, hf⟩ := DataW.trod_struct Tryd.underlying129 h
  rw [cFu2] at hl
  obtain ⟨c0, c1, rfl⟩ := len2 hl
  obtain ⟨x0, x1, rfl⟩ := len2 (show xs.length = 2 from hlen)
  have h0 := hf 0 _ rfl
  have h1 := hf 1 _ rfl
  simp [cTx1, cWs1] at h0 h1
  obtain ⟨s, e0, -, hs⟩ := DataW.trod_string Tryd.underlying9 h0
  obtain ⟨A, c, l, e1, g1, -, g3, g4⟩ := rd_Rws h1
  simp at e0 e1
  exact ⟨⟨s, A, c, l⟩, by rw [e0, e1]; rfl, hs, g1, g3, g4⟩
theorem rd_Md (h : DataW.trod enc Tryd.prog w base spare held fuel 71 cs = some y) : ∃ f : Md, cs = cMd f ∧ MdR f w := by
  obtain ⟨xs, n, -, -, hl, hlen, hf⟩ := DataW.trod_struct Tryd.underlying71 h
  rw [cMd2] at hl
  obtain ⟨c0, c1, rfl⟩ := len2 hl
  obtain ⟨x0, x1, rfl⟩ := len2 (show xs.length = 2 from hlen)
  have h0 := hf 0 _ rfl
  have h1 := hf 1 _ rfl
  simp [cTx1, cRw1] at h0 h1
  obtain ⟨s, e0, -, hs⟩ := DataW.trod_string Tryd.underlying9 h0
  obtain ⟨r, e1, hr⟩ := rd_Rw h1
  simp [cRw] at e0 e1
  exact ⟨⟨s, r⟩, by rw [e0, e1]; rfl, hs, hr⟩
theorem rd_Fus (h : DataW.trod enc Tryd.prog w base spare held fuel 58 cs = some y) : ∃ A c, ∃ l : List Fu, cs = [.slice A l.length c] ∧ l.length ≤ c ∧ c ≤ maxLen ∧ Sl cFu 2 w A l ∧ ∀ f ∈ l, FuR f w :=
  rd_slice (c := cFu) (ok := fun f : Fu => FuR f w) Tryd.underlying58 cFu2 (by decide) (fun _ => rfl) (fun _ _ _ hz => rd_Fu hz) h
theorem rd_Mds (h : DataW.trod enc Tryd.prog w base spare held fuel 59 cs = some y) : ∃ A c, ∃ l : List Md, cs = [.slice A l.length c] ∧ l.length ≤ c ∧ c ≤ maxLen ∧ Sl cMd 2 w A l ∧ ∀ f ∈ l, MdR f w :=
  rd_slice (c := cMd) (ok := fun f : Md => MdR f w) Tryd.underlying59 cMd2 (by decide) (fun _ => rfl) (fun _ _ _ hz => rd_Md hz) h
theorem rd_Nt (h : DataW.trod enc Tryd.prog w base spare held fuel 61 cs = some y) : ∃ (n : Nt) (Ap Af Am : Option Addr) (cp cf cm : Nat), cs = [.slice Ap n.ps.length cp, .slice Af n.fs.length cf, .slice Am n.ms.length cm] ∧ NtR n Ap Af Am cp cf cm w := by
  obtain ⟨xs, n, -, -, hl, hlen, hf⟩ := DataW.trod_struct Tryd.underlying61 h
  rw [cNt3] at hl
  obtain ⟨c0, c1, c2, rfl⟩ := len3 hl
  obtain ⟨x0, x1, x2, rfl⟩ := len3 (show xs.length = 3 from hlen)
  have h0 := hf 0 _ rfl
  have h1 := hf 1 _ rfl
  have h2 := hf 2 _ rfl
  simp [cTs1, cFs1, cMm1] at h0 h1 h2
  obtain ⟨Ap, cp, ps, e0, a1, -, a3, a4⟩ := rd_Txs h0
  obtain ⟨Af, cf, fs, e1, b1, -, b3, b4⟩ := rd_Fus h1
  obtain ⟨Am, cm, ms, e2, d1, -, d3, d4⟩ := rd_Mds h2
  simp at e0 e1 e2
  exact ⟨⟨ps, fs, ms⟩, Ap, Af, Am, cp, cf, cm, by rw [e0, e1, e2], a1, b1, d1, a3, b3, d3, a4, b4, d4⟩
end
end Go.Proofs.YtdlmkblmljhbfaaDoor
namespace Go.Proofs.YtdlmkblmljhbfaaDoor
set_option linter.unusedSimpArgs false
set_option linter.unusedVariables false
open Go.RowKit Go.Shelf
attribute [local go_sem] bl_al bl_drew bl_drewN bl_refl bx_al bx_drew bx_drewN bx_refl
set_option maxRecDepth 20000
/-- All functions that are needed work. -/
def needB (fs : List Fu) (l : List Int) (x : Int) : Bool := match fs[x.toNat]? with
  | some f => wksB f l
  | none => false
def hasB (fs : List Fu) (l : List Int) (d : Md) : Bool := d.r.l.all (needB fs l)
def NeedOk (n : Nt) : Prop := ∀ m ∈ n.ms, ∀ x ∈ m.r.l, 0 ≤ x ∧ x < n.fs.length
set_option maxHeartbeats 4000000 in
theorem r_HasM (n : Nt) (i : Nat) (d : Md) (l : List Int) (Ap Af Am A : Option Addr) (cp cf cm c : Nat) (w : World) (hn : NtIn n Ap Af Am cp cf cm w) (hno : NeedOk n) (hs : Sl cI 1 w A l) (hl : l.length ≤ 1000) (hd : n.ms[i]? = some d) :
    Calls Tryd.prog 116 #[vNt Ap Af Am n.ps.length n.fs.length n.ms.length cp cf cm, .int .i64 (i : Nat), .slice A l.length c] w (Ret (.bool (hasB n.fs l d)) w) := by
  have hwk := Lib.hid fun (k : Nat) (f : Fu) (hf : n.fs[k]? = some f) W (hb : Below w.heap.size w W) => r_Works f l A c W ((hn.fin f (List.mem_of_getElem? hf)).below hb) (hs.below hb) hl
  have hdi := hn.min d (List.mem_of_getElem? hd)
  have hmn := hn.mlen
  have hil := (List.getElem?_eq_some_iff.1 hd).1
  have hnd := Lib.hid fun (k : Nat) (x : Int) (hx : d.r.l[k]? = some x) => (show ∃ (j : Nat) (f : Fu), x = j ∧ j < n.fs.length ∧ n.fs[j]? = some f ∧ needB n.fs l x = wksB f l from by
    have h := hno d (List.mem_of_getElem? hd) x (List.mem_of_getElem? hx)
    have hf : n.fs[x.toNat]? = some (n.fs[x.toNat]'(by omega)) := List.getElem?_eq_getElem _
    exact ⟨x.toNat, _, by omega, by omega, hf, by unfold needB; rw [hf]⟩)
  have h0 : Hid (hasB n.fs l d = (d.r.l.drop 0).all (needB n.fs l)) := rfl
  have hst := Lib.hid fun (k : Nat) (x : Int) (hx : d.r.l[k]? = some x) => all_drop (needB n.fs l) hx
  have hen : Hid ((d.r.l.drop d.r.l.length).all (needB n.fs l) = true) := Lib.hid (by rw [List.drop_length]; rfl)
  obtain ⟨g, hg⟩ : ∃ g : Nat → Bool, ∀ k, (d.r.l.drop k).all (needB n.fs l) = g k := ⟨_, fun _ => rfl⟩
  simp only [hg] at h0 hst hen
  clear hg
  generalize hasB n.fs l d = R at *
  generalize needB n.fs l = nb at *
  have hfs := Lib.hid hn.fsl
  obtain ⟨b, off, rfl, hc⟩ := hn.msl i d hd
  have hcell : ∀ W, Below w.heap.size w W → W.cell? ⟨b, off + i * 2 + 1, none⟩ = some (.slice d.r.A d.r.l.length d.r.c) := fun W hb => kcell hb (hc 1 _ rfl)
  have hns := Lib.hid hdi.row.sl
  have hnl := hdi.row.len
  clear hn hno hs hd hdi hc
  change Calls Tryd.prog 116 #[.agg #[.slice Ap n.ps.length cp, .slice Af n.fs.length cf, .slice (some ⟨b, off, none⟩) n.ms.length cm], .int .i64 (i : Nat), .slice A l.length c] w _
  obtain ⟨nd, Hn⟩ : ∃ k, Hid (d.r.l.length = k) := ⟨_, rfl⟩
  rw [Hn.out] at hnl hen hcell
  generalize hdl : d.r.l = dl at *
  generalize hdA : d.r.A = dA at *
  generalize hdc : d.r.c = dc at *
  clear hdl hdA hdc
  obtain ⟨nf, Hf⟩ : ∃ k, Hid (n.fs.length = k) := ⟨_, rfl⟩
  rw [Hf.out] at hnd ⊢
  generalize n.ps.length = np at *
  generalize n.ms.length = nm at *
  generalize l.length = ll at *
  have hil2 : (i : Int) < nm := by omega
  go_enter Tryd.func116, Tryd.ntmps116
  go_upto_region 1 with fail
  first
  | apply absB1 (w0 := w) (g0 := w.heap.size)
  | apply absTB1 (w0 := w) (g0 := w.heap.size)
  | apply absIB1 (w0 := w) (g0 := w.heap.size)
  iterate 2 (focus ((with_reducible (repeat' (first | assumption | apply jA | apply jB | apply jC | apply jD | apply jE | apply jF | apply hb3 | apply jG | apply jH | apply jI | apply jJ | apply jK | apply hb3x | (apply jL; first | (simp; done) | rfl) | apply jM | apply jN | apply jO | apply jP | apply jQ | apply jR | apply jS | apply jT (hb := hb3 _ (jA _)) | omega | (simp; done) | (simp; omega) | (dsimp only; omega)))); done))
  intro wa hb0' k0'
  (try simp only [List.setIfInBounds_toArray, List.set_cons_zero, List.set_cons_succ] at k0')
  try clear hb3
  try clear hb0
  try clear k0
  have hb0 := hb0'; clear hb0'
  have k0 := k0'; clear k0'
  go_wp2
  go_loopw [7] (fun i wr => ∃ k : Nat, k ≤ nd ∧ i = .int .i64 k ∧ Below w.heap.size w wr ∧ Blk wr w.heap.size 61 #[.slice Ap np cp, .slice Af nf cf, .slice (some ⟨b, off, none⟩) nm cm] ∧ R = g k) (fun i _ => nd - (intOf i).toNat)
  case atStart => exact ⟨0, Nat.zero_le _, rfl, hb0, k0, h0.out⟩
  case round =>
    clear hb0 k0
    obtain ⟨k, hk, rfl, hb0, k0, hi⟩ := hrel
    replace hi := Lib.hid hi
    have L0 := k0.cell
    have c0 := hcell wr hb0
    by_cases hkn : k < nd
    rotate_left
    · obtain rfl : nd = k := by omega
      have e := Lib.hid (hi.out.trans hen.out)
      go_wp2
      go_ret
      exact ⟨by rw [e.out] <;> rfl, hb0⟩
    have hx : dl[k]? = some (dl[k]'(by rw [Hn.out]; exact hkn)) := List.getElem?_eq_getElem _
    generalize dl[k]'(by rw [Hn.out]; exact hkn) = x at hx
    obtain ⟨j, f, rfl, hj, hf, hnb⟩ := hnd.out k x hx
    have hd := Lib.hid (hi.out.trans (hst.out k _ hx))
    rw [hnb] at hd
    have hwf := Lib.hid (hwk.out j f hf)
    obtain ⟨b3, o3, rfl, hc3⟩ := hns.out k _ hx
    obtain ⟨b2, o2, rfl, hc2⟩ := hfs.out j f hf
    have d0 : ∀ W, Below wr.heap.size wr W → W.cell? ⟨b3, o3 + k, none⟩ = some (.int .i64 j) := later (by simpa using kcell hb0 (hc3 0 _ rfl))
    have d1 : ∀ W, Below wr.heap.size wr W → W.cell? ⟨b2, o2 + j * 2, none⟩ = some (.string f.name) := later (by simpa using kcell hb0 (hc2 0 _ rfl))
    have d2 : ∀ W, Below wr.heap.size wr W → W.cell? ⟨b2, o2 + j * 2 + 1, none⟩ = some (.slice f.A f.ws.length f.c) := later (kcell hb0 (hc2 1 _ rfl))
    have d3 : ∀ W, Below wr.heap.size wr W → W.cell? ⟨b, off + i * 2 + 1, none⟩ = some (.slice (some ⟨b3, o3, none⟩) nd dc) := fun W hb => hcell W (bl_tr hb0 hb)
    dsimp only [vFu] at hwf
    clear hc2 hc3 hx hf hnb
    generalize wksB f l = B at *
    generalize f.name = fn at *
    generalize f.ws.length = fl at *
    generalize f.A = fA at *
    generalize f.c = fc at *
    have hj2 : (j : Int) < nf := by omega
    have hkn2 : (k : Int) < nd := by omega
    go_upto_region 4 with fail
    clear L0 c0
    have Lk0 := k0.later
    have Fk0 := k0.laterF
    have Qk0 := k0.lt
    refine wp_any (w0 := wr) ⟨[], [], [some 19, some 20, some 21, some 22, some 23, some 24, some 25, some 26, some 27, some 28, some 29, some 30, some 31, some 32, some 33, some 34], [[], [0], [], [2], [], [2, 3, 4], [2, 3, 4, 5], [2, 3, 4, 5, 6], [], [2, 3, 4, 5, 6, 7, 8], [2, 3, 4, 5, 6, 7, 8, 9], [0, 1, 2, 3, 4, 5, 6, 7, 8, 9, 10], [0, 1, 2, 3, 4, 5, 6, 7, 8, 9, 10, 11], [], [0, 1, 2, 3, 4, 5, 6, 7, 8, 9, 10, 11, 12, 13], [0, 1, 2, 3, 4, 5, 6, 7, 8, 9, 10, 11, 12, 13, 14]], [[], [0], [], [2], [], [3, 4], [5], [6], [], [7, 8], [9], [1, 10], [11], [], [12, 13], [14]]⟩ (fun _ => []) (by kernel_rfl) (by kernel_rfl) (by (with_reducible (repeat' (first | assumption | apply jA | apply jB | apply jC | apply jD | apply jE | apply jF | apply hb3 | omega | (simp; done) | (simp; omega) | (dsimp only; omega))))) (fun u => by simp only [putD, Act.put, List.setIfInBounds_toArray, List.set_cons_zero, List.set_cons_succ, Nat.zero_add, Nat.reduceAdd]; rfl) ?_
    apply RGW.on (i := 0) rfl
    · (simp only [gA, gB, gC] <;> rfl)
    · intro γ u W hcur hd
      clear hd
      (try dsimp only)
      refine ⟨rfl, ?_⟩
      go_simp <;> (try go_bits) <;> with_reducible rfl
    · exact fun _ _ _ => rfl
    · rfl
    dsimp only [nA, cA]
    apply RGW.on (i := 1) rfl
    · (simp only [gA, gB, gC] <;> rfl)
    · intro γ u W hcur hd
      obtain ⟨⟨h0, -, -⟩, -⟩ := hd
      dsimp only at h0
      (try simp only [h0])
      refine ⟨rfl, ?_⟩
      go_simp <;> (try go_bits) <;> with_reducible rfl
    · exact fun _ _ _ => rfl
    · rfl
    dsimp only [nA, cA]
    apply RGW.on (i := 2) rfl
    · (simp only [gA, gB, gC] <;> rfl)
    · intro γ u W hcur hd
      clear hd
      (try dsimp only)
      refine ⟨rfl, ?_⟩
      go_simp <;> (try go_bits) <;> with_reducible rfl
    · exact fun _ _ _ => rfl
    · rfl
    dsimp only [nA, cA]
    apply RGW.on (i := 3) rfl
    · (simp only [gA, gB, gC] <;> rfl)
    · intro γ u W hcur hd
      obtain ⟨⟨h2, -, -⟩, -⟩ := hd
      dsimp only at h2
      (try simp only [h2])
      refine ⟨rfl, ?_⟩
      go_simp <;> (try go_bits) <;> with_reducible rfl
    · exact fun _ _ _ => rfl
    · rfl
    dsimp only [nA, cA]
    apply RGW.on (i := 4) rfl
    · (simp only [gA, gB, gC] <;> rfl)
    · intro γ u W hcur hd
      clear hd
      (try dsimp only)
      refine ⟨rfl, ?_⟩
      go_simp <;> (try go_bits) <;> with_reducible rfl
    · exact fun _ _ _ => rfl
    · rfl
    dsimp only [nA, cA]
    apply RGW.on (i := 5) rfl
    · (simp only [gA, gB, gC] <;> rfl)
    · intro γ u W hcur hd
      obtain ⟨⟨h3, -, -⟩, ⟨h4, -, -⟩, -⟩ := hd
      dsimp only at h3 h4
      (try simp only [h3, h4])
      refine ⟨rfl, ?_⟩
      go_simp <;> (try go_bits) <;> with_reducible rfl
    · exact fun _ _ _ => rfl
    · rfl
    dsimp only [nA, cA]
    apply RGW.on (i := 6) rfl
    · (simp only [gA, gB, gC] <;> rfl)
    · intro γ u W hcur hd
      obtain ⟨⟨h5, -, -⟩, -⟩ := hd
      dsimp only at h5
      (try simp only [h5])
      refine ⟨rfl, ?_⟩
      go_simp <;> (try go_bits) <;> with_reducible rfl
    · exact fun _ _ _ => rfl
    · rfl
    dsimp only [nA, cA]
    apply RGW.on (i := 7) rfl
    · (simp only [gA, gB, gC] <;> rfl)
    · intro γ u W hcur hd
      obtain ⟨⟨h6, -, -⟩, -⟩ := hd
      dsimp only at h6
      (try simp only [h6])
      refine ⟨rfl, ?_⟩
      go_simp <;> (try go_bits) <;> with_reducible rfl
    · exact fun _ _ _ => rfl
    · rfl
    dsimp only [nA, cA]
    apply RGW.on (i := 8) rfl
    · (simp only [gA, gB, gC] <;> rfl)
    · intro γ u W hcur hd
      clear hd
      (try dsimp only)
      refine ⟨rfl, ?_⟩
      go_simp <;> (try go_bits) <;> with_reducible rfl
    · exact fun _ _ _ => rfl
    · rfl
    dsimp only [nA, cA]
    apply RGW.on (i := 9) rfl
    · (simp only [gA, gB, gC] <;> rfl)
    · intro γ u W hcur hd
      obtain ⟨⟨h7, -, -⟩, ⟨h8, -, -⟩, -⟩ := hd
      dsimp only at h7 h8
      (try simp only [h7, h8])
      refine ⟨rfl, ?_⟩
      go_simp <;> (try go_bits) <;> with_reducible rfl
    · exact fun _ _ _ => rfl
    · rfl
    dsimp only [nA, cA]
    apply RGW.on (i := 10) rfl
    · (simp only [gA, gB, gC] <;> rfl)
    · intro γ u W hcur hd
      obtain ⟨⟨h9, -, -⟩, -⟩ := hd
      dsimp only at h9
      (try simp only [h9])
      refine ⟨rfl, ?_⟩
      go_simp <;> (try go_bits) <;> with_reducible rfl
    · exact fun _ _ _ => rfl
    · rfl
    dsimp only [nA, cA]
    apply RGW.on (i := 11) rfl
    · (simp only [gA, gB, gC] <;> rfl)
    · intro γ u W hcur hd
      obtain ⟨⟨h1, -, -⟩, ⟨h10, -, -⟩, -⟩ := hd
      dsimp only at h1 h10
      (try simp only [h1, h10])
      refine ⟨rfl, ?_⟩
      go_simp <;> (try go_bits) <;> with_reducible rfl
    · exact fun _ _ _ => rfl
    · rfl
    dsimp only [nA, cA]
    apply RGW.on (i := 12) rfl
    · (simp only [gA, gB, gC] <;> rfl)
    · intro γ u W hcur hd
      obtain ⟨⟨h11, -, -⟩, -⟩ := hd
      dsimp only at h11
      (try simp only [h11])
      refine ⟨rfl, ?_⟩
      go_simp <;> (try go_bits) <;> with_reducible rfl
    · exact fun _ _ _ => rfl
    · rfl
    dsimp only [nA, cA]
    apply RGW.on (i := 13) rfl
    · (simp only [gA, gB, gC] <;> rfl)
    · intro γ u W hcur hd
      clear hd
      (try dsimp only)
      refine ⟨rfl, ?_⟩
      go_simp <;> (try go_bits) <;> with_reducible rfl
    · exact fun _ _ _ => rfl
    · rfl
    dsimp only [nA, cA]
    apply RGW.call (i := 14) rfl
    · (simp only [gA, gB, gC] <;> rfl)
    · intro γ u W hcur hd
      obtain ⟨⟨h12, -, -⟩, ⟨h13, -, -⟩, -⟩ := hd
      dsimp only at h12 h13
      (try simp only [h12, h13])
      refine ⟨rfl, fun K hK => ?_⟩
      go_simp
      (go_at_call 92; (with_reducible refine (hwf.out _ (bl_tr hb0 hcur)).mono ?_); rintro e w3 ⟨rfl, hb3⟩; replace hb3 := bl_tt hb3)
      (try dsimp only)
      exact hK.out _ _ rfl (by (with_reducible (repeat' (first | assumption | apply jA | apply jB | apply jC | apply jD | apply jE | apply jF | apply hb3 | omega | (simp; done) | (simp; omega) | (dsimp only; omega)))))
    · exact fun _ _ _ => rfl
    · rfl
    dsimp only [nA, cA]
    apply RGW.on (i := 15) rfl
    · (simp only [gA, gB, gC] <;> rfl)
    · intro γ u W hcur hd
      obtain ⟨⟨h14, -, -⟩, -⟩ := hd
      dsimp only at h14
      (try simp only [h14])
      refine ⟨rfl, ?_⟩
      go_simp <;> (try go_bits) <;> with_reducible rfl
    · exact fun _ _ _ => rfl
    · rfl
    dsimp only [nA, cA]
    refine RGW.fin (fun γ u wj hwj hd hdis => ?_)
    obtain ⟨⟨h0, -, -⟩, ⟨h1, -, -⟩, ⟨h2, -, -⟩, ⟨h3, -, -⟩, ⟨h4, -, -⟩, ⟨h5, -, -⟩, ⟨h6, -, -⟩, ⟨h7, -, -⟩, ⟨h8, -, -⟩, ⟨h9, -, -⟩, ⟨h10, -, -⟩, ⟨h11, -, -⟩, ⟨h12, -, -⟩, ⟨h13, -, -⟩, ⟨h14, -, -⟩, ⟨h15, -, -⟩, -⟩ := hd
    dsimp only at h0 h1 h2 h3 h4 h5 h6 h7 h8 h9 h10 h11 h12 h13 h14 h15
    clear hdis
    simp only [h0, h1, h2, h3, h4, h5, h6, h7, h8, h9, h10, h11, h12, h13, h14, h15]
    clear h15 h14 h13 h12 h11 h10 h9 h8 h7 h6 h5 h4 h3 h2 h1 h0
    clear u
    simp only [List.map_nil]
    refine PlanW.done ?_
    have hb3 := bl_tt hwj
    have hbj := bl_tr hb0 hwj
    replace k0 := k0.below hwj
    cases B
    · have e := Lib.hid (show R = false by rw [hd.out]; rfl)
      go_wp2
      go_ret
      exact ⟨by rw [e.out] <;> rfl, hbj⟩
    · have e := Lib.hid (show R = g (k + 1) by rw [hd.out]; rfl)
      go_wp2
      go_roundw
      case rel => exact ⟨k + 1, by omega, by go_num, hbj, k0, e.out⟩
      case measure => simp [intOf]; omega
set_option maxHeartbeats 4000000 in
theorem r_Mode (n : Nt) (l : List Int) (Ap Af Am A : Option Addr) (cp cf cm c : Nat) (w : World) (hn : NtIn n Ap Af Am cp cf cm w) (hno : NeedOk n) (hs : Sl cI 1 w A l) (hl : l.length ≤ 1000) :
    Calls Tryd.prog 55 #[vNt Ap Af Am n.ps.length n.fs.length n.ms.length cp cf cm, .slice A l.length c] w (Ret (.int .i64 (idxF (hasB n.fs l) n.ms 0)) w) := by
  have hha := Lib.hid fun (i : Nat) (d : Md) (hd : n.ms[i]? = some d) W (hb : Below w.heap.size w W) => r_HasM n i d l Ap Af Am A cp cf cm c W (hn.below hb) hno (hs.below hb) hl hd
  have hst := Lib.hid fun (k : Nat) (d : Md) (hd : n.ms[k]? = some d) => idxF_drop (hasB n.fs l) n.ms k d hd
  have hen : Hid (∀ k, idxF (hasB n.fs l) (n.ms.drop n.ms.length) k = -1) := fun k => by rw [List.drop_length]; rfl
  have hml := hn.mlen
  obtain ⟨g, hg⟩ : ∃ g : Nat → Int → Int, ∀ k j, idxF (hasB n.fs l) (n.ms.drop k) j = g k j := ⟨_, fun _ _ => rfl⟩
  have h0 : idxF (hasB n.fs l) n.ms 0 = g 0 0 := by rw [← hg]; rfl
  rw [h0]
  simp only [hg] at hst hen
  clear hg h0 hn hno hs
  dsimp only [vNt, aNt] at hha
  change Calls Tryd.prog 55 #[.agg #[.slice Ap n.ps.length cp, .slice Af n.fs.length cf, .slice Am n.ms.length cm], .slice A l.length c] w _
  obtain ⟨nm, Hm⟩ : ∃ k, Hid (n.ms.length = k) := ⟨_, rfl⟩
  rw [Hm.out] at hen hml hha ⊢
  generalize n.ps.length = np at *
  generalize n.fs.length = nf at *
  generalize l.length = ll at *
  generalize hasB n.fs l = hB at *
  go_enter Tryd.func55, Tryd.ntmps55
  go_upto_region 1 with fail
  first
  | apply absB1 (w0 := w) (g0 := w.heap.size)
  | apply absTB1 (w0 := w) (g0 := w.heap.size)
  | apply absIB1 (w0 := w) (g0 := w.heap.size)
  iterate 2 (focus ((with_reducible (repeat' (first | assumption | apply jA | apply jB | apply jC | apply jD | apply jE | apply jF | apply hb3 | apply jG | apply jH | apply jI | apply jJ | apply jK | apply hb3x | (apply jL; first | (simp; done) | rfl) | apply jM | apply jN | apply jO | apply jP | apply jQ | apply jR | apply jS | apply jT (hb := hb3 _ (jA _)) | omega | (simp; done) | (simp; omega) | (dsimp only; omega)))); done))
  intro wa hb0' k0'
  (try simp only [List.setIfInBounds_toArray, List.set_cons_zero, List.set_cons_succ] at k0')
  try clear hb3
  try clear hb0
  try clear k0
  have hb0 := hb0'; clear hb0'
  have k0 := k0'; clear k0'
  go_wp2
  go_loopw [5] (fun i wr => ∃ k : Nat, k ≤ nm ∧ i = .int .i64 k ∧ Below w.heap.size w wr ∧ Blk wr w.heap.size 61 #[.slice Ap np cp, .slice Af nf cf, .slice Am nm cm] ∧ g 0 0 = g k k) (fun i _ => nm - (intOf i).toNat)
  case atStart => exact ⟨0, Nat.zero_le _, rfl, hb0, k0, rfl⟩
  case round =>
    clear hb0 k0
    obtain ⟨k, hk, rfl, hb0, k0, hi⟩ := hrel
    replace hi := Lib.hid hi
    have L0 := k0.cell
    by_cases hkn : k < nm
    rotate_left
    · obtain rfl : nm = k := by omega
      have e := Lib.hid (hi.out.trans (hen.out _))
      go_wp2
      go_ret
      exact ⟨by rw [e.out] <;> rfl, hb0⟩
    have hx : n.ms[k]? = some (n.ms[k]'(by rw [Hm.out]; exact hkn)) := List.getElem?_eq_getElem _
    generalize n.ms[k]'(by rw [Hm.out]; exact hkn) = d at hx
    have hd := Lib.hid (hi.out.trans (hst.out k d hx))
    have hh := Lib.hid (hha.out k d hx)
    clear hx
    generalize hB d = B at *
    have hkn2 : (k : Int) < nm := by omega
    go_wp2_with fail
    refine (hh.out _ hb0).mono ?_
    rintro e w3 ⟨rfl, hb3⟩
    replace hb0 := bl_tr hb0 hb3
    replace k0 := k0.below hb3
    clear L0 hb3 hh
    cases B
    · have e := Lib.hid (show g 0 0 = g (k + 1) ((k + 1 : Nat) : Int) by rw [hd.out]; simp)
      go_wp2
      go_roundw
      case rel => exact ⟨k + 1, by omega, by go_num, hb0, k0, e.out⟩
      case measure => simp [intOf]; omega
    · have e := Lib.hid (show g 0 0 = (k : Int) by rw [hd.out]; simp)
      go_wp2
      go_ret
      exact ⟨by rw [e.out] <;> rfl, hb0⟩
/-! ### Lists in their order. -/
theorem lexB_drop {a b : List Int} {k : Nat} {x y : Int} (hx : a[k]? = some x) (hy : b[k]? = some y) : lexB (a.drop k) (b.drop k) = if x = y then lexB (a.drop (k + 1)) (b.drop (k + 1)) else decide (x < y) := by
  have h1 := (List.getElem?_eq_some_iff.1 hx)
  have h2 := (List.getElem?_eq_some_iff.1 hy)
  rw [List.drop_eq_getElem_cons h1.1, List.drop_eq_getElem_cons h2.1, h1.2, h2.2]
  rfl
theorem lexB_end {a b : List Int} {k : Nat} (h : a.length ≤ k ∨ b.length ≤ k) (h1 : k ≤ a.length) (h2 : k ≤ b.length) : lexB (a.drop k) (b.drop k) = decide (a.length < b.length) := by
  by_cases ha : a.length ≤ k
  · rw [List.drop_of_length_le ha]
    by_cases hb : b.length ≤ k
    · rw [List.drop_of_length_le hb, decide_eq_false (by omega)]
      rfl
    · rw [List.drop_eq_getElem_cons (show k < b.length by omega), decide_eq_true (by omega)]
      rfl
  · rw [List.drop_of_length_le (show b.length ≤ k by omega), List.drop_eq_getElem_cons (show k < a.length by omega), decide_eq_false (by omega)]
    rfl
set_option maxHeartbeats 4000000 in
theorem r_Before (a b : List Int) (A B : Option Addr) (c d : Nat) (w : World) (ha : Sl cI 1 w A a) (hb : Sl cI 1 w B b) (h1 : a.length ≤ 1000) (h2 : b.length ≤ 1000) :
    Calls Tryd.prog 93 #[.slice A a.length c, .slice B b.length d] w (Ret (.bool (lexB a b)) w) := by
  have Ha := Lib.hid ha
  have Hb := Lib.hid hb
  have hst := Lib.hid fun (k : Nat) (x y : Int) (hx : a[k]? = some x) (hy : b[k]? = some y) => lexB_drop hx hy
  have hen := Lib.hid fun (k : Nat) (h : a.length ≤ k ∨ b.length ≤ k) (h1 : k ≤ a.length) (h2 : k ≤ b.length) => lexB_end h h1 h2
  obtain ⟨g, hg⟩ : ∃ g : Nat → Bool, ∀ k, lexB (a.drop k) (b.drop k) = g k := ⟨_, fun _ => rfl⟩
  have h0 : lexB a b = g 0 := by rw [← hg]; rfl
  rw [h0]
  simp only [hg] at hst hen
  clear hg h0 ha hb
  obtain ⟨n, Hn⟩ : ∃ n, Hid (a.length = n) := ⟨_, rfl⟩
  obtain ⟨m, Hm⟩ : ∃ n, Hid (b.length = n) := ⟨_, rfl⟩
  rw [Hn.out] at h1 hen ⊢
  rw [Hm.out] at h2 hen ⊢
  go_enter Tryd.func93, Tryd.ntmps93
  go_wp2
  go_loopw [5] (fun i wr => ∃ k : Nat, k ≤ n ∧ k ≤ m ∧ i = .int .i64 k ∧ Below w.heap.size w wr ∧ g 0 = g k) (fun i _ => n - (intOf i).toNat)
  case atStart => exact ⟨0, Nat.zero_le _, Nat.zero_le _, rfl, Below.refl _ _, rfl⟩
  case round =>
    obtain ⟨k, hk, hk2, rfl, hb0, hi⟩ := hrel
    replace hi := Lib.hid hi
    by_cases hlt : k < n
    rotate_left
    · have e := Lib.hid (hi.out.trans (hen.out k (by omega) (by omega) (by omega)))
      have hkn : ¬ (k : Int) < n := by omega
      have hnm : decide ((n : Int) < m) = decide (n < m) := by simp
      go_wp2
      go_ret
      exact ⟨by rw [e.out] <;> simp, hb0⟩
    by_cases hlt2 : k < m
    rotate_left
    · have e := Lib.hid (hi.out.trans (hen.out k (by omega) (by omega) (by omega)))
      have hkn : (k : Int) < n := by omega
      have hkm : ¬ (k : Int) < m := by omega
      go_wp2
      go_ret
      exact ⟨by rw [e.out] <;> simp, hb0⟩
    have hx : a[k]? = some (a[k]'(by rw [Hn.out]; exact hlt)) := List.getElem?_eq_getElem _
    generalize a[k]'(by rw [Hn.out]; exact hlt) = x at hx
    have hy : b[k]? = some (b[k]'(by rw [Hm.out]; exact hlt2)) := List.getElem?_eq_getElem _
    generalize b[k]'(by rw [Hm.out]; exact hlt2) = y at hy
    have hs := Lib.hid (hi.out.trans (hst.out k x y hx hy))
    obtain ⟨ba, oa, rfl, hca⟩ := Ha.out k x hx
    obtain ⟨bb, ob, rfl, hcb⟩ := Hb.out k y hy
    have c0 : ∀ W, Below wr.heap.size wr W → W.cell? ⟨ba, oa + k, none⟩ = some (.int .i64 x) := later (by have := kcell hb0 (hca 0 _ rfl); simpa using this)
    have c1 : ∀ W, Below wr.heap.size wr W → W.cell? ⟨bb, ob + k, none⟩ = some (.int .i64 y) := later (by have := kcell hb0 (hcb 0 _ rfl); simpa using this)
    clear hca hcb hx hy hst hen
    have hkn : (k : Int) < n := by omega
    have hkm : (k : Int) < m := by omega
    go_upto_region 4 with fail
    refine wp_any (w0 := wr) ⟨[], [], [some 18, some 19, some 20, some 21, some 22, some 23, some 24, some 25, some 26], [[], [], [0, 1], [0, 1, 2], [], [], [4, 5], [4, 5, 6], [0, 1, 2, 3, 4, 5, 6, 7]], [[], [], [0, 1], [2], [], [], [4, 5], [6], [3, 7]]⟩ (fun _ => []) (by kernel_rfl) (by kernel_rfl) (by (with_reducible (repeat' (first | assumption | apply jA | apply jB | apply jC | apply jD | apply jE | apply jF | apply hb3 | omega | (simp; done) | (simp; omega) | (dsimp only; omega))))) (fun u => by simp only [putD, Act.put, List.setIfInBounds_toArray, List.set_cons_zero, List.set_cons_succ, Nat.zero_add, Nat.reduceAdd]; rfl) ?_
    apply RGW.on (i := 0) rfl
    · (simp only [gA, gB, gC] <;> rfl)
    · intro γ u W hcur hd
      clear hd
      (try dsimp only)
      refine ⟨rfl, ?_⟩
      go_simp <;> (try go_bits) <;> with_reducible rfl
    · exact fun _ _ _ => rfl
    · rfl
    dsimp only [nA, cA]
    apply RGW.on (i := 1) rfl
    · (simp only [gA, gB, gC] <;> rfl)
    · intro γ u W hcur hd
      clear hd
      (try dsimp only)
      refine ⟨rfl, ?_⟩
      go_simp <;> (try go_bits) <;> with_reducible rfl
    · exact fun _ _ _ => rfl
    · rfl
    dsimp only [nA, cA]
    apply RGW.on (i := 2) rfl
    · (simp only [gA, gB, gC] <;> rfl)
    · intro γ u W hcur hd
      obtain ⟨⟨h0, -, -⟩, ⟨h1, -, -⟩, -⟩ := hd
      dsimp only at h0 h1
      (try simp only [h0, h1])
      refine ⟨rfl, ?_⟩
      go_simp <;> (try go_bits) <;> with_reducible rfl
    · exact fun _ _ _ => rfl
    · rfl
    dsimp only [nA, cA]
    apply RGW.on (i := 3) rfl
    · (simp only [gA, gB, gC] <;> rfl)
    · intro γ u W hcur hd
      obtain ⟨⟨h2, -, -⟩, -⟩ := hd
      dsimp only at h2
      (try simp only [h2])
      refine ⟨rfl, ?_⟩
      go_simp <;> (try go_bits) <;> with_reducible rfl
    · exact fun _ _ _ => rfl
    · rfl
    dsimp only [nA, cA]
    apply RGW.on (i := 4) rfl
    · (simp only [gA, gB, gC] <;> rfl)
    · intro γ u W hcur hd
      clear hd
      (try dsimp only)
      refine ⟨rfl, ?_⟩
      go_simp <;> (try go_bits) <;> with_reducible rfl
    · exact fun _ _ _ => rfl
    · rfl
    dsimp only [nA, cA]
    apply RGW.on (i := 5) rfl
    · (simp only [gA, gB, gC] <;> rfl)
    · intro γ u W hcur hd
      clear hd
      (try dsimp only)
      refine ⟨rfl, ?_⟩
      go_simp <;> (try go_bits) <;> with_reducible rfl
    · exact fun _ _ _ => rfl
    · rfl
    dsimp only [nA, cA]
    apply RGW.on (i := 6) rfl
    · (simp only [gA, gB, gC] <;> rfl)
    · intro γ u W hcur hd
      obtain ⟨⟨h4, -, -⟩, ⟨h5, -, -⟩, -⟩ := hd
      dsimp only at h4 h5
      (try simp only [h4, h5])
      refine ⟨rfl, ?_⟩
      go_simp <;> (try go_bits) <;> with_reducible rfl
    · exact fun _ _ _ => rfl
    · rfl
    dsimp only [nA, cA]
    apply RGW.on (i := 7) rfl
    · (simp only [gA, gB, gC] <;> rfl)
    · intro γ u W hcur hd
      obtain ⟨⟨h6, -, -⟩, -⟩ := hd
      dsimp only at h6
      (try simp only [h6])
      refine ⟨rfl, ?_⟩
      go_simp <;> (try go_bits) <;> with_reducible rfl
    · exact fun _ _ _ => rfl
    · rfl
    dsimp only [nA, cA]
    apply RGW.on (i := 8) rfl
    · (simp only [gA, gB, gC] <;> rfl)
    · intro γ u W hcur hd
      obtain ⟨⟨h3, -, -⟩, ⟨h7, -, -⟩, -⟩ := hd
      dsimp only at h3 h7
      (try simp only [h3, h7])
      refine ⟨rfl, ?_⟩
      go_simp <;> (try go_bits) <;> with_reducible rfl
    · exact fun _ _ _ => rfl
    · rfl
    dsimp only [nA, cA]
    refine RGW.fin (fun γ u wj hwj hd hdis => ?_)
    obtain ⟨⟨h0, -, -⟩, ⟨h1, -, -⟩, ⟨h2, -, -⟩, ⟨h3, -, -⟩, ⟨h4, -, -⟩, ⟨h5, -, -⟩, ⟨h6, -, -⟩, ⟨h7, -, -⟩, ⟨h8, -, -⟩, -⟩ := hd
    dsimp only at h0 h1 h2 h3 h4 h5 h6 h7 h8
    clear hdis
    simp only [h0, h1, h2, h3, h4, h5, h6, h7, h8]
    clear h8 h7 h6 h5 h4 h3 h2 h1 h0
    clear u
    simp only [List.map_nil]
    refine PlanW.done ?_
    have hb3 := bl_tt hwj
    have hbj := bl_tr hb0 hwj
    by_cases hxy : x = y
    · have e := Lib.hid (show g 0 = g (k + 1) by rw [hs.out, if_pos hxy])
      have hne : (x != y) = false := by simp [hxy]
      clear hs hxy
      go_wp2
      go_roundw
      case rel => exact ⟨k + 1, by omega, by omega, by go_num, hbj, e.out⟩
      case measure => simp [intOf]; omega
    · have e := Lib.hid (show g 0 = decide (x < y) by rw [hs.out, if_neg hxy])
      have hne : (x != y) = true := by simp [hxy]
      have d0 : ∀ W, Below wj.heap.size wj W → W.cell? ⟨ba, oa + k, none⟩ = some (.int .i64 x) := fun W h => c0 W (bl_tr hwj h)
      have d1 : ∀ W, Below wj.heap.size wj W → W.cell? ⟨bb, ob + k, none⟩ = some (.int .i64 y) := fun W h => c1 W (bl_tr hwj h)
      clear hs hxy c0 c1
      go_upto_region 5 with fail
      refine wp_any (w0 := wj) ⟨[], [], [some 27, some 28, some 29, some 30, some 31, some 32, some 33, some 34, some 35, some 4], [[], [], [0, 1], [0, 1, 2], [], [], [4, 5], [4, 5, 6], [0, 1, 2, 3, 4, 5, 6, 7], [0, 1, 2, 3, 4, 5, 6, 7, 8]], [[], [], [0, 1], [2], [], [], [4, 5], [6], [3, 7], [8]]⟩ (fun _ => []) (by kernel_rfl) (by kernel_rfl) (by (with_reducible (repeat' (first | assumption | apply jA | apply jB | apply jC | apply jD | apply jE | apply jF | apply hb3 | omega | (simp; done) | (simp; omega) | (dsimp only; omega))))) (fun u => by simp only [putD, Act.put, List.setIfInBounds_toArray, List.set_cons_zero, List.set_cons_succ, Nat.zero_add, Nat.reduceAdd]; rfl) ?_
      apply RGW.on (i := 0) rfl
      · (simp only [gA, gB, gC] <;> rfl)
      · intro γ u W hcur hd
        clear hd
        (try dsimp only)
        refine ⟨rfl, ?_⟩
        go_simp <;> (try go_bits) <;> with_reducible rfl
      · exact fun _ _ _ => rfl
      · rfl
      dsimp only [nA, cA]
      apply RGW.on (i := 1) rfl
      · (simp only [gA, gB, gC] <;> rfl)
      · intro γ u W hcur hd
        clear hd
        (try dsimp only)
        refine ⟨rfl, ?_⟩
        go_simp <;> (try go_bits) <;> with_reducible rfl
      · exact fun _ _ _ => rfl
      · rfl
      dsimp only [nA, cA]
      apply RGW.on (i := 2) rfl
      · (simp only [gA, gB, gC] <;> rfl)
      · intro γ u W hcur hd
        obtain ⟨⟨h0, -, -⟩, ⟨h1, -, -⟩, -⟩ := hd
        dsimp only at h0 h1
        (try simp only [h0, h1])
        refine ⟨rfl, ?_⟩
        go_simp <;> (try go_bits) <;> with_reducible rfl
      · exact fun _ _ _ => rfl
      · rfl
      dsimp only [nA, cA]
      apply RGW.on (i := 3) rfl
      · (simp only [gA, gB, gC] <;> rfl)
      · intro γ u W hcur hd
        obtain ⟨⟨h2, -, -⟩, -⟩ := hd
        dsimp only at h2
        (try simp only [h2])
        refine ⟨rfl, ?_⟩
        go_simp <;> (try go_bits) <;> with_reducible rfl
      · exact fun _ _ _ => rfl
      · rfl
      dsimp only [nA, cA]
      apply RGW.on (i := 4) rfl
      · (simp only [gA, gB, gC] <;> rfl)
      · intro γ u W hcur hd
        clear hd
        (try dsimp only)
        refine ⟨rfl, ?_⟩
        go_simp <;> (try go_bits) <;> with_reducible rfl
      · exact fun _ _ _ => rfl
      · rfl
      dsimp only [nA, cA]
      apply RGW.on (i := 5) rfl
      · (simp only [gA, gB, gC] <;> rfl)
      · intro γ u W hcur hd
        clear hd
        (try dsimp only)
        refine ⟨rfl, ?_⟩
        go_simp <;> (try go_bits) <;> with_reducible rfl
      · exact fun _ _ _ => rfl
      · rfl
      dsimp only [nA, cA]
      apply RGW.on (i := 6) rfl
      · (simp only [gA, gB, gC] <;> rfl)
      · intro γ u W hcur hd
        obtain ⟨⟨h4, -, -⟩, ⟨h5, -, -⟩, -⟩ := hd
        dsimp only at h4 h5
        (try simp only [h4, h5])
        refine ⟨rfl, ?_⟩
        go_simp <;> (try go_bits) <;> with_reducible rfl
      · exact fun _ _ _ => rfl
      · rfl
      dsimp only [nA, cA]
      apply RGW.on (i := 7) rfl
      · (simp only [gA, gB, gC] <;> rfl)
      · intro γ u W hcur hd
        obtain ⟨⟨h6, -, -⟩, -⟩ := hd
        dsimp only at h6
        (try simp only [h6])
        refine ⟨rfl, ?_⟩
        go_simp <;> (try go_bits) <;> with_reducible rfl
      · exact fun _ _ _ => rfl
      · rfl
      dsimp only [nA, cA]
      apply RGW.on (i := 8) rfl
      · (simp only [gA, gB, gC] <;> rfl)
      · intro γ u W hcur hd
        obtain ⟨⟨h3, -, -⟩, ⟨h7, -, -⟩, -⟩ := hd
        dsimp only at h3 h7
        (try simp only [h3, h7])
        refine ⟨rfl, ?_⟩
        go_simp <;> (try go_bits) <;> with_reducible rfl
      · exact fun _ _ _ => rfl
      · rfl
      dsimp only [nA, cA]
      apply RGW.on (i := 9) rfl
      · (simp only [gA, gB, gC] <;> rfl)
      · intro γ u W hcur hd
        obtain ⟨⟨h8, -, -⟩, -⟩ := hd
        dsimp only at h8
        (try simp only [h8])
        refine ⟨rfl, ?_⟩
        go_simp <;> (try go_bits) <;> with_reducible rfl
      · exact fun _ _ _ => rfl
      · rfl
      dsimp only [nA, cA]
      refine RGW.fin (fun γ u wk hwk hd hdis => ?_)
      obtain ⟨⟨h0, -, -⟩, ⟨h1, -, -⟩, ⟨h2, -, -⟩, ⟨h3, -, -⟩, ⟨h4, -, -⟩, ⟨h5, -, -⟩, ⟨h6, -, -⟩, ⟨h7, -, -⟩, ⟨h8, -, -⟩, ⟨h9, -, -⟩, -⟩ := hd
      dsimp only at h0 h1 h2 h3 h4 h5 h6 h7 h8 h9
      clear hdis
      simp only [h0, h1, h2, h3, h4, h5, h6, h7, h8, h9]
      clear h9 h8 h7 h6 h5 h4 h3 h2 h1 h0
      clear u
      simp only [List.map_nil]
      refine PlanW.done ?_
      have hb3 := bl_tt hwk
      have hbk := bl_tr hbj hwk
      go_wp2
      go_ret
      exact ⟨by rw [e.out] <;> rfl, hbk⟩
end Go.Proofs.YtdlmkblmljhbfaaDoor
namespace Go.Proofs.YtdlmkblmljhbfaaDoor
set_option linter.unusedSimpArgs false
set_option linter.unusedVariables false
open Go.RowKit Go.Shelf
attribute [local go_sem] bl_al bl_drew bl_drewN bl_refl bx_al bx_drew bx_drewN bx_refl
set_option maxRecDepth 20000

set_option maxHeartbeats 400000 in
set_option maxRecDepth 20000 in
theorem c_IndexFuncM (f : FuncId) (lb : Array Value) (p : Md → Bool) (A : Option Addr) (l : List Md) (c : Nat) (w : World) (hl : l.length ≤ 1000000)
    (he : Enters Tryd.prog f) (hp : Preds Tryd.prog f lb w (fun x : Md => .agg #[.string x.name, .slice x.r.A x.r.l.length x.r.c]) l p) (hr : Sl cMd 2 w A l) :
    Calls Tryd.prog 112 #[.slice A l.length c, .func (.func f) #[] lb] w (Ret (.int .i64 (idxF p l 0)) w) := by
  have he' : ∀ args w, (callFunc f args).run Tryd.prog w = .ok (.enter f args) w := he
  clear he
  have Hp := Lib.hid hp
  have Hr := Lib.hid hr
  clear hp hr
  obtain ⟨n, Hn⟩ : ∃ n, Hid (l.length = n) := ⟨_, rfl⟩
  rw [Hn.out] at hl ⊢
  go_enter Tryd.func112, Tryd.ntmps112
  go_wp2
  go_loopw [8] (fun i wr => ∃ k : Nat, k ≤ n ∧ i = .int .i64 k ∧ Below w.heap.size w wr ∧ idxF p l 0 = idxF p (l.drop k) k) (fun i _ => n - (intOf i).toNat)
  case atStart => exact ⟨0, Nat.zero_le _, rfl, Below.refl _ _, rfl⟩
  case round =>
    obtain ⟨k, hk, rfl, hb, hi⟩ := hrel
    replace hi := Lib.hid hi
    by_cases hlt : k < n
    · have hx : l[k]? = some (l[k]'(by rw [Hn.out]; exact hlt)) := List.getElem?_eq_getElem _
      generalize l[k]'(by rw [Hn.out]; exact hlt) = x at hx
      replace hx := Lib.hid hx
      obtain ⟨b, off, rfl, hc⟩ := (Hr.out.below hb) k x hx.out
      have c0 : wr.cell? ⟨b, off + k * 2, none⟩ = some (.string x.name) := hc 0 _ rfl
      have c1 : wr.cell? ⟨b, off + k * 2 + 1, none⟩ = some (.slice x.r.A x.r.l.length x.r.c) := hc 1 _ rfl
      have hm : x ∈ l := List.mem_of_getElem? hx.out
      have hd := Lib.hid (idxF_drop p l k x hx.out)
      clear hc hx
      cases hpx : p x
      all_goals
        have hcall := Hp.out x hm wr hb
        rw [hpx] at hcall
        replace hcall := Lib.hid hcall
        replace hpx := Lib.hid hpx
        clear hm
        go_wp2_with fail
        refine hcall.out.mono ?_
        rintro e w3 ⟨rfl, hb3⟩
        go_wp2
      · go_roundw
        case rel => exact ⟨k + 1, by omega, by go_num, bl_tr hb hb3, by rw [hi.out, hd.out, hpx.out]; simp⟩
        case measure => simp [intOf]; omega
      · go_ret
        exact ⟨by rw [hi.out, hd.out, hpx.out] <;> rfl, bl_tr hb hb3⟩
    · go_wp2
      go_ret
      have : k = l.length := by have := Hn.out; omega
      exact ⟨by rw [hi.out, this]; simp [idxF], hb⟩
end Go.Proofs.YtdlmkblmljhbfaaDoor
namespace Go.Proofs.YtdlmkblmljhbfaaDoor
set_option linter.unusedSimpArgs false
set_option linter.unusedVariables false
open Go.RowKit Go.Shelf
attribute [local go_sem] bl_al bl_drew bl_drewN bl_refl bx_al bx_drew bx_drewN bx_refl
set_option maxRecDepth 20000
set_option maxHeartbeats 2000000 in
theorem c_working (n : Nt) (failed : Nat) (Ap Af Am : Option Addr) (cp cf cm : Nat) (w : World) (hn : NtIn n Ap Af Am cp cf cm w) (hok : ∀ f ∈ n.fs, FuOk f) (h10 : n.fs.length ≤ 10) (hlt : failed < 1024) :
    Calls Tryd.prog 110 #[vNt Ap Af Am n.ps.length n.fs.length n.ms.length cp cf cm, .int .u64 failed] w (Ret (.int .u64 (workN n.fs failed n.fs.length : Nat)) w) := by
  have hw := Lib.hid fun (k : Nat) (f : Fu) (hf : n.fs[k]? = some f) W (hb : Below w.heap.size w W) => c_works f failed W ((hn.fin f (List.mem_of_getElem? hf)).below hb) (hok f (List.mem_of_getElem? hf)) hlt
  have hst := Lib.hid fun (k : Nat) (f : Fu) (hf : n.fs[k]? = some f) => (show workN n.fs failed (k + 1) = if worksB f failed then workN n.fs failed k ||| 2 ^ k else workN n.fs failed k by rw [workN, hf])
  have hl := Lib.hid (workN_lt n.fs failed)
  have hz : Hid (workN n.fs failed 0 = 0) := rfl
  have hsl := Lib.hid hn.fsl
  obtain ⟨g, hg⟩ : ∃ g : Nat → Nat, ∀ k, workN n.fs failed k = g k := ⟨_, fun _ => rfl⟩
  simp only [hg] at hst hl hz ⊢
  clear hg hn hok
  change Calls Tryd.prog 110 #[.agg #[.slice Ap n.ps.length cp, .slice Af n.fs.length cf, .slice Am n.ms.length cm], .int .u64 failed] w _
  obtain ⟨nf, Hf⟩ : ∃ k, Hid (n.fs.length = k) := ⟨_, rfl⟩
  rw [Hf.out] at h10 ⊢
  generalize n.ps.length = np at *
  generalize n.ms.length = nm at *
  go_enter Tryd.func110, Tryd.ntmps110
  go_upto_region 1 with fail
  first
  | apply absB1 (w0 := w) (g0 := w.heap.size)
  | apply absTB1 (w0 := w) (g0 := w.heap.size)
  | apply absIB1 (w0 := w) (g0 := w.heap.size)
  iterate 2 (focus ((with_reducible (repeat' (first | assumption | apply jA | apply jB | apply jC | apply jD | apply jE | apply jF | apply hb3 | apply jG | apply jH | apply jI | apply jJ | apply jK | apply hb3x | (apply jL; first | (simp; done) | rfl) | apply jM | apply jN | apply jO | apply jP | apply jQ | apply jR | apply jS | apply jT (hb := hb3 _ (jA _)) | omega | (simp; done) | (simp; omega) | (dsimp only; omega)))); done))
  intro wa hb0' k0'
  (try simp only [List.setIfInBounds_toArray, List.set_cons_zero, List.set_cons_succ] at k0')
  try clear hb3
  try clear hb0
  try clear k0
  have hb0 := hb0'; clear hb0'
  have k0 := k0'; clear k0'
  have L0 := k0.cell
  go_wp2
  clear L0
  go_loopw [5, 11] (fun o i wr => ∃ k : Nat, k ≤ nf ∧ i = .int .i64 k ∧ o = .int .u64 (g k : Nat) ∧ Below w.heap.size w wr) (fun _ i _ => nf - (intOf i).toNat)
  case atStart => exact ⟨0, Nat.zero_le _, rfl, by rw [hz.out] <;> rfl, hb0⟩
  case round =>
    clear hb0 k0
    obtain ⟨k, hk, rfl, rfl, hb0⟩ := hrel
    by_cases hkn : k < nf
    rotate_left
    · obtain rfl : nf = k := by omega
      go_wp2
      go_ret
      exact ⟨rfl, hb0⟩
    have hx : n.fs[k]? = some (n.fs[k]'(by rw [Hf.out]; exact hkn)) := List.getElem?_eq_getElem _
    generalize n.fs[k]'(by rw [Hf.out]; exact hkn) = f at hx
    have hwk := Lib.hid (hw.out k f hx)
    have hs := Lib.hid (hst.out k f hx)
    obtain ⟨b, off, rfl, hc⟩ := hsl.out k f hx
    have c0 : wr.cell? ⟨b, off + k * 2, none⟩ = some (.string f.name) := by simpa using kcell hb0 (hc 0 _ rfl)
    have c1 : wr.cell? ⟨b, off + k * 2 + 1, none⟩ = some (.slice f.A f.ws.length f.c) := kcell hb0 (hc 1 _ rfl)
    clear hc hx
    dsimp only [vFu] at hwk
    have hl1 := hl.out k
    have hl2 : 2 ^ k ≤ 1024 := Nat.le_trans (Nat.pow_le_pow_right (by decide) (show k ≤ 10 by omega)) (by decide)
    generalize worksB f failed = B at *
    generalize f.name = fn at *
    generalize f.ws.length = fl at *
    generalize f.A = fA at *
    generalize f.c = fc at *
    go_upto_region 5 with fail
    have k1 := Blk.new wr 129 #[.string fn, .slice fA fl fc]
    replace hb0 := bl_al (.cells #[.string fn, .slice fA fl fc] 129) hb0
    clear c0 c1
    generalize wr.alloc (.cells #[.string fn, .slice fA fl fc] 129) = wb at *
    have L1 := k1.cell
    go_wp2_with fail
    refine (hwk.out _ hb0).mono ?_
    rintro e w3 ⟨rfl, hb3⟩
    replace hb0 := bl_tr hb0 hb3
    clear L1 k1 hb3 hwk
    cases B
    · have e2 := Lib.hid (show g (k + 1) = g k by rw [hs.out]; simp)
      go_wp2
      go_roundw
      case rel => exact ⟨k + 1, by omega, by go_num, by rw [e2.out], hb0⟩
      case measure => simp [intOf]; omega
    · have e2 := Lib.hid (show g (k + 1) = g k ||| 2 ^ k by rw [hs.out]; simp)
      have hl3 : g k < 1024 := Nat.lt_of_lt_of_le hl1 hl2
      have hor := Lib.hid (or_step (g k) k hl3 (by omega))
      clear hl1 hl2 hl3
      go_wp2_with (simp only [hor.out])
      go_roundw
      case rel => exact ⟨k + 1, by omega, by go_num, by rw [e2.out], hb0⟩
      case measure => simp [intOf]; omega
/-- The error of a net and faults. -/
def fltE (n : Nt) (l : List Int) : Int := fstE [netErr n, idxErr l n.ps.length]
set_option maxHeartbeats 2000000 in
theorem c_faultsErr (n : Nt) (l : List Int) (Ap Af Am A : Option Addr) (cp cf cm c : Nat) (w : World) (hn : NtIn n Ap Af Am cp cf cm w) (hs : Sl cI 1 w A l) (hl : l.length ≤ 1000) :
    Calls Tryd.prog 109 #[vNt Ap Af Am n.ps.length n.fs.length n.ms.length cp cf cm, .slice A l.length c] w (Ret (.int .i64 (fltE n l)) w) := by
  have hne := Lib.hid fun W (hb : Below w.heap.size w W) => c_netErr n Ap Af Am cp cf cm W (hn.below hb)
  have hie := Lib.hid fun W (hb : Below w.heap.size w W) => c_indexesErr l n.ps.length A c W (hs.below hb) hl (by have := hn.plen; omega)
  have he : Hid (fstE [netErr n, idxErr l n.ps.length] = fltE n l) := rfl
  clear hn hs
  change Calls Tryd.prog 109 #[.agg #[.slice Ap n.ps.length cp, .slice Af n.fs.length cf, .slice Am n.ms.length cm], .slice A l.length c] w _
  dsimp only [vNt, aNt] at hne
  rw [← he.out]
  generalize netErr n = ne at *
  generalize idxErr l n.ps.length = ie at *
  generalize n.ps.length = np at *
  generalize n.fs.length = nf at *
  generalize n.ms.length = nm at *
  generalize l.length = ll at *
  go_enter Tryd.func109, Tryd.ntmps109
  go_upto_region 1 with fail
  first
  | apply absB1 (w0 := w) (g0 := w.heap.size)
  | apply absTB1 (w0 := w) (g0 := w.heap.size)
  | apply absIB1 (w0 := w) (g0 := w.heap.size)
  iterate 2 (focus ((with_reducible (repeat' (first | assumption | apply jA | apply jB | apply jC | apply jD | apply jE | apply jF | apply hb3 | apply jG | apply jH | apply jI | apply jJ | apply jK | apply hb3x | (apply jL; first | (simp; done) | rfl) | apply jM | apply jN | apply jO | apply jP | apply jQ | apply jR | apply jS | apply jT (hb := hb3 _ (jA _)) | omega | (simp; done) | (simp; omega) | (dsimp only; omega)))); done))
  intro wa hb0' k0'
  (try simp only [List.setIfInBounds_toArray, List.set_cons_zero, List.set_cons_succ] at k0')
  try clear hb3
  try clear hb0
  try clear k0
  have hb0 := hb0'; clear hb0'
  have k0 := k0'; clear k0'
  have Lk0 := k0.later
  have Fk0 := k0.laterF
  have Qk0 := k0.lt
  refine wp_any (w0 := wa) ⟨[], [], [some 5, some 6, some 7, some 8, some 9, some 10, some 11, some 12, some 13, some 4], [[], [0], [], [], [3], [3, 4], [0, 1, 2, 3, 4, 5], [0, 1, 2, 3, 4, 5, 6], [0, 1, 2, 3, 4, 5, 6, 7], [0, 1, 2, 3, 4, 5, 6, 7, 8]], [[], [0], [], [], [3], [4], [2, 5], [1, 6], [7], [7, 8]]⟩ (fun _ => []) (by kernel_rfl) (by kernel_rfl) (by (with_reducible (repeat' (first | assumption | apply jA | apply jB | apply jC | apply jD | apply jE | apply jF | apply hb3 | omega | (simp; done) | (simp; omega) | (dsimp only; omega))))) (fun u => by simp only [putD, Act.put, List.setIfInBounds_toArray, List.set_cons_zero, List.set_cons_succ, Nat.zero_add, Nat.reduceAdd]; rfl) ?_
  apply RGW.on (i := 0) rfl
  · (simp only [gA, gB, gC] <;> rfl)
  · intro γ u W hcur hd
    clear hd
    (try dsimp only)
    refine ⟨rfl, ?_⟩
    go_simp <;> (try go_bits) <;> with_reducible rfl
  · exact fun _ _ _ => rfl
  · rfl
  dsimp only [nA, cA]
  apply RGW.call (i := 1) rfl
  · (simp only [gA, gB, gC] <;> rfl)
  · intro γ u W hcur hd
    obtain ⟨⟨h0, -, -⟩, -⟩ := hd
    dsimp only at h0
    (try simp only [h0])
    refine ⟨rfl, fun K hK => ?_⟩
    go_simp
    first
    | (go_at_call 85; (with_reducible refine (hne.out _ (bl_tr hb0 hcur)).mono ?_); rintro e w3 ⟨rfl, hb3⟩; replace hb3 := bl_tt hb3)
    | (go_at_call 106; (with_reducible refine (hie.out _ (bl_tr hb0 hcur)).mono ?_); rintro e w3 ⟨rfl, hb3⟩; replace hb3 := bl_tt hb3)
    | (go_at_call 77; (with_reducible refine (c_first2 (by (with_reducible (repeat' (first | assumption | (apply jL; first | (simp; done) | rfl) | apply jM | apply jN | apply jO | apply jP | apply jQ | apply jR | apply jS | apply jT (hb := hb3 _ (jA _)) | omega | (simp; done) | (simp; omega) | (dsimp only; omega)))))).mono ?_); rintro e w3 ⟨rfl, rfl⟩)
    (try dsimp only)
    exact hK.out _ _ rfl (by (with_reducible (repeat' (first | assumption | apply jA | apply jB | apply jC | apply jD | apply jE | apply jF | apply hb3 | omega | (simp; done) | (simp; omega) | (dsimp only; omega)))))
  · exact fun _ _ _ => rfl
  · rfl
  dsimp only [nA, cA]
  apply RGW.on (i := 2) rfl
  · (simp only [gA, gB, gC] <;> rfl)
  · intro γ u W hcur hd
    clear hd
    (try dsimp only)
    refine ⟨rfl, ?_⟩
    go_simp <;> (try go_bits) <;> with_reducible rfl
  · exact fun _ _ _ => rfl
  · rfl
  dsimp only [nA, cA]
  apply RGW.on (i := 3) rfl
  · (simp only [gA, gB, gC] <;> rfl)
  · intro γ u W hcur hd
    clear hd
    (try dsimp only)
    refine ⟨rfl, ?_⟩
    go_simp <;> (try go_bits) <;> with_reducible rfl
  · exact fun _ _ _ => rfl
  · rfl
  dsimp only [nA, cA]
  apply RGW.on (i := 4) rfl
  · (simp only [gA, gB, gC] <;> rfl)
  · intro γ u W hcur hd
    obtain ⟨⟨h3, -, -⟩, -⟩ := hd
    dsimp only at h3
    (try simp only [h3])
    refine ⟨rfl, ?_⟩
    go_simp <;> (try go_bits) <;> with_reducible rfl
  · exact fun _ _ _ => rfl
  · rfl
  dsimp only [nA, cA]
  apply RGW.on (i := 5) rfl
  · (simp only [gA, gB, gC] <;> rfl)
  · intro γ u W hcur hd
    obtain ⟨⟨h4, -, -⟩, -⟩ := hd
    dsimp only at h4
    (try simp only [h4])
    refine ⟨rfl, ?_⟩
    go_simp <;> (try go_bits) <;> with_reducible rfl
  · exact fun _ _ _ => rfl
  · rfl
  dsimp only [nA, cA]
  apply RGW.call (i := 6) rfl
  · (simp only [gA, gB, gC] <;> rfl)
  · intro γ u W hcur hd
    obtain ⟨⟨h2, -, -⟩, ⟨h5, -, -⟩, -⟩ := hd
    dsimp only at h2 h5
    (try simp only [h2, h5])
    refine ⟨rfl, fun K hK => ?_⟩
    go_simp
    first
    | (go_at_call 85; (with_reducible refine (hne.out _ (bl_tr hb0 hcur)).mono ?_); rintro e w3 ⟨rfl, hb3⟩; replace hb3 := bl_tt hb3)
    | (go_at_call 106; (with_reducible refine (hie.out _ (bl_tr hb0 hcur)).mono ?_); rintro e w3 ⟨rfl, hb3⟩; replace hb3 := bl_tt hb3)
    | (go_at_call 77; (with_reducible refine (c_first2 (by (with_reducible (repeat' (first | assumption | (apply jL; first | (simp; done) | rfl) | apply jM | apply jN | apply jO | apply jP | apply jQ | apply jR | apply jS | apply jT (hb := hb3 _ (jA _)) | omega | (simp; done) | (simp; omega) | (dsimp only; omega)))))).mono ?_); rintro e w3 ⟨rfl, rfl⟩)
    (try dsimp only)
    exact hK.out _ _ rfl (by (with_reducible (repeat' (first | assumption | apply jA | apply jB | apply jC | apply jD | apply jE | apply jF | apply hb3 | omega | (simp; done) | (simp; omega) | (dsimp only; omega)))))
  · exact fun _ _ _ => rfl
  · rfl
  dsimp only [nA, cA]
  apply RGW.bslice (i := 7) rfl
  · (simp only [gA, gB, gC] <;> rfl)
  · intro γ u W hcur hd
    obtain ⟨⟨h1, -, -⟩, ⟨h6, -, -⟩, -⟩ := hd
    dsimp only at h1 h6
    (try simp only [h1, h6])
    refine ⟨rfl, fun K hK => ?_⟩
    go_simp
    exact hK.out _ _ rfl rfl
  · exact fun _ _ _ => rfl
  · rfl
  · rfl
  dsimp only [nA, cA]
  apply RGW.call (i := 8) rfl
  · (simp only [gA, gB, gC] <;> rfl)
  · intro γ u W hcur hd
    obtain ⟨⟨h7, r7, -⟩, -⟩ := hd
    dsimp only at h7 r7
    have L7 := r7.cell
    (try simp only [h7])
    refine ⟨rfl, fun K hK => ?_⟩
    go_simp
    first
    | (go_at_call 85; (with_reducible refine (hne.out _ (bl_tr hb0 hcur)).mono ?_); rintro e w3 ⟨rfl, hb3⟩; replace hb3 := bl_tt hb3)
    | (go_at_call 106; (with_reducible refine (hie.out _ (bl_tr hb0 hcur)).mono ?_); rintro e w3 ⟨rfl, hb3⟩; replace hb3 := bl_tt hb3)
    | (go_at_call 77; (with_reducible refine (c_first2 (by (with_reducible (repeat' (first | assumption | (apply jL; first | (simp; done) | rfl) | apply jM | apply jN | apply jO | apply jP | apply jQ | apply jR | apply jS | apply jT (hb := hb3 _ (jA _)) | omega | (simp; done) | (simp; omega) | (dsimp only; omega)))))).mono ?_); rintro e w3 ⟨rfl, rfl⟩)
    (try dsimp only)
    exact hK.out _ _ rfl (by (with_reducible (repeat' (first | assumption | apply jA | apply jB | apply jC | apply jD | apply jE | apply jF | apply hb3 | omega | (simp; done) | (simp; omega) | (dsimp only; omega)))))
  · first
    | exact fun _ _ _ => rfl
    | intro γ γ' hg
      try dsimp only
      have e7 := hg 7 (by decide)
      simp only [e7]
  · rfl
  dsimp only [nA, cA]
  apply RGW.on (i := 9) rfl
  · (simp only [gA, gB, gC] <;> rfl)
  · intro γ u W hcur hd
    obtain ⟨⟨h7, r7, -⟩, ⟨h8, -, -⟩, -⟩ := hd
    dsimp only at h7 h8 r7
    have L7 := r7.cell
    (try simp only [h7, h8])
    refine ⟨rfl, ?_⟩
    go_simp <;> (try go_bits) <;> with_reducible rfl
  · first
    | exact fun _ _ _ => rfl
    | intro γ γ' hg
      try dsimp only
      have e7 := hg 7 (by decide)
      simp only [e7]
  · rfl
  dsimp only [nA, cA]
  refine RGW.fin (fun γ u wb hwb hd hdis => ?_)
  obtain ⟨⟨h0, -, -⟩, ⟨h1, -, -⟩, ⟨h2, -, -⟩, ⟨h3, -, -⟩, ⟨h4, -, -⟩, ⟨h5, -, -⟩, ⟨h6, -, -⟩, ⟨h7, r7, b7⟩, ⟨h8, -, -⟩, ⟨h9, -, -⟩, -⟩ := hd
  dsimp only at h0 h1 h2 h3 h4 h5 h6 h7 h8 h9 r7 b7
  clear hdis
  simp only [h0, h1, h2, h3, h4, h5, h6, h7, h8, h9]
  clear h9 h8 h7 h6 h5 h4 h3 h2 h1 h0
  replace b7 := b7 _ (List.mem_singleton.2 rfl)
  generalize hγ7 : (γ 7).n = g7 at *
  clear hγ7
  clear u
  simp only [List.map_nil]
  refine PlanW.done ?_
  have hb3 := bl_tt hwb
  go_wp2
  go_ret
  exact ⟨rfl, by (with_reducible (repeat' (first | assumption | apply jA | apply jB | apply jC | apply jD | apply jE | apply jF | apply hb3 | omega | (simp; done) | (simp; omega) | (dsimp only; omega))))⟩
theorem fltE_ok {n : Nt} {l : List Int} (h : fltE n l = 0) : netErr n = 0 ∧ idxErr l n.ps.length = 0 := by
  obtain ⟨h1, h2⟩ := (fst_cons _ _).1 h
  exact ⟨h1, ((fst_cons _ _).1 h2).1⟩
theorem net_fok {n : Nt} (h : netErr n = 0) : n.fs.length ≤ 10 ∧ ∀ f ∈ n.fs, FuOk f := by
  obtain ⟨o1, o2, o3⟩ := netErr_ok h
  exact ⟨o2, fun f hf r hr x hx => by have := o3 f hf r hr x hx; omega⟩
theorem flt_lt {n : Nt} {l : List Int} (h : fltE n l = 0) : setN l < 1024 ∧ ∀ x ∈ l, 0 ≤ x ∧ x < 10 := by
  obtain ⟨h1, h2⟩ := fltE_ok h
  obtain ⟨o1, -, -⟩ := netErr_ok h1
  have h3 : ∀ x ∈ l, 0 ≤ x ∧ x < 10 := fun x hx => by have := idxErr_ok h2 x hx; omega
  exact ⟨setN_lt h3, h3⟩
/-- The functions that work after faults. -/
def afterS (n : Nt) (l : List Int) : List Int := listS (workN n.fs (setN l) n.fs.length)
theorem work_lt {n : Nt} (h : n.fs.length ≤ 10) (s : Nat) : workN n.fs s n.fs.length < 1024 :=
  Nat.lt_of_lt_of_le (workN_lt n.fs s n.fs.length) (Nat.le_trans (Nat.pow_le_pow_right (by decide) h) (by decide))
set_option maxHeartbeats 4000000 in
theorem c_WorksAfter (n : Nt) (l : List Int) (Ap Af Am A : Option Addr) (cp cf cm c : Nat) (w : World) (hn : NtIn n Ap Af Am cp cf cm w) (hs : Sl cI 1 w A l) (hl : l.length ≤ 1000) (hT : Tab w) :
    Calls Tryd.prog 50 #[vNt Ap Af Am n.ps.length n.fs.length n.ms.length cp cf cm, .slice A l.length c] w (fun e w' => Below w.heap.size w w' ∧
      ((fltE n l ≠ 0 ∧ e = .returned (.tuple #[.slice none 0 0, .int .i64 (fltE n l)])) ∨
        (fltE n l = 0 ∧ ∃ A2 c2, e = .returned (.tuple #[.slice A2 (afterS n l).length c2, .int .i64 0]) ∧ Sl cI 1 w' A2 (afterS n l)))) := by
  have hfe := Lib.hid fun W (hb : Below w.heap.size w W) => c_faultsErr n l Ap Af Am A cp cf cm c W (hn.below hb) (hs.below hb) hl
  have hso := Lib.hid fun (h : fltE n l = 0) W (hb : Below w.heap.size w W) => c_setOf l A c W (hs.below hb) (by omega) (flt_lt h).2
  have hwo := Lib.hid fun (h : fltE n l = 0) W (hb : Below w.heap.size w W) => c_working n (setN l) Ap Af Am cp cf cm W (hn.below hb) (net_fok (fltE_ok h).1).2 (net_fok (fltE_ok h).1).1 (flt_lt h).1
  have hli := Lib.hid fun (h : fltE n l = 0) W (hb : Below w.heap.size w W) => c_list (workN n.fs (setN l) n.fs.length) W (work_lt (net_fok (fltE_ok h).1).1 _) (hT.below hb)
  have haf : Hid (listS (workN n.fs (setN l) n.fs.length) = afterS n l) := rfl
  rw [haf.out] at hli
  clear hn hs hT
  change Calls Tryd.prog 50 #[.agg #[.slice Ap n.ps.length cp, .slice Af n.fs.length cf, .slice Am n.ms.length cm], .slice A l.length c] w _
  dsimp only [vNt, aNt] at hfe hwo
  generalize afterS n l = LL at *
  generalize workN n.fs (setN l) n.fs.length = WN at *
  generalize setN l = SN at *
  generalize fltE n l = E at *
  generalize n.ps.length = np at *
  generalize n.fs.length = nf at *
  generalize n.ms.length = nm at *
  generalize l.length = ll at *
  clear haf
  go_enter Tryd.func50, Tryd.ntmps50
  go_upto_region 1 with fail
  first
  | apply absB1 (w0 := w) (g0 := w.heap.size)
  | apply absTB1 (w0 := w) (g0 := w.heap.size)
  | apply absIB1 (w0 := w) (g0 := w.heap.size)
  iterate 2 (focus ((with_reducible (repeat' (first | assumption | apply jA | apply jB | apply jC | apply jD | apply jE | apply jF | apply hb3 | apply jG | apply jH | apply jI | apply jJ | apply jK | apply hb3x | (apply jL; first | (simp; done) | rfl) | apply jM | apply jN | apply jO | apply jP | apply jQ | apply jR | apply jS | apply jT (hb := hb3 _ (jA _)) | omega | (simp; done) | (simp; omega) | (dsimp only; omega)))); done))
  intro wa hb0' k0'
  (try simp only [List.setIfInBounds_toArray, List.set_cons_zero, List.set_cons_succ] at k0')
  try clear hb3
  try clear hb0
  try clear k0
  have hb0 := hb0'; clear hb0'
  have k0 := k0'; clear k0'
  have L0 := k0.cell
  go_wp2_with fail
  refine (hfe.out _ hb0).mono ?_
  rintro e w3 ⟨rfl, hb3⟩
  replace hb0 := bl_tr hb0 hb3
  replace k0 := k0.below hb3
  clear L0 hb3 hfe
  by_cases h0 : E = 0
  rotate_left
  · have h0' : (E != 0) = true := by simp [h0]
    replace h0 := Lib.hid h0
    go_wp2
    go_ret2
    exact ⟨hb0, .inl ⟨h0.out, rfl⟩⟩
  subst h0
  have hso1 := Lib.hid (hso.out rfl)
  have hwo1 := Lib.hid (hwo.out rfl)
  have hli1 := Lib.hid (hli.out rfl)
  clear hso hwo hli
  go_upto_region 4 with fail
  have Lk0 := k0.later
  have Fk0 := k0.laterF
  have Qk0 := k0.lt
  refine wp_any (w0 := w3) ⟨[], [], [some 13, some 14, some 15, some 16, some 17, some 4, some 5], [[], [], [1], [0, 1, 2], [0, 1, 2, 3], [0, 1, 2, 3, 4], [0, 1, 2, 3, 4, 5]], [[], [], [1], [0, 2], [3], [4], []]⟩ (fun _ => []) (by kernel_rfl) (by kernel_rfl) (by (with_reducible (repeat' (first | assumption | apply jA | apply jB | apply jC | apply jD | apply jE | apply jF | apply hb3 | omega | (simp; done) | (simp; omega) | (dsimp only; omega))))) (fun u => by simp only [putD, Act.put, List.setIfInBounds_toArray, List.set_cons_zero, List.set_cons_succ, Nat.zero_add, Nat.reduceAdd]; rfl) ?_
  apply RGW.on (i := 0) rfl
  · (simp only [gA, gB, gC] <;> rfl)
  · intro γ u W hcur hd
    clear hd
    (try dsimp only)
    refine ⟨rfl, ?_⟩
    go_simp <;> (try go_bits) <;> with_reducible rfl
  · exact fun _ _ _ => rfl
  · rfl
  dsimp only [nA, cA]
  apply RGW.on (i := 1) rfl
  · (simp only [gA, gB, gC] <;> rfl)
  · intro γ u W hcur hd
    clear hd
    (try dsimp only)
    refine ⟨rfl, ?_⟩
    go_simp <;> (try go_bits) <;> with_reducible rfl
  · exact fun _ _ _ => rfl
  · rfl
  dsimp only [nA, cA]
  apply RGW.call (i := 2) rfl
  · (simp only [gA, gB, gC] <;> rfl)
  · intro γ u W hcur hd
    obtain ⟨⟨h1, -, -⟩, -⟩ := hd
    dsimp only at h1
    (try simp only [h1])
    refine ⟨rfl, fun K hK => ?_⟩
    go_simp
    first
    | (go_at_call 111; (with_reducible refine (hso1.out _ (bl_tr hb0 hcur)).mono ?_); rintro e w3 ⟨rfl, rfl⟩)
    | (go_at_call 110; (with_reducible refine (hwo1.out _ (bl_tr hb0 hcur)).mono ?_); rintro e w3 ⟨rfl, hb3⟩; replace hb3 := bl_tt hb3)
    | (go_at_call 87; (with_reducible refine (hli1.out _ (bl_tr hb0 hcur)).mono ?_); rintro e w3 ⟨Ax, cx, rfl, hb3, hox⟩; dsimp only; exact hK.out ⟨0, undef, Ax, cx⟩ _ _ (by simp [up]) hb3 (by simpa [up] using own_sl hox) (by simp))
    (try dsimp only)
    exact hK.out _ _ rfl (by (with_reducible (repeat' (first | assumption | apply jA | apply jB | apply jC | apply jD | apply jE | apply jF | apply hb3 | omega | (simp; done) | (simp; omega) | (dsimp only; omega)))))
  · exact fun _ _ _ => rfl
  · rfl
  dsimp only [nA, cA]
  apply RGW.call (i := 3) rfl
  · (simp only [gA, gB, gC] <;> rfl)
  · intro γ u W hcur hd
    obtain ⟨⟨h0, -, -⟩, ⟨h2, -, -⟩, -⟩ := hd
    dsimp only at h0 h2
    (try simp only [h0, h2])
    refine ⟨rfl, fun K hK => ?_⟩
    go_simp
    first
    | (go_at_call 111; (with_reducible refine (hso1.out _ (bl_tr hb0 hcur)).mono ?_); rintro e w3 ⟨rfl, rfl⟩)
    | (go_at_call 110; (with_reducible refine (hwo1.out _ (bl_tr hb0 hcur)).mono ?_); rintro e w3 ⟨rfl, hb3⟩; replace hb3 := bl_tt hb3)
    | (go_at_call 87; (with_reducible refine (hli1.out _ (bl_tr hb0 hcur)).mono ?_); rintro e w3 ⟨Ax, cx, rfl, hb3, hox⟩; dsimp only; exact hK.out ⟨0, undef, Ax, cx⟩ _ _ (by simp [up]) hb3 (by simpa [up] using own_sl hox) (by simp))
    (try dsimp only)
    exact hK.out _ _ rfl (by (with_reducible (repeat' (first | assumption | apply jA | apply jB | apply jC | apply jD | apply jE | apply jF | apply hb3 | omega | (simp; done) | (simp; omega) | (dsimp only; omega)))))
  · exact fun _ _ _ => rfl
  · rfl
  dsimp only [nA, cA]
  apply RGW.gh (⟨fun γ => .slice (γ 4).A LL.length (γ 4).c, fun γ W => Sl cI 1 W (γ 4).A LL, fun _ => []⟩) (i := 4) rfl
  · (simp only [gA, gB, gC] <;> rfl)
  · intro γ u W hcur hd
    obtain ⟨⟨h3, -, -⟩, -⟩ := hd
    dsimp only at h3
    (try simp only [h3])
    refine ⟨rfl, fun K hK => ?_⟩
    go_simp
    first
    | (go_at_call 111; (with_reducible refine (hso1.out _ (bl_tr hb0 hcur)).mono ?_); rintro e w3 ⟨rfl, rfl⟩)
    | (go_at_call 110; (with_reducible refine (hwo1.out _ (bl_tr hb0 hcur)).mono ?_); rintro e w3 ⟨rfl, hb3⟩; replace hb3 := bl_tt hb3)
    | (go_at_call 87; (with_reducible refine (hli1.out _ (bl_tr hb0 hcur)).mono ?_); rintro e w3 ⟨Ax, cx, rfl, hb3, hox⟩; dsimp only; exact hK.out ⟨0, undef, Ax, cx⟩ _ _ (by simp [up]) hb3 (by simpa [up] using own_sl hox) (by simp))
  · first
    | exact fun _ _ _ => rfl
    | intro γ γ' hg
      try dsimp only
      have e4 := hg 4 (by decide)
      simp only [e4]
      try exact ⟨trivial, fun _ h => h⟩
  · intro γ W W' hbl hR
    first | exact hR.below hbl | exact own_below hR hbl | exact trivial | exact ⟨hR.1.below hbl, hR.2⟩
  · rfl
  dsimp only [nA, cA]
  apply RGW.on (i := 5) rfl
  · (simp only [gA, gB, gC] <;> rfl)
  · intro γ u W hcur hd
    obtain ⟨⟨h4, r4, -⟩, -⟩ := hd
    dsimp only at h4 r4
    (try simp only [h4])
    refine ⟨rfl, ?_⟩
    go_simp <;> (try go_bits) <;> with_reducible rfl
  · first
    | exact fun _ _ _ => rfl
    | intro γ γ' hg
      try dsimp only
      have e4 := hg 4 (by decide)
      simp only [e4]
  · rfl
  dsimp only [nA, cA]
  apply RGW.on (i := 6) rfl
  · (simp only [gA, gB, gC] <;> rfl)
  · intro γ u W hcur hd
    clear hd
    (try dsimp only)
    refine ⟨rfl, ?_⟩
    go_simp <;> (try go_bits) <;> with_reducible rfl
  · first
    | exact fun _ _ _ => rfl
    | intro γ γ' hg
      try dsimp only
      have e4 := hg 4 (by decide)
      simp only [e4]
  · rfl
  dsimp only [nA, cA]
  refine RGW.fin (fun γ u wb hwb hd hdis => ?_)
  obtain ⟨⟨h0, -, -⟩, ⟨h1, -, -⟩, ⟨h2, -, -⟩, ⟨h3, -, -⟩, ⟨h4, r4, b4⟩, ⟨h5, -, -⟩, ⟨h6, -, -⟩, -⟩ := hd
  dsimp only at h0 h1 h2 h3 h4 h5 h6 r4 b4
  clear hdis
  simp only [h0, h1, h2, h3, h4, h5, h6]
  clear h6 h5 h4 h3 h2 h1 h0
  clear u
  simp only [List.map_nil]
  refine PlanW.done ?_
  have hb3 := bl_tt hwb
  have hbb := bl_tr hb0 hwb
  have hs2 := Lib.hid r4
  generalize (γ 4).A = B2 at *
  generalize (γ 4).c = c2 at *
  clear hb0 hb3 r4 hwb hso1 hwo1 hli1
  go_wp2
  go_ret2
  exact ⟨hbb, B2, ⟨c2, rfl⟩, hs2.out⟩
/-! ### The mode. -/
def modeB (needs : List Int) (left : Nat) : Bool := setN needs &&& (18446744073709551615 - left) == 0
set_option maxHeartbeats 2000000 in
theorem c_mode1 (m : Md) (left B : Nat) (w : World) (hm : MdIn m w) (hb : ∀ x ∈ m.r.l, 0 ≤ x ∧ x < 10) (hlt : left < 1024) (kb : Blk w B 132 #[.int .u64 left]) :
    Calls Tryd.prog 113 #[vMd m, .pointer (some ⟨B, 0, none⟩)] w (Ret (.bool (modeB m.r.l left)) w) := by
  have hc := Lib.hid fun W (hb' : Below w.heap.size w W) => c_setOf m.r.l m.r.A m.r.c W (hm.row.sl.below hb') (Nat.le_trans hm.row.len (by decide)) hb
  have hlt2 := setN_lt hb
  have he : Hid (modeB m.r.l left = (setN m.r.l &&& (18446744073709551615 - left) == 0)) := rfl
  clear hm hb
  change Calls Tryd.prog 113 #[.agg #[.string m.name, .slice m.r.A m.r.l.length m.r.c], .pointer (some ⟨B, 0, none⟩)] w _
  rw [he.out]
  generalize setN m.r.l = s at *
  have hand := u64_andNot_nat s left (by omega) (by omega)
  generalize m.r.l.length = n at *
  generalize m.name = nm at *
  generalize m.r.A = rA at *
  generalize m.r.c = rc at *
  generalize 18446744073709551615 - left = u at *
  go_enter Tryd.func113, Tryd.ntmps113
  go_upto_region 1 with fail
  first
  | apply absB2 (w0 := w) (g0 := B) (g1 := w.heap.size)
  | apply absTB2 (w0 := w) (g0 := B) (g1 := w.heap.size)
  | apply absIB2 (w0 := w) (g0 := B) (g1 := w.heap.size)
  iterate 3 (focus ((with_reducible (repeat' (first | assumption | apply jA | apply jB | apply jC | apply jD | apply jE | apply jF | apply hb3 | apply jG | apply jH | apply jI | apply jJ | apply jK | apply hb3x | (apply jL; first | (simp; done) | rfl) | apply jM | apply jN | apply jO | apply jP | apply jQ | apply jR | apply jS | apply jT (hb := hb3 _ (jA _)) | omega | (simp; done) | (simp; omega) | (dsimp only; omega)))); done))
  intro wa hb0' kb' k0'
  (try simp only [List.setIfInBounds_toArray, List.set_cons_zero, List.set_cons_succ] at kb' k0')
  try clear hb3
  try clear hb0
  try clear kb
  try clear k0
  have hb0 := hb0'; clear hb0'
  have kb := kb'; clear kb'
  have k0 := k0'; clear k0'
  have Lkb := kb.later
  have Fkb := kb.laterF
  have Qkb := kb.lt
  have Lk0 := k0.later
  have Fk0 := k0.laterF
  have Qk0 := k0.lt
  refine wp_any (w0 := wa) ⟨[], [], [some 4, some 5, some 6, some 7, some 8, some 9, some 3], [[], [0], [0, 1], [], [0, 1, 2, 3], [0, 1, 2, 3, 4], [0, 1, 2, 3, 4, 5]], [[], [0], [1], [], [2, 3], [4], [5]]⟩ (fun _ => []) (by kernel_rfl) (by kernel_rfl) (by (with_reducible (repeat' (first | assumption | apply jA | apply jB | apply jC | apply jD | apply jE | apply jF | apply hb3 | omega | (simp; done) | (simp; omega) | (dsimp only; omega))))) (fun u => by simp only [putD, Act.put, List.setIfInBounds_toArray, List.set_cons_zero, List.set_cons_succ, Nat.zero_add, Nat.reduceAdd]; rfl) ?_
  apply RGW.on (i := 0) rfl
  · (simp only [gA, gB, gC] <;> rfl)
  · intro γ u W hcur hd
    clear hd
    (try dsimp only)
    refine ⟨rfl, ?_⟩
    go_simp <;> (try go_bits) <;> with_reducible rfl
  · exact fun _ _ _ => rfl
  · rfl
  dsimp only [nA, cA]
  apply RGW.on (i := 1) rfl
  · (simp only [gA, gB, gC] <;> rfl)
  · intro γ u W hcur hd
    obtain ⟨⟨h0, -, -⟩, -⟩ := hd
    dsimp only at h0
    (try simp only [h0])
    refine ⟨rfl, ?_⟩
    go_simp <;> (try go_bits) <;> with_reducible rfl
  · exact fun _ _ _ => rfl
  · rfl
  dsimp only [nA, cA]
  apply RGW.call (i := 2) rfl
  · (simp only [gA, gB, gC] <;> rfl)
  · intro γ u W hcur hd
    obtain ⟨⟨h1, -, -⟩, -⟩ := hd
    dsimp only at h1
    (try simp only [h1])
    refine ⟨rfl, fun K hK => ?_⟩
    go_simp
    (go_at_call 111; (with_reducible refine (hc.out _ (bl_tr hb0 hcur)).mono ?_); rintro e w3 ⟨rfl, rfl⟩)
    (try dsimp only)
    exact hK.out _ _ rfl (by (with_reducible (repeat' (first | assumption | apply jA | apply jB | apply jC | apply jD | apply jE | apply jF | apply hb3 | omega | (simp; done) | (simp; omega) | (dsimp only; omega)))))
  · exact fun _ _ _ => rfl
  · rfl
  dsimp only [nA, cA]
  apply RGW.on (i := 3) rfl
  · (simp only [gA, gB, gC] <;> rfl)
  · intro γ u W hcur hd
    clear hd
    (try dsimp only)
    refine ⟨rfl, ?_⟩
    go_simp <;> (try go_bits) <;> with_reducible rfl
  · exact fun _ _ _ => rfl
  · rfl
  dsimp only [nA, cA]
  apply RGW.on (i := 4) rfl
  · (simp only [gA, gB, gC] <;> rfl)
  · intro γ u W hcur hd
    obtain ⟨⟨h2, -, -⟩, ⟨h3, -, -⟩, -⟩ := hd
    dsimp only at h2 h3
    (try simp only [h2, h3])
    refine ⟨rfl, ?_⟩
    go_simp <;> (try go_bits) <;> with_reducible rfl
  · exact fun _ _ _ => rfl
  · rfl
  dsimp only [nA, cA]
  apply RGW.on (i := 5) rfl
  · (simp only [gA, gB, gC] <;> rfl)
  · intro γ u W hcur hd
    obtain ⟨⟨h4, -, -⟩, -⟩ := hd
    dsimp only at h4
    (try simp only [h4])
    refine ⟨rfl, ?_⟩
    go_simp <;> (try go_bits) <;> with_reducible rfl
  · exact fun _ _ _ => rfl
  · rfl
  dsimp only [nA, cA]
  apply RGW.on (i := 6) rfl
  · (simp only [gA, gB, gC] <;> rfl)
  · intro γ u W hcur hd
    obtain ⟨⟨h5, -, -⟩, -⟩ := hd
    dsimp only at h5
    (try simp only [h5])
    refine ⟨rfl, ?_⟩
    go_simp <;> (try go_bits) <;> with_reducible rfl
  · exact fun _ _ _ => rfl
  · rfl
  dsimp only [nA, cA]
  refine RGW.fin (fun γ u wb hwb hd hdis => ?_)
  obtain ⟨⟨h0, -, -⟩, ⟨h1, -, -⟩, ⟨h2, -, -⟩, ⟨h3, -, -⟩, ⟨h4, -, -⟩, ⟨h5, -, -⟩, ⟨h6, -, -⟩, -⟩ := hd
  dsimp only at h0 h1 h2 h3 h4 h5 h6
  clear hdis
  simp only [h0, h1, h2, h3, h4, h5, h6]
  clear h6 h5 h4 h3 h2 h1 h0
  clear u
  simp only [List.map_nil]
  refine PlanW.done ?_
  have hb3 := bl_tt hwb
  go_wp2
  go_ret
  refine ⟨?_, by (with_reducible (repeat' (first | assumption | apply jA | apply jB | apply jC | apply jD | apply jE | apply jF | apply hb3 | omega | (simp; done) | (simp; omega) | (dsimp only; omega))))⟩
  generalize s &&& u = q
  cases q <;> rfl
end Go.Proofs.YtdlmkblmljhbfaaDoor
namespace Go.Proofs.YtdlmkblmljhbfaaDoor
set_option linter.unusedSimpArgs false
set_option linter.unusedVariables false
open Go.RowKit
set_option maxRecDepth 20000
/-- The block of a slice, if it has one. -/
def ownL (v : Value) : List Nat := v.ownBlock.toList
section
variable {P : Program} {w : World}
theorem run_append_own3 (base : Nat) (t ty e : TypeId) (i : TypeInfo) (z : Value) (size bytes : Nat) (ht : P.underlying t = some (.slice e)) (hi : P.info? e = some i) (hz : i.zero = some z)
    (hsize : i.size = size) (hby : i.bytes = bytes) (hzs : z.cells.size = size) (hsz : 0 < size)
    (v : Value) (n : Nat) (xs : List Value) (hown : w.ownsRow base e size v n xs)
    (a : Addr) (m c : Nat) (news : List Value) (hl : news.length = m * size) (hnews : ∀ j u, news[j]? = some u → w.cell? (a.add j) = some u) (h1 : ∀ u ∈ news, u.oneCell' = true)
    (h63 : n + m ≤ maxLen) (hbytes : (n + m) * bytes ≤ 140737488355328) (hbase : base ≤ w.heap.size) :
    ∃ v' w', (Builtin.append_ #[t, t] ty #[v, .slice (some a) m c]).run P w = .ok v' w' ∧ w'.ownsRow base e size v' (n + m) (xs ++ news) ∧ BX (ownL v) w w' ∧
      ∀ k, v'.ownBlock = some k → v.ownBlock = some k ∨ w.heap.size ≤ k := by
  obtain ⟨v', w', hr, h2, h3, h4⟩ := run_append_own2 (P := P) base t ty e i z size bytes ht hi hz hsize hby hzs hsz v n xs hown a m c news hl hnews h1 h63 hbytes hbase
  refine ⟨v', w', hr, h2, ?_, h4⟩
  rcases hown.2 with ⟨rfl, rfl⟩ | ⟨g, cap, cur, rfl, hbg, hg, hnc, hcm, hcs, htake⟩
  · exact bx_bl _ ⟨h3.os, h3.tape, h3.output, h3.size, fun k hk => h3.block k hk (by simp [Value.ownBlock])⟩
  · subst hsize
    refine ⟨h3.os, h3.tape, h3.output, h3.size, fun k hk hX => h3.block k hk (fun e => hX (by simp [ownL, ← e])), fun b hb t' cs' hk => ?_⟩
    obtain rfl : b = g := by simpa [ownL, Value.ownBlock, eq_comm] using hb
    have hk2 : (Obj.cells cs' t' (0, 0)) = .cells cur e (0, 0) := by
      have : w.heap[b]? = some (.cells cs' t' (0, 0)) := hk
      rw [hg] at this
      injection this with this
      exact this.symm
    injection hk2 with e1 e2 _
    subst e1 e2
    by_cases hroom : n + m ≤ cap
    · have hfit : n * i.size + news.length ≤ cs'.size := by rw [hl, hcs, ← Nat.add_mul]; exact Nat.mul_le_mul_right _ hroom
      have hr2 := run_append_room (P := P) w t ty t' i ht hi b n cap cs' hg a m c news hl hnews h1 hroom hfit
      rw [hr] at hr2
      injection hr2 with e1 e2
      subst e2
      refine ⟨_, setRow_heap w b _ _ _ _ hg, ?_⟩
      simp
      omega
    · have holds : ∀ j u, xs[j]? = some u → w.cell? ((⟨b, 0, none⟩ : Addr).add j) = some u := hown.cells (g := b) rfl
      have hsmall : n + m ≤ 9223372036854775807 := by simp only [maxLen] at h63; omega
      subst hby
      have hr2 := run_append_grow (P := P) w t ty t' i z ht hi hz ⟨b, 0, none⟩ n cap xs hown.1 holds a m c news hl hnews (by omega) (by omega) (growslice_fits (by omega) hbytes)
      rw [hr] at hr2
      injection hr2 with e1 e2
      subst e2
      exact ⟨cs', (bl_al _ (bl_drew (bl_refl w))).block b hk.lt |>.trans hk, rfl⟩
theorem wp_appT {o : Oper} {a : Act} {K : Act → World → Prop} {Q : Exit → Act → World → Prop} (s x : Operand) {t e : TypeId} {i : TypeInfo} {z : Value} {size bytes base g : Nat} (ho : o.op = .call { callee := .builtin .append, args := #[s, x], argTypes := #[t, t] })
    (ht : P.underlying t = some (.slice e)) (hi : P.info? e = some i) (hz : i.zero = some z) (hsize : i.size = size) (hby : i.bytes = bytes) (hzs : z.cells.size = size) (hsz : 0 < size)
    (v : Value) (n : Nat) (xs news : List Value) (hs' : a.eval s = v) (hx : a.eval x = .slice (some ⟨g, 0, none⟩) 1 1) (hown : w.ownsRow base e size v n xs) (hg : Blk w g e news.toArray) (hl : news.length = size) (h1 : ∀ u ∈ news, u.oneCell' = true)
    (h63 : n + 1 ≤ maxLen) (hbytes : (n + 1) * bytes ≤ 140737488355328) (hbase : base ≤ w.heap.size)
    (h : ∀ v' w', w'.ownsRow base e size v' (n + 1) (xs ++ news) → BX (ownL v) w w' → (∀ k, v'.ownBlock = some k → v.ownBlock = some k ∨ w.heap.size ≤ k) → K (a.put o.dst v') w') : o.wp P a w K Q := by
  have hnews : ∀ j u, news[j]? = some u → w.cell? ((⟨g, 0, none⟩ : Addr).add j) = some u := by
    intro j u hj
    have hadd : (⟨g, 0, none⟩ : Addr).add j = ⟨g, j, none⟩ := by unfold Addr.add; split <;> simp_all
    rw [hadd, hg.cell]
    simpa using hj
  obtain ⟨v', w', hr, h2, h3, h4⟩ := run_append_own3 (P := P) base t o.type e i z size bytes ht hi hz hsize hby hzs hsz v n xs hown ⟨g, 0, none⟩ 1 1 news (by rw [hl, Nat.one_mul]) hnews h1 h63 hbytes hbase
  unfold Oper.wp execOp
  simp only [ho, resolve, invoke, builtin, Sem.run_bind, Sem.run_pure, Result.andThen_ok, List.map_toArray, List.map_cons, List.map_nil, hs', hx, hr]
  exact h _ _ h2 h3 h4
end
theorem own_bxT {W W' : World} {base n size : Nat} {e : TypeId} {v : Value} {xs : List Value} {X : List Nat} (h : W.ownsRow base e size v n xs) (hb : BX X W W') (hX : ∀ k, v.ownBlock = some k → k ∉ X) : W'.ownsRow base e size v n xs := by
  refine ⟨h.1, ?_⟩
  rcases h.2 with h1 | ⟨g, cap, cur, rfl, hbg, hg, hnc, hcm, hcs, htake⟩
  · exact .inl h1
  · refine .inr ⟨g, cap, cur, rfl, hbg, ?_, hnc, hcm, hcs, htake⟩
    rw [hb.block g (Array.getElem?_eq_some_iff.1 hg).1 (hX g rfl)]
    exact hg
theorem ownL_ge {w : World} {base n size : Nat} {e : TypeId} {v : Value} {xs : List Value} (h : w.ownsRow base e size v n xs) : ∀ g ∈ ownL v, base ≤ g := fun g hg => by
  unfold ownL at hg
  cases hv : v.ownBlock with
  | none => rw [hv] at hg; simp at hg
  | some k =>
    rw [hv] at hg
    obtain rfl : g = k := by simpa using hg
    exact own_ge h g hv
end Go.Proofs.YtdlmkblmljhbfaaDoor
