/-
  Walk: nets that the laws take.
  How the laws' arguments read, continued: nets.
  Plain and walk: the reference's numbers of a string.
  Walk: the reference's numbers of a string.
  Walk: the reference's cutting of a string at a byte.
  Walk: the reference's indexes of a string.
  Walk: the reference's items of a string.
-/
import Derived.Test.YtbdgblnccjpahaaGreatDoorVStrings4
import Derived.Test.YtbdgblnccjpahaaGreatDoorVStrings2
import Derived.Test.YtbdgblnccjpahaaGreatDoorU4
import Derived.Test.YtbdgblnccjpahaaGreatDoorU7
import Derived.Test.YtbdgblnccjpahaaGreatDoorU1
import Derived.Test.YtbdgblnccjpahaaGreatDoorU6
import Derived.Laws.Strings2
import Derived.Test.YtbdgblnccjpahaaGreatDoorU10
set_option linter.unusedSimpArgs false
set_option linter.unusedVariables false
namespace Go.Proofs.YtbdgblnccjpahaaGreatDoor
open Go.RowKit Go.Shelf
attribute [local go_sem] bl_al bl_drew bl_drewN bl_refl bx_al bx_drew bx_drewN bx_refl
set_option maxRecDepth 20000
/-- A net as an argument lies. -/
structure RwR (r : Rw) (w : World) : Prop where
  cap : r.l.length ≤ r.c
  sl : Sl cI 1 w r.A r.l
structure FuR (f : Fu) (w : World) : Prop where
  nm : f.name.size ≤ maxLen
  cap : f.ws.length ≤ f.c
  sl : Sl cRw 1 w f.A f.ws
  rows : ∀ r ∈ f.ws, RwR r w
structure MdR (m : Md) (w : World) : Prop where
  nm : m.name.size ≤ maxLen
  row : RwR m.r w
structure NtR (n : Nt) (Ap Af Am : Option Addr) (cp cf cm : Nat) (w : World) : Prop where
  pcap : n.ps.length ≤ cp
  fcap : n.fs.length ≤ cf
  mcap : n.ms.length ≤ cm
  psl : Sl cS 1 w Ap n.ps
  fsl : Sl cFu 2 w Af n.fs
  msl : Sl cMd 2 w Am n.ms
  pnm : ∀ s ∈ n.ps, s.size ≤ maxLen
  fin : ∀ f ∈ n.fs, FuR f w
  min : ∀ m ∈ n.ms, MdR m w
def fewP (s : ByteArray) : Bool := decide ((s.size : Int) ≤ 30)
def fewF (f : Fu) : Bool := (fewP f.name && decide ((f.ws.length : Int) ≤ 8)) && f.ws.all fun r : Rw => decide ((r.l.length : Int) ≤ 12)
def fewM (m : Md) : Bool := fewP m.name && decide ((m.r.l.length : Int) ≤ 12)
def fewN (n : Nt) : Bool := (decide ((n.ps.length : Int) ≤ 12) && (decide ((n.fs.length : Int) ≤ 12) && decide ((n.ms.length : Int) ≤ 8))) && (n.ps.all fewP && (n.fs.all fewF && n.ms.all fewM))
theorem few_net {n : Nt} {Ap Af Am : Option Addr} {cp cf cm : Nat} {w : World} (h : NtR n Ap Af Am cp cf cm w) (hf : fewN n = true) : NtIn n Ap Af Am cp cf cm w ∧ n.ps.length ≤ 12 ∧ n.fs.length ≤ 12 ∧ n.ms.length ≤ 8 := by
  unfold fewN at hf
  simp only [Bool.and_eq_true, decide_eq_true_eq, List.all_eq_true] at hf
  obtain ⟨⟨h1, h2, h3⟩, h4, h5, h6⟩ := hf
  refine ⟨⟨by omega, by omega, by omega, h.pcap, h.fcap, h.mcap, h.psl, h.fsl, h.msl, h.pnm, fun f hf => ?_, fun m hm => ?_⟩, by omega, by omega, by omega⟩
  · have h7 := h5 f hf
    unfold fewF at h7
    simp only [Bool.and_eq_true, decide_eq_true_eq, List.all_eq_true] at h7
    have h8 := h.fin f hf
    exact ⟨h8.nm, by omega, h8.cap, h8.sl, fun r hr => ⟨by have := h7.2 r hr; omega, (h8.rows r hr).cap, (h8.rows r hr).sl⟩⟩
  · have h7 := h6 m hm
    unfold fewM at h7
    simp only [Bool.and_eq_true, decide_eq_true_eq] at h7
    have h8 := h.min m hm
    exact ⟨h8.nm, by omega, h8.row.cap, h8.row.sl⟩
set_option maxHeartbeats 0 in
theorem r_few (n : Nt) (Ap Af Am : Option Addr) (cp cf cm : Nat) (w : World) (hn : NtR n Ap Af Am cp cf cm w) :
    Calls Tryz.prog 50 #[vNt Ap Af Am n.ps.length n.fs.length n.ms.length cp cf cm] w (Ret (.bool (fewN n)) w) := by
  have Hn := Lib.hid hn
  have hN : Hid (fewN n = ((decide ((n.ps.length : Int) ≤ 12) && (decide ((n.fs.length : Int) ≤ 12) && decide ((n.ms.length : Int) ≤ 8))) && (n.ps.all fewP && (n.fs.all fewF && n.ms.all fewM)))) := rfl
  have a1 := Lib.hid fun (k : Nat) (x : ByteArray) (hx : n.ps[k]? = some x) => all_drop fewP hx
  have a2 := Lib.hid fun (k : Nat) (x : Fu) (hx : n.fs[k]? = some x) => all_drop fewF hx
  have a3 := Lib.hid fun (k : Nat) (x : Md) (hx : n.ms[k]? = some x) => all_drop fewM hx
  have b1 : Hid ((n.ps.drop n.ps.length).all fewP = true) := Lib.hid (by rw [List.drop_length]; rfl)
  have b2 : Hid ((n.fs.drop n.fs.length).all fewF = true) := Lib.hid (by rw [List.drop_length]; rfl)
  have b3 : Hid ((n.ms.drop n.ms.length).all fewM = true) := Lib.hid (by rw [List.drop_length]; rfl)
  have e1 : Hid (∀ x, fewP x = decide ((x.size : Int) ≤ 30)) := fun _ => rfl
  have e2 : Hid (∀ f : Fu, fewF f = ((decide ((f.name.size : Int) ≤ 30) && decide ((f.ws.length : Int) ≤ 8)) && f.ws.all fun r : Rw => decide ((r.l.length : Int) ≤ 12))) := fun _ => rfl
  have e3 : Hid (∀ m : Md, fewM m = (decide ((m.name.size : Int) ≤ 30) && decide ((m.r.l.length : Int) ≤ 12))) := fun _ => rfl
  obtain ⟨g1, hg⟩ : ∃ g : Nat → Bool, ∀ k, (n.ps.drop k).all fewP = g k := ⟨_, fun _ => rfl⟩
  have e := hg 0
  rw [List.drop_zero] at e
  simp only [hg, e] at a1 b1 hN
  clear hg e
  obtain ⟨g2, hg⟩ : ∃ g : Nat → Bool, ∀ k, (n.fs.drop k).all fewF = g k := ⟨_, fun _ => rfl⟩
  have e := hg 0
  rw [List.drop_zero] at e
  simp only [hg, e] at a2 b2 hN
  clear hg e
  obtain ⟨g3, hg⟩ : ∃ g : Nat → Bool, ∀ k, (n.ms.drop k).all fewM = g k := ⟨_, fun _ => rfl⟩
  have e := hg 0
  rw [List.drop_zero] at e
  simp only [hg, e] at a3 b3 hN
  clear hg e hn
  generalize fewN n = R at *
  change Calls Tryz.prog 50 #[.agg #[.slice Ap n.ps.length cp, .slice Af n.fs.length cf, .slice Am n.ms.length cm]] w _
  obtain ⟨np, Hp⟩ : ∃ k, Hid (n.ps.length = k) := ⟨_, rfl⟩
  obtain ⟨nf, Hf⟩ : ∃ k, Hid (n.fs.length = k) := ⟨_, rfl⟩
  obtain ⟨nm, Hm⟩ : ∃ k, Hid (n.ms.length = k) := ⟨_, rfl⟩
  rw [Hp.out] at hN b1 ⊢
  rw [Hf.out] at hN b2 ⊢
  rw [Hm.out] at hN b3 ⊢
  by_cases q1 : (12 : Int) < np
  · have e := Lib.hid (show R = false by rw [hN.out, decide_eq_false (show ¬ (np : Int) ≤ 12 by omega)]; rfl)
    clear a1 a2 a3 b1 b2 b3 e1 e2 e3 hN
    go_enter Tryz.func50, Tryz.ntmps50
    go_wp2
    go_ret
    exact ⟨by rw [e.out] <;> rfl, by (exact zE)⟩
  by_cases q2 : (12 : Int) < nf
  · have e := Lib.hid (show R = false by rw [hN.out, decide_eq_false (show ¬ (nf : Int) ≤ 12 by omega)]; simp)
    clear a1 a2 a3 b1 b2 b3 e1 e2 e3 hN
    go_enter Tryz.func50, Tryz.ntmps50
    go_wp2
    go_ret
    exact ⟨by rw [e.out] <;> rfl, by (exact zE)⟩
  by_cases q3 : (8 : Int) < nm
  · have e := Lib.hid (show R = false by rw [hN.out, decide_eq_false (show ¬ (nm : Int) ≤ 8 by omega)]; simp)
    clear a1 a2 a3 b1 b2 b3 e1 e2 e3 hN
    go_enter Tryz.func50, Tryz.ntmps50
    go_wp2
    go_ret
    exact ⟨by rw [e.out] <;> rfl, by (exact zE)⟩
  replace hN := Lib.hid (show R = (g1 0 && (g2 0 && g3 0)) by rw [hN.out, decide_eq_true (show (np : Int) ≤ 12 by omega), decide_eq_true (show (nf : Int) ≤ 12 by omega), decide_eq_true (show (nm : Int) ≤ 8 by omega)]; simp)
  have p1 : np ≤ 12 := by omega
  have p2 : nf ≤ 12 := by omega
  have p3 : nm ≤ 8 := by omega
  go_enter Tryz.func50, Tryz.ntmps50
  go_upto_region 1 with fail
  first
  | apply absB1 (w0 := w) (g0 := w.heap.size)
  | apply absTB1 (w0 := w) (g0 := w.heap.size)
  | apply absIB1 (w0 := w) (g0 := w.heap.size)
  iterate 2 (focus exact zL)
  try clear hb3
  try clear hb0
  try clear k0
  intro wa hb0 k0
  (try simp only [List.setIfInBounds_toArray, List.set_cons_zero, List.set_cons_succ] at k0)
  have L0 := k0.cell
  go_wp2
  clear L0 q1 q2 q3
  go_loopw [3] (fun i wr => ∃ k : Nat, k ≤ np ∧ i = .int .i64 k ∧ Below w.heap.size w wr ∧ Blk wr w.heap.size 58 #[.slice Ap np cp, .slice Af nf cf, .slice Am nm cm] ∧ g1 0 = g1 k) (fun i _ => np - (intOf i).toNat)
  case atStart => exact ⟨0, Nat.zero_le _, rfl, hb0, k0, rfl⟩
  case round =>
    clear hb0 k0
    obtain ⟨k, hk, rfl, hb0, k0, hi⟩ := hrel
    replace hi := Lib.hid hi
    have L0 := k0.cell
    by_cases hkn : k < np
    · have hx : n.ps[k]? = some (n.ps[k]'(by rw [Hp.out]; exact hkn)) := List.getElem?_eq_getElem _
      generalize n.ps[k]'(by rw [Hp.out]; exact hkn) = x at hx
      have hd := hi.out.trans (a1.out k x hx)
      rw [e1.out] at hd
      obtain ⟨b, off, rfl, hc⟩ := Hn.out.psl k x hx
      have c0 : wr.cell? ⟨b, off + k, none⟩ = some (.string x) := by simpa using kcell hb0 (hc 0 _ rfl)
      clear hc hx
      by_cases hT : (30 : Int) < x.size
      · have e := Lib.hid (show R = false by rw [hN.out, hd, decide_eq_false (show ¬ (x.size : Int) ≤ 30 by omega)]; rfl)
        clear hd
        go_wp2
        go_ret
        exact ⟨by rw [e.out] <;> rfl, hb0⟩
      · have e := Lib.hid (show g1 0 = g1 (k + 1) by rw [hd, decide_eq_true (show (x.size : Int) ≤ 30 by omega), Bool.true_and])
        clear hd
        go_wp2
        go_roundw
        case rel => exact ⟨k + 1, by omega, by go_num, hb0, k0, e.out⟩
        case measure => simp [intOf]; omega
    obtain rfl : np = k := by omega
    replace hN := Lib.hid (show R = (g2 0 && g3 0) by rw [hN.out, hi.out, b1.out, Bool.true_and])
    clear hi a1 b1 hkn hk
    go_wp2
    clear L0
    go_loopw [4] (fun i wr => ∃ k : Nat, k ≤ nf ∧ i = .int .i64 k ∧ Below w.heap.size w wr ∧ Blk wr w.heap.size 58 #[.slice Ap np cp, .slice Af nf cf, .slice Am nm cm] ∧ g2 0 = g2 k) (fun i _ => nf - (intOf i).toNat)
    case atStart => exact ⟨0, Nat.zero_le _, rfl, hb0, k0, rfl⟩
    case round =>
      clear hb0 k0
      obtain ⟨k, hk, rfl, hb0, k0, hi⟩ := hrel
      replace hi := Lib.hid hi
      have L0 := k0.cell
      by_cases hkn : k < nf
      · have hx : n.fs[k]? = some (n.fs[k]'(by rw [Hf.out]; exact hkn)) := List.getElem?_eq_getElem _
        generalize n.fs[k]'(by rw [Hf.out]; exact hkn) = f at hx
        have hd := hi.out.trans (a2.out k f hx)
        rw [e2.out] at hd
        have hfi := Lib.hid (Hn.out.fin f (List.mem_of_getElem? hx))
        obtain ⟨b, off, rfl, hc⟩ := Hn.out.fsl k f hx
        have c0 : wr.cell? ⟨b, off + k * 2, none⟩ = some (.string f.name) := by simpa using kcell hb0 (hc 0 _ rfl)
        have c1 : wr.cell? ⟨b, off + k * 2 + 1, none⟩ = some (.slice f.A f.ws.length f.c) := kcell hb0 (hc 1 _ rfl)
        have an := Lib.hid fun (m : Nat) (r : Rw) (hr : f.ws[m]? = some r) => all_drop (fun r : Rw => decide ((r.l.length : Int) ≤ 12)) hr
        have az : Hid ((f.ws.drop f.ws.length).all (fun r : Rw => decide ((r.l.length : Int) ≤ 12)) = true) := Lib.hid (by rw [List.drop_length]; rfl)
        obtain ⟨u, hu⟩ : ∃ u : Nat → Bool, ∀ m, (f.ws.drop m).all (fun r : Rw => decide ((r.l.length : Int) ≤ 12)) = u m := ⟨_, fun _ => rfl⟩
        have e := hu 0
        rw [List.drop_zero] at e
        simp only [hu] at an az
        rw [e] at hd
        replace hd := Lib.hid hd
        clear hc hx hu e
        obtain ⟨nw, Hw⟩ : ∃ k, Hid (f.ws.length = k) := ⟨_, rfl⟩
        rw [Hw.out] at c1 hd az
        generalize hfs : f.name.size = fz at *
        replace hfs := Lib.hid hfs
        generalize hfA : f.A = fA at *
        replace hfA := Lib.hid hfA
        generalize f.c = fc at *
        go_upto_region 12 with fail
        have k1 := Blk.new wr 144 #[.string f.name, .slice fA nw fc]
        replace k0 := k0.alloc (.cells #[.string f.name, .slice fA nw fc] 144)
        replace hb0 := bl_al (.cells #[.string f.name, .slice fA nw fc] 144) hb0
        clear c0 c1 L0
        generalize wr.alloc (.cells #[.string f.name, .slice fA nw fc] 144) = wb at *
        generalize hg1 : wr.heap.size = gF at *
        clear hg1
        have L1 := k1.cell
        have hfz := hfs.out
        by_cases hT : (30 : Int) < fz
        · have e := Lib.hid (show R = false by rw [hN.out, hd.out, decide_eq_false (show ¬ (fz : Int) ≤ 30 by omega)]; rfl)
          have hT2 : (30 : Int) < f.name.size := by omega
          clear hfz
          go_wp2
          go_ret
          exact ⟨by rw [e.out] <;> rfl, hb0⟩
        have hT2 : ¬ (30 : Int) < f.name.size := by omega
        clear hfz
        by_cases hW : (8 : Int) < nw
        · have e := Lib.hid (show R = false by rw [hN.out, hd.out, decide_eq_true (show (fz : Int) ≤ 30 by omega), decide_eq_false (show ¬ (nw : Int) ≤ 8 by omega)]; rfl)
          go_wp2
          go_ret
          exact ⟨by rw [e.out] <;> rfl, hb0⟩
        replace hd := Lib.hid (show g2 0 = (u 0 && g2 (k + 1)) by rw [hd.out, decide_eq_true (show (fz : Int) ≤ 30 by omega), decide_eq_true (show (nw : Int) ≤ 8 by omega)]; rfl)
        have hW2 : nw ≤ 8 := by omega
        go_wp2
        clear L1 hT hT2 hW
        go_loopw [6] (fun i wi => ∃ m : Nat, m ≤ nw ∧ i = .int .i64 m ∧ Below w.heap.size w wi ∧ Blk wi w.heap.size 58 #[.slice Ap np cp, .slice (some ⟨b, off, none⟩) nf cf, .slice Am nm cm] ∧ Blk wi gF 144 #[.string f.name, .slice fA nw fc] ∧ u 0 = u m) (fun i _ => nw - (intOf i).toNat)
        case atStart => exact ⟨0, Nat.zero_le _, rfl, hb0, k0, k1, rfl⟩
        case round =>
          clear hb0 k0 k1
          obtain ⟨m, hm, rfl, hb0, k0, k1, hum⟩ := hrel
          replace hum := Lib.hid hum
          have L0 := k0.cell
          have L1 := k1.cell
          by_cases hmn : m < nw
          rotate_left
          · obtain rfl : nw = m := by omega
            have e := Lib.hid (show g2 0 = g2 (k + 1) by rw [hd.out, hum.out, az.out, Bool.true_and])
            clear hd hum az an
            go_wp2
            go_roundw
            case rel => exact ⟨k + 1, by omega, by go_num, hb0, k0, e.out⟩
            case measure => simp [intOf]; omega
          have hx : f.ws[m]? = some (f.ws[m]'(by rw [Hw.out]; exact hmn)) := List.getElem?_eq_getElem _
          generalize f.ws[m]'(by rw [Hw.out]; exact hmn) = r at hx
          obtain ⟨b3, o3, e3, hc3⟩ := hfi.out.sl m r hx
          rw [hfA.out] at e3
          subst e3
          have c2 : wr.cell? ⟨b3, o3 + m, none⟩ = some (.slice r.A r.l.length r.c) := by simpa using kcell hb0 (hc3 0 _ rfl)
          have hun := hum.out.trans (an.out m r hx)
          clear hc3 hx
          generalize r.l.length = rl at *
          by_cases hR : (12 : Int) < rl
          · have e := Lib.hid (show R = false by rw [hN.out, hd.out, hun, decide_eq_false (show ¬ (rl : Int) ≤ 12 by omega)]; rfl)
            clear hun
            go_wp2
            go_ret
            exact ⟨by rw [e.out] <;> rfl, hb0⟩
          · have e := Lib.hid (show u 0 = u (m + 1) by rw [hun, decide_eq_true (show (rl : Int) ≤ 12 by omega), Bool.true_and])
            clear hun
            go_wp2
            go_roundw
            case rel => exact ⟨m + 1, by omega, by go_num, hb0, k0, k1, e.out⟩
            case measure => simp [intOf]; omega
      obtain rfl : nf = k := by omega
      replace hN := Lib.hid (show R = g3 0 by rw [hN.out, hi.out, b2.out, Bool.true_and])
      clear hi a2 b2 hkn hk
      go_wp2
      clear L0
      go_loopw [7] (fun i wr => ∃ k : Nat, k ≤ nm ∧ i = .int .i64 k ∧ Below w.heap.size w wr ∧ Blk wr w.heap.size 58 #[.slice Ap np cp, .slice Af nf cf, .slice Am nm cm] ∧ g3 0 = g3 k) (fun i _ => nm - (intOf i).toNat)
      case atStart => exact ⟨0, Nat.zero_le _, rfl, hb0, k0, rfl⟩
      case round =>
        clear hb0 k0
        obtain ⟨k, hk, rfl, hb0, k0, hi⟩ := hrel
        replace hi := Lib.hid hi
        have L0 := k0.cell
        by_cases hkn : k < nm
        rotate_left
        · obtain rfl : nm = k := by omega
          have e := Lib.hid (show R = true by rw [hN.out, hi.out, b3.out])
          go_wp2
          go_ret
          exact ⟨by rw [e.out] <;> rfl, hb0⟩
        have hx : n.ms[k]? = some (n.ms[k]'(by rw [Hm.out]; exact hkn)) := List.getElem?_eq_getElem _
        generalize n.ms[k]'(by rw [Hm.out]; exact hkn) = f at hx
        have hd := hi.out.trans (a3.out k f hx)
        rw [e3.out] at hd
        obtain ⟨b, off, rfl, hc⟩ := Hn.out.msl k f hx
        have c0 : wr.cell? ⟨b, off + k * 2, none⟩ = some (.string f.name) := by simpa using kcell hb0 (hc 0 _ rfl)
        have c1 : wr.cell? ⟨b, off + k * 2 + 1, none⟩ = some (.slice f.r.A f.r.l.length f.r.c) := kcell hb0 (hc 1 _ rfl)
        clear hc hx
        generalize f.r.l.length = rl at *
        by_cases hT : (30 : Int) < f.name.size
        · have e := Lib.hid (show R = false by rw [hN.out, hd, decide_eq_false (show ¬ (f.name.size : Int) ≤ 30 by omega)]; rfl)
          clear hd
          go_wp2
          go_ret
          exact ⟨by rw [e.out] <;> rfl, hb0⟩
        by_cases hR : (12 : Int) < rl
        · have e := Lib.hid (show R = false by rw [hN.out, hd, decide_eq_true (show (f.name.size : Int) ≤ 30 by omega), decide_eq_false (show ¬ (rl : Int) ≤ 12 by omega)]; rfl)
          clear hd
          go_wp2
          go_ret
          exact ⟨by rw [e.out] <;> rfl, hb0⟩
        · have e := Lib.hid (show g3 0 = g3 (k + 1) by rw [hd, decide_eq_true (show (f.name.size : Int) ≤ 30 by omega), decide_eq_true (show (rl : Int) ≤ 12 by omega)]; rfl)
          clear hd
          go_wp2
          go_roundw
          case rel => exact ⟨k + 1, by omega, by go_num, hb0, k0, e.out⟩
          case measure => simp [intOf]; omega
end Go.Proofs.YtbdgblnccjpahaaGreatDoor
namespace Go.Proofs.YtbdgblnccjpahaaGreatDoor
open Go.ChangeShapes Go.WideShapes Go.ChangeAt Go.RowKit Go.Deep
set_option maxRecDepth 20000
theorem cRw1 : Tryz.prog.cellsOf 23 = 1 := by kernel_rfl
theorem cTx1 : Tryz.prog.cellsOf 9 = 1 := by kernel_rfl
theorem cTs1 : Tryz.prog.cellsOf 54 = 1 := by kernel_rfl
theorem cWs1 : Tryz.prog.cellsOf 53 = 1 := by kernel_rfl
theorem cFs1 : Tryz.prog.cellsOf 55 = 1 := by kernel_rfl
theorem cMm1 : Tryz.prog.cellsOf 56 = 1 := by kernel_rfl
theorem cFu2 : Tryz.prog.cellsOf 144 = 2 := by kernel_rfl
theorem cMd2 : Tryz.prog.cellsOf 146 = 2 := by kernel_rfl
theorem cNt3 : Tryz.prog.cellsOf 58 = 3 := by kernel_rfl
section
variable {H : Type} {enc : TypeId × Value → H} {w : World} {base : Nat} {spare : Nat → Bool} {held : Bool} {fuel : Nat} {cs : List Value} {y : DataW H × List MemPlace}
theorem rd_Txs (h : DataW.trod enc Tryz.prog w base spare held fuel 54 cs = some y) : ∃ A c, ∃ l : List ByteArray, cs = [.slice A l.length c] ∧ l.length ≤ c ∧ c ≤ maxLen ∧ Sl cS 1 w A l ∧ ∀ s ∈ l, s.size ≤ maxLen :=
  rd_slice (c := cS) (ok := fun s : ByteArray => s.size ≤ maxLen) Tryz.underlying54 cTx1 (by decide) (fun _ => rfl) (fun _ _ _ hz => by obtain ⟨s, e, -, hs⟩ := DataW.trod_string Tryz.underlying9 hz; exact ⟨s, e, hs⟩) h
end
end Go.Proofs.YtbdgblnccjpahaaGreatDoor
namespace Go.Proofs.YtbdgblnccjpahaaGreatDoor
open Go.RowKit
attribute [local go_sem] bl_al bl_drew bl_drewN bl_refl bx_al bx_drew bx_drewN bx_refl
set_option maxRecDepth 20000
/-- The number that digits are, behind what is there already. -/
def decL : Nat → List UInt8 → Option Nat
  | a, [] => some a
  | a, x :: r => if dig x then decL (10 * a + (x.toNat - 48)) r else none
/-- Where the digits begin. -/
def sgn (l : List UInt8) : Nat := if l[0]? = some 45 then 1 else 0
def numBad (l : List UInt8) (d : Nat) : Bool := decide (l.length = sgn l) || decide (d < l.length - sgn l) || (decide (l[sgn l]? = some 48) && decide (1 < l.length))
def numR (l : List UInt8) (d : Nat) : Int × Bool :=
  if numBad l d then (0, false) else match decL 0 (l.drop (sgn l)) with
    | none => (0, false)
    | some n => (if sgn l = 1 then -(n : Int) else n, true)
theorem d45 : dig 45 = false := by decide
/-- A number of at most two digits, as both sides read it. -/
theorem numR_nat : ∀ l : List UInt8, ((numR l 2).2 && decide (0 ≤ (numR l 2).1)) = (natS l).isSome ∧ ∀ n, natS l = some n → (numR l 2).1 = n
  | [] => by simp [numR, numBad, sgn, natS]
  | [a] => by
    by_cases h : a = 45
    · subst h; simp [numR, numBad, sgn, natS, dig]
    · by_cases hd : dig a = true
      · simp [numR, numBad, sgn, natS, h, hd, decL]
      · simp [numR, numBad, sgn, natS, h, hd, decL]
  | [a, b] => by
    by_cases h : a = 45
    · subst h
      by_cases hb : b = 48
      · subst hb
        simp [numR, numBad, sgn, natS, dig]
      · by_cases hd : dig b = true
        · have h1 : 48 < b.toNat := by
            have h2 : b.toNat ≠ 48 := fun e => hb (UInt8.toNat_inj.1 e)
            simp [dig] at hd
            omega
          simp [numR, numBad, sgn, natS, hb, hd, decL, d45]
          omega
        · simp [numR, numBad, sgn, natS, hb, hd, decL, d45]
    · by_cases h0 : a = 48
      · subst h0
        simp [numR, numBad, sgn, natS]
      · have h1 : a.toNat ≠ 48 := fun e => h0 (UInt8.toNat_inj.1 e)
        by_cases hd : dig a = true
        · by_cases he : dig b = true
          · simp [numR, numBad, sgn, natS, h, h0, hd, he, decL, h1]
            constructor <;> omega
          · simp [numR, numBad, sgn, natS, h, h0, hd, he, decL]
        · simp [numR, numBad, sgn, natS, h, h0, hd, decL]
  | a :: b :: c :: r => by
    have hn : natS (a :: b :: c :: r) = none := rfl
    rw [hn]
    refine ⟨?_, fun n h => by cases h⟩
    by_cases h : a = 45
    · subst h
      cases r with
      | nil =>
        by_cases hb : b = 48
        · subst hb
          simp [numR, numBad, sgn]
        · by_cases hd : dig b = true
          · have h1 : 48 < b.toNat := by
              have h2 : b.toNat ≠ 48 := fun e => hb (UInt8.toNat_inj.1 e)
              simp [dig] at hd
              omega
            by_cases he : dig c = true
            · simp [numR, numBad, sgn, hb, hd, he, decL]
              omega
            · simp [numR, numBad, sgn, hb, hd, he, decL]
          · simp [numR, numBad, sgn, hb, hd, decL]
      | cons x r => simp [numR, numBad, sgn]
    · simp [numR, numBad, sgn, h]
theorem decL_drop (a : Nat) (l : List UInt8) (k : Nat) (x : UInt8) (hx : l[k]? = some x) : decL a (l.drop k) = if dig x then decL (10 * a + (x.toNat - 48)) (l.drop (k + 1)) else none := by
  have hk := (List.getElem?_eq_some_iff.1 hx).1
  rw [List.drop_eq_getElem_cons hk, (List.getElem?_eq_some_iff.1 hx).2]
  rfl
end Go.Proofs.YtbdgblnccjpahaaGreatDoor
namespace Go.Proofs.YtbdgblnccjpahaaGreatDoor
open Go.RowKit Go.Shelf
attribute [local go_sem] bl_al bl_drew bl_drewN bl_refl bx_al bx_drew bx_drewN bx_refl
set_option maxRecDepth 20000
theorem sgn_le (l : List UInt8) : sgn l ≤ 1 ∧ sgn l ≤ l.length := by
  unfold sgn
  split
  · rename_i h
    have := (List.getElem?_eq_some_iff.1 h).1
    exact ⟨Nat.le_refl _, by omega⟩
  · exact ⟨by omega, by omega⟩
set_option maxHeartbeats 4000000 in
theorem r_Number (l : List UInt8) (w : World) (hl : l.length ≤ 100000) : Calls Tryz.prog 152 #[.string ⟨l.toArray⟩, .int .i64 2] w (Ret (.tuple #[.int .i64 (numR l 2).1, .bool (numR l 2).2]) w) := by
  by_cases h0 : l = []
  · subst h0
    have e : numR [] 2 = (0, false) := by decide +kernel
    rw [e]
    go_enter Tryz.func152, Tryz.ntmps152
    go_wp2
    go_ret2
    exact ⟨rfl, bl_refl _⟩
  obtain ⟨s, hs⟩ : ∃ s, Hid (sgn l = s) := ⟨_, rfl⟩
  have hs1 := (sgn_le l).1
  have hs2 := (sgn_le l).2
  rw [hs.out] at hs1 hs2
  have hL0 : 0 < l.length := List.length_pos_iff.2 h0
  obtain ⟨c0, hc0⟩ : ∃ c, l[0] = c := ⟨_, rfl⟩
  have hq0 : l[0]? = some c0 := by rw [List.getElem?_eq_getElem hL0, hc0]
  have hks0 : 0 < (ByteArray.mk l.toArray).size := hL0
  have hget0 : ((ByteArray.mk l.toArray)[0]'hks0) = c0 := hc0
  have hsE : s = if c0 = 45 then 1 else 0 := by rw [← hs.out, sgn, hq0]; by_cases h : c0 = 45 <;> simp [h]
  have hbad := Lib.hid (show numBad l 2 = (decide (l.length = s) || decide (2 < l.length - s) || (decide (l[s]? = some 48) && decide (1 < l.length))) by rw [numBad, hs.out])
  have hnum1 := Lib.hid fun (h : numBad l 2 = true) => (show numR l 2 = (0, false) by rw [numR, if_pos h])
  have hnumN := Lib.hid fun (h : numBad l 2 = false) (h2 : decL 0 (l.drop s) = none) => (show numR l 2 = (0, false) by rw [numR, if_neg (by rw [h]; decide), hs.out, h2])
  have hnumS := Lib.hid fun (h : numBad l 2 = false) n (h2 : decL 0 (l.drop s) = some n) => (show numR l 2 = (if s = 1 then -(n : Int) else n, true) by rw [numR, if_neg (by rw [h]; decide), hs.out, h2])
  have hdrop := Lib.hid fun a k x (hx : l[k]? = some x) => decL_drop a l k x hx
  have hend : Hid (l.drop l.length = []) := Lib.hid (by simp)
  replace h0 := Lib.hid h0
  clear hs
  have hI0 : (0 : Int) < l.length := by omega
  have hcm := c0.toNat_lt
  by_cases h45 : c0 = 45
  · subst h45
    rw [if_pos rfl] at hsE
    subst hsE
    go_enter Tryz.func152, Tryz.ntmps152
    go_upto_region 4 with fail
    by_cases b1 : l.length = 1
    · have hr := Lib.hid (hnum1.out (by rw [hbad.out, b1]; simp))
      have b1' : ((l.length : Int) == 1) = true := by rw [beq_iff_eq]; omega
      clear hbad hnum1 hnumN hnumS hdrop
      generalize numR l 2 = R at *
      go_wp2
      go_ret2
      exact ⟨by rw [hr.out] <;> rfl, bl_refl _⟩
    have b1' : ((l.length : Int) == 1) = false := by rw [beq_eq_false_iff_ne]; omega
    have hS : 1 < l.length := by omega
    have hSI : (1 : Int) < l.length := by omega
    obtain ⟨c1, hc1⟩ : ∃ c, l[1]'hS = c := ⟨_, rfl⟩
    have hq1 : l[1]? = some c1 := by rw [List.getElem?_eq_getElem hS, hc1]
    have hks1 : 1 < (ByteArray.mk l.toArray).size := hS
    have hget1 : ((ByteArray.mk l.toArray)[1]'hks1) = c1 := hc1
    have hcm1 := c1.toNat_lt
    by_cases b2 : 2 < l.length - 1
    · have hr := Lib.hid (hnum1.out (by rw [hbad.out]; simp only [Bool.or_eq_true, decide_eq_true_eq]; exact .inl (.inr b2)))
      have b2' : (2 : Int) < (l.length : Int) - 1 := by omega
      have b2'' : (2 : Int) < (l.length : Int) := by omega
      clear hbad hnum1 hnumN hnumS hdrop
      generalize numR l 2 = R at *
      go_wp2
      go_ret2
      exact ⟨by rw [hr.out] <;> rfl, bl_refl _⟩
    have b2' : ¬ (2 : Int) < (l.length : Int) - 1 := by omega
    have b2'' : (l.length : Int) - 1 ≤ 2 := by omega
    by_cases b3 : c1 = 48 ∧ 1 < l.length
    · have hr := Lib.hid (hnum1.out (by rw [hbad.out, hq1, b3.1]; simp [b3.2]))
      have b4' : (1 : Int) < (l.length : Int) := by have := b3.2; omega
      have b3' : ((c1.toNat : Int) == 48) = true := by rw [b3.1]; rfl
      clear hbad hnum1 hnumN hnumS hdrop
      generalize numR l 2 = R at *
      replace b3 := Lib.hid b3
      go_wp2
      go_ret2
      exact ⟨by rw [hr.out] <;> rfl, bl_refl _⟩
    have hb := Lib.hid (show numBad l 2 = false by
      rw [hbad.out, hq1]
      simp only [Option.some.injEq, Bool.or_eq_false_iff, Bool.and_eq_false_iff, decide_eq_false_iff_not]
      refine ⟨⟨b1, b2⟩, ?_⟩
      by_cases h : c1 = 48
      · exact .inr fun h2 => b3 ⟨h, h2⟩
      · exact .inl h)
    have hor : (c1 ≠ 48) ∨ (c1 = 48 ∧ ¬ 1 < l.length) := by
      by_cases h : c1 = 48
      · exact .inr ⟨h, fun h2 => b3 ⟨h, h2⟩⟩
      · exact .inl h
    rcases hor with b4 | ⟨b4, b5⟩
    case' inl => have b3' : ((c1.toNat : Int) == 48) = false := by
                  rw [beq_eq_false_iff_ne]
                  intro h
                  apply b4
                  exact UInt8.toNat_inj.1 (by have : (48 : UInt8).toNat = 48 := rfl; omega)
    case' inr =>
      have b3' : ((c1.toNat : Int) == 48) = true := by rw [b4]; rfl
      have b5' : ¬ (1 : Int) < (l.length : Int) := by omega
      exact absurd hS b5
    all_goals
      have hN := Lib.hid (hnumN.out hb.out)
      have hSm := Lib.hid fun n h => hnumS.out hb.out n h
      obtain ⟨D0, hD0⟩ : ∃ D, Hid (decL 0 (l.drop 1) = D) := ⟨_, rfl⟩
      rw [hD0.out] at hN hSm
      clear hbad hnum1 hnumN hnumS hb
      generalize numR l 2 = R at *
      replace b3 := Lib.hid b3
      replace b4 := Lib.hid b4
      go_wp2
      go_loopw [7, 8] (fun n i wr => ∃ (a k : Nat), 1 ≤ k ∧ k ≤ l.length ∧ i = .int .i64 k ∧ n = .int .i64 a ∧ Hid (decL a (l.drop k) = D0) ∧ a < 10 ^ (k - 1) ∧ Below w.heap.size w wr) (fun _ i _ => l.length - (intOf i).toNat)
      case atStart => exact ⟨0, 1, Nat.le_refl _, by omega, rfl, rfl, hD0, by simp, bl_refl _⟩
      case round =>
        obtain ⟨a, k, hk0, hk1, rfl, rfl, hdec, ha, hbw⟩ := hrel
        have ha2 : a < 100 := Nat.lt_of_lt_of_le ha (Nat.pow_le_pow_right (n := 10) (by decide) (show k - 1 ≤ 2 by omega))
        by_cases hkn : k < l.length
        rotate_left
        · obtain rfl : k = l.length := by omega
          rw [hend.out] at hdec
          have hD1 : Hid (D0 = some a) := Lib.hid hdec.out.symm
          have hr := Lib.hid (hSm.out a hD1.out)
          go_wp2
          go_ret2
          exact ⟨by rw [hr.out] <;> rfl, hbw⟩
        · obtain ⟨x, hx⟩ : ∃ x, l[k] = x := ⟨_, rfl⟩
          have hx2 : l[k]? = some x := by rw [List.getElem?_eq_getElem hkn, hx]
          have hks : k < (ByteArray.mk l.toArray).size := hkn
          have hget : ((ByteArray.mk l.toArray)[k]'hks) = x := hx
          have hxm := x.toNat_lt
          have hkn2 : (k : Int) < l.length := by omega
          have hst := hdrop.out a k x hx2
          rw [hst] at hdec
          by_cases hdx : dig x = true
          · rw [if_pos hdx] at hdec
            simp only [dig, Bool.and_eq_true, decide_eq_true_eq] at hdx
            have g1 : ¬ (x.toNat : Int) < 48 := by omega
            have g2 : ¬ (57 : Int) < (x.toNat : Int) := by omega
            obtain ⟨y, hy⟩ : ∃ y, x.toNat - 48 = y := ⟨_, rfl⟩
            rw [hy] at hdec
            have hy2 : (x.toNat : Int) - 48 = (y : Int) := by omega
            have hy3 : y ≤ 9 := by omega
            clear hst
            go_wp2
            go_roundw
            case rel => exact ⟨10 * a + y, k + 1, by omega, by omega, by go_num, by first | (simp [hy2]; done) | (simp; omega), hdec, by rw [show k + 1 - 1 = (k - 1) + 1 by omega, Nat.pow_succ]; omega, hbw⟩
            case measure => simp [intOf]; omega
          · have hD1 : Hid (D0 = none) := Lib.hid (by rw [← hdec.out, if_neg hdx])
            have hr := Lib.hid (hN.out hD1.out)
            have hdx2 : x.toNat < 48 ∨ 57 < x.toNat := by
              simp only [dig, Bool.and_eq_true, decide_eq_true_eq] at hdx
              omega
            clear hst hdec
            by_cases g1 : x.toNat < 48
            · have g1' : (x.toNat : Int) < 48 := by omega
              replace hdx := Lib.hid hdx
              replace hdx2 := Lib.hid hdx2
              go_wp2
              go_ret2
              exact ⟨by rw [hr.out] <;> rfl, hbw⟩
            · have g1' : ¬ (x.toNat : Int) < 48 := by omega
              have g2' : (57 : Int) < (x.toNat : Int) := by omega
              replace hdx := Lib.hid hdx
              replace hdx2 := Lib.hid hdx2
              go_wp2
              go_ret2
              exact ⟨by rw [hr.out] <;> rfl, hbw⟩
  · have hne : ((c0.toNat : Int) == 45) = false := by
      rw [beq_eq_false_iff_ne]
      intro h
      apply h45
      exact UInt8.toNat_inj.1 (by have : (45 : UInt8).toNat = 45 := rfl; omega)
    rw [if_neg h45] at hsE
    subst hsE
    replace h45 := Lib.hid h45
    go_enter Tryz.func152, Tryz.ntmps152
    go_upto_region 4 with fail
    by_cases b1 : l.length = 0
    · have hr := Lib.hid (hnum1.out (by rw [hbad.out, b1]; simp))
      have b1' : ((l.length : Int) == 0) = true := by rw [beq_iff_eq]; omega
      clear hbad hnum1 hnumN hnumS hdrop
      generalize numR l 2 = R at *
      go_wp2
      go_ret2
      exact ⟨by rw [hr.out] <;> rfl, bl_refl _⟩
    have b1' : ((l.length : Int) == 0) = false := by rw [beq_eq_false_iff_ne]; omega
    have hS : 0 < l.length := by omega
    have hSI : (0 : Int) < l.length := by omega
    obtain ⟨c1, hc1⟩ : ∃ c, l[0]'hS = c := ⟨_, rfl⟩
    have hq1 : l[0]? = some c1 := by rw [List.getElem?_eq_getElem hS, hc1]
    have hks1 : 0 < (ByteArray.mk l.toArray).size := hS
    have hget1 : ((ByteArray.mk l.toArray)[0]'hks1) = c1 := hc1
    have hcm1 := c1.toNat_lt
    obtain rfl : c1 = c0 := hc1.symm.trans hc0
    clear hget1 hks1 hq1 hc1
    have hq1 := hq0
    by_cases b2 : 2 < l.length - 0
    · have hr := Lib.hid (hnum1.out (by rw [hbad.out]; simp only [Bool.or_eq_true, decide_eq_true_eq]; exact .inl (.inr b2)))
      have b2' : (2 : Int) < (l.length : Int) - 0 := by omega
      have b2'' : (2 : Int) < (l.length : Int) := by omega
      clear hbad hnum1 hnumN hnumS hdrop
      generalize numR l 2 = R at *
      go_wp2
      go_ret2
      exact ⟨by rw [hr.out] <;> rfl, bl_refl _⟩
    have b2' : ¬ (2 : Int) < (l.length : Int) - 0 := by omega
    have b2'' : (l.length : Int) - 0 ≤ 2 := by omega
    by_cases b3 : c1 = 48 ∧ 1 < l.length
    · have hr := Lib.hid (hnum1.out (by rw [hbad.out, hq1, b3.1]; simp [b3.2]))
      have b4' : (1 : Int) < (l.length : Int) := by have := b3.2; omega
      have b3' : ((c1.toNat : Int) == 48) = true := by rw [b3.1]; rfl
      clear hbad hnum1 hnumN hnumS hdrop
      generalize numR l 2 = R at *
      replace b3 := Lib.hid b3
      go_wp2
      go_ret2
      exact ⟨by rw [hr.out] <;> rfl, bl_refl _⟩
    have hb := Lib.hid (show numBad l 2 = false by
      rw [hbad.out, hq1]
      simp only [Option.some.injEq, Bool.or_eq_false_iff, Bool.and_eq_false_iff, decide_eq_false_iff_not]
      refine ⟨⟨b1, b2⟩, ?_⟩
      by_cases h : c1 = 48
      · exact .inr fun h2 => b3 ⟨h, h2⟩
      · exact .inl h)
    have hor : (c1 ≠ 48) ∨ (c1 = 48 ∧ ¬ 1 < l.length) := by
      by_cases h : c1 = 48
      · exact .inr ⟨h, fun h2 => b3 ⟨h, h2⟩⟩
      · exact .inl h
    rcases hor with b4 | ⟨b4, b5⟩
    case' inl => have b3' : ((c1.toNat : Int) == 48) = false := by
                  rw [beq_eq_false_iff_ne]
                  intro h
                  apply b4
                  exact UInt8.toNat_inj.1 (by have : (48 : UInt8).toNat = 48 := rfl; omega)
    case' inr =>
      have b3' : ((c1.toNat : Int) == 48) = true := by rw [b4]; rfl
      have b5' : ¬ (1 : Int) < (l.length : Int) := by omega
    all_goals
      have hN := Lib.hid (hnumN.out hb.out)
      have hSm := Lib.hid fun n h => hnumS.out hb.out n h
      obtain ⟨D0, hD0⟩ : ∃ D, Hid (decL 0 (l.drop 0) = D) := ⟨_, rfl⟩
      rw [hD0.out] at hN hSm
      clear hbad hnum1 hnumN hnumS hb
      generalize numR l 2 = R at *
      replace b3 := Lib.hid b3
      replace b4 := Lib.hid b4
      go_wp2
      go_loopw [7, 8] (fun n i wr => ∃ (a k : Nat), 0 ≤ k ∧ k ≤ l.length ∧ i = .int .i64 k ∧ n = .int .i64 a ∧ Hid (decL a (l.drop k) = D0) ∧ a < 10 ^ (k - 0) ∧ Below w.heap.size w wr) (fun _ i _ => l.length - (intOf i).toNat)
      case atStart => exact ⟨0, 0, Nat.le_refl _, by omega, rfl, rfl, hD0, by simp, bl_refl _⟩
      case round =>
        obtain ⟨a, k, hk0, hk1, rfl, rfl, hdec, ha, hbw⟩ := hrel
        have ha2 : a < 100 := Nat.lt_of_lt_of_le ha (Nat.pow_le_pow_right (n := 10) (by decide) (show k - 0 ≤ 2 by omega))
        by_cases hkn : k < l.length
        rotate_left
        · obtain rfl : k = l.length := by omega
          rw [hend.out] at hdec
          have hD1 : Hid (D0 = some a) := Lib.hid hdec.out.symm
          have hr := Lib.hid (hSm.out a hD1.out)
          go_wp2
          go_ret2
          exact ⟨by rw [hr.out] <;> rfl, hbw⟩
        · obtain ⟨x, hx⟩ : ∃ x, l[k] = x := ⟨_, rfl⟩
          have hx2 : l[k]? = some x := by rw [List.getElem?_eq_getElem hkn, hx]
          have hks : k < (ByteArray.mk l.toArray).size := hkn
          have hget : ((ByteArray.mk l.toArray)[k]'hks) = x := hx
          have hxm := x.toNat_lt
          have hkn2 : (k : Int) < l.length := by omega
          have hst := hdrop.out a k x hx2
          rw [hst] at hdec
          by_cases hdx : dig x = true
          · rw [if_pos hdx] at hdec
            simp only [dig, Bool.and_eq_true, decide_eq_true_eq] at hdx
            have g1 : ¬ (x.toNat : Int) < 48 := by omega
            have g2 : ¬ (57 : Int) < (x.toNat : Int) := by omega
            obtain ⟨y, hy⟩ : ∃ y, x.toNat - 48 = y := ⟨_, rfl⟩
            rw [hy] at hdec
            have hy2 : (x.toNat : Int) - 48 = (y : Int) := by omega
            have hy3 : y ≤ 9 := by omega
            clear hst
            go_wp2
            go_roundw
            case rel => exact ⟨10 * a + y, k + 1, by omega, by omega, by go_num, by first | (simp [hy2]; done) | (simp; omega), hdec, by rw [show k + 1 - 0 = (k - 0) + 1 by omega, Nat.pow_succ]; omega, hbw⟩
            case measure => simp [intOf]; omega
          · have hD1 : Hid (D0 = none) := Lib.hid (by rw [← hdec.out, if_neg hdx])
            have hr := Lib.hid (hN.out hD1.out)
            have hdx2 : x.toNat < 48 ∨ 57 < x.toNat := by
              simp only [dig, Bool.and_eq_true, decide_eq_true_eq] at hdx
              omega
            clear hst hdec
            by_cases g1 : x.toNat < 48
            · have g1' : (x.toNat : Int) < 48 := by omega
              replace hdx := Lib.hid hdx
              replace hdx2 := Lib.hid hdx2
              go_wp2
              go_ret2
              exact ⟨by rw [hr.out] <;> rfl, hbw⟩
            · have g1' : ¬ (x.toNat : Int) < 48 := by omega
              have g2' : (57 : Int) < (x.toNat : Int) := by omega
              replace hdx := Lib.hid hdx
              replace hdx2 := Lib.hid hdx2
              go_wp2
              go_ret2
              exact ⟨by rw [hr.out] <;> rfl, hbw⟩
theorem r_natural (l : List UInt8) (w : World) (hl : l.length ≤ 100000) : Calls Tryz.prog 111 #[.string ⟨l.toArray⟩] w (fun e w' => Below w.heap.size w w' ∧ ∃ v : Int, e = .returned (.tuple #[.int .i64 v, .bool (natS l).isSome]) ∧ ∀ n : Nat, natS l = some n → v = n) := by
  have hN := Lib.hid fun W => r_Number l W hl
  have hR := Lib.hid (numR_nat l)
  obtain ⟨R, hRE⟩ : ∃ R, numR l 2 = R := ⟨_, rfl⟩
  rw [hRE] at hN hR
  clear hRE
  generalize (natS l).isSome = ok at *
  obtain ⟨v, b⟩ := R
  dsimp only at hN hR
  go_enter Tryz.func111, Tryz.ntmps111
  go_wp2_with fail
  refine (hN.out _).mono ?_
  rintro e w1 ⟨rfl, hb1⟩
  cases b with
  | false =>
    have e1 : ok = false := hR.out.1.symm
    subst e1
    go_wp2
    go_ret2
    exact ⟨hb1, v, rfl, hR.out.2⟩
  | true =>
    by_cases hv : 0 ≤ v
    · have e1 : ok = true := by have := hR.out.1; simpa [hv] using this.symm
      subst e1
      go_wp2
      go_ret2
      exact ⟨hb1, v, by simp [hv], hR.out.2⟩
    · have e1 : ok = false := by have := hR.out.1; simpa [hv] using this.symm
      subst e1
      go_wp2
      go_ret2
      exact ⟨hb1, v, by simp [hv], hR.out.2⟩
end Go.Proofs.YtbdgblnccjpahaaGreatDoor
namespace Go.Proofs.YtbdgblnccjpahaaGreatDoor
open Go.RowKit Go.Shelf
attribute [local go_sem] bl_al bl_drew bl_drewN bl_refl bx_al bx_drew bx_drewN bx_refl
set_option maxRecDepth 20000
theorem splitC_first (c : UInt8) : ∀ (l : List UInt8) (i : Nat), (∀ j : Nat, j < i → l[j]? ≠ some c) → l[i]? = some c → splitC c l = l.take i :: splitC c (l.drop (i + 1))
  | [], i, _, h => by simp at h
  | x :: l, 0, _, h => by
    have : x = c := by simpa using h
    subst this
    simp [splitC]
  | x :: l, i + 1, h, h' => by
    have hx : x ≠ c := fun e => h 0 (by omega) (by simp [e])
    rw [splitC, if_neg hx, splitC_first c l i (fun j hj => by have := h (j + 1) (by omega); simpa using this) (by simpa using h')]
    simp
theorem splitC_never (c : UInt8) : ∀ (l : List UInt8), (∀ j : Nat, l[j]? ≠ some c) → splitC c l = [l]
  | [], _ => rfl
  | x :: l, h => by
    have hx : x ≠ c := fun e => h 0 (by simp [e])
    rw [splitC, if_neg hx, splitC_never c l (fun j => by have := h (j + 1); simpa using this)]
set_option maxHeartbeats 4000000 in
theorem r_CutB (l : List UInt8) (c : UInt8) (w : World) (hl : l.length ≤ 100000) :
    Calls Tryz.prog 110 #[.string ⟨l.toArray⟩, .int .u8 (c.toNat : Nat)] w (fun e w' => ∃ A2 c2, e = .returned (.slice A2 (splitC c l).length c2) ∧ Below w.heap.size w w' ∧ w'.ownsRow w.heap.size 9 1 (.slice A2 (splitC c l).length c2) (splitC c l).length ((splitC c l).flatMap cB)) := by
  obtain ⟨i0, hi, hz0, hz1, hz2⟩ := info_parts infoStr
  have hlen := splitC_len c l
  have hf1 := Lib.hid fun (f k : Nat) (h : ∀ j : Nat, f ≤ j → j < k → l[j]? ≠ some c) (h2 : l[k]? = some c) (hfk : f ≤ k) => (show splitC c (l.drop f) = (l.drop f).take (k - f) :: splitC c (l.drop (k + 1)) by
    have := splitC_first c (l.drop f) (k - f) (fun j hj => by rw [List.getElem?_drop]; exact h _ (by omega) (by omega)) (by rw [List.getElem?_drop, show f + (k - f) = k by omega]; exact h2)
    rw [this, List.drop_drop, show f + (k - f + 1) = k + 1 by omega])
  have hf2 := Lib.hid fun (f : Nat) (h : ∀ j : Nat, f ≤ j → j < l.length → l[j]? ≠ some c) => splitC_never c (l.drop f) (fun j => by
    rw [List.getElem?_drop]
    by_cases hj : f + j < l.length
    · exact h _ (by omega) hj
    · rw [List.getElem?_eq_none (by omega)]; simp)
  have h0 : Hid (splitC c (l.drop 0) = splitC c l) := rfl
  obtain ⟨q, hq⟩ : ∃ q : Nat → List (List UInt8), ∀ f, splitC c (l.drop f) = q f := ⟨_, fun _ => rfl⟩
  simp only [hq] at hf1 hf2 h0
  clear hq
  generalize splitC c l = S at *
  obtain ⟨n, Hn⟩ : ∃ n, Hid (l.length = n) := ⟨_, rfl⟩
  rw [Hn.out] at hl hlen hf2
  go_enter Tryz.func110, Tryz.ntmps110
  go_wp2
  go_loopw [5, 6, 7] (fun v f i wr => ∃ (k g : Nat) (o : List (List UInt8)), k ≤ n ∧ g ≤ k ∧ i = .int .i64 k ∧ f = .int .i64 g ∧ (∀ j : Nat, g ≤ j → j < k → l[j]? ≠ some c) ∧ o ++ q g = S ∧ Below w.heap.size w wr ∧ wr.ownsRow w.heap.size 9 1 v o.length (o.flatMap cB)) (fun _ _ i _ => n - (intOf i).toNat)
  case atStart => exact ⟨0, 0, [], Nat.zero_le _, Nat.le_refl _, rfl, rfl, fun j h1 h2 => by omega, by rw [List.nil_append, h0.out], bl_refl _, World.ownsRow_nil _ _ _ _⟩
  case round =>
    obtain ⟨k, g, o, hk, hgk, rfl, rfl, hno, hS, hb0, ho⟩ := hrel
    obtain ⟨vA, vc, rfl⟩ := own_slice ho
    replace ho := Lib.hid ho
    replace hno := Lib.hid hno
    by_cases hkn : k < n
    rotate_left
    · obtain rfl : n = k := by omega
      have hl2 := hf2.out g hno.out
      rw [hl2] at hS
      obtain ⟨sub, hsub⟩ : ∃ z, l.drop g = z := ⟨_, rfl⟩
      have hol : o.length ≤ 100001 := by
        have := congrArg List.length hS
        simp at this
        omega
      have hex : (ByteArray.mk l.toArray).extract g n = ⟨sub.toArray⟩ := by rw [ByteArray.extract_mk, hsub, List.take_of_length_le (by rw [← hsub, List.length_drop, Hn.out]; exact Nat.le_refl _)]
      have hex' : (ByteArray.mk l.toArray).extract g l.length = ⟨sub.toArray⟩ := by rw [Hn.out]; exact hex
      rw [hsub] at hS
      have hszA := hb0.size
      have hgn : (g : Int) ≤ n := by omega
      have hsz : (ByteArray.mk l.toArray).size = n := Hn.out
      have hoA := Lib.hid (own_below ho.out (bl_al (.cells #[.string ⟨sub.toArray⟩] 9) (bl_refl wr)))
      subst hS
      go_wp2_with (at_builtin; refine wpList_append_own2 rfl _ _ 54 rfl w.heap.size 9 i0 (.string ByteArray.empty) 1 16 Tryz.underlying54 hi hz0 hz1 hz2 rfl (by decide) _ _ _ rfl hoA.out ⟨_, 0, none⟩ 1 1 (cB sub) rfl rfl ?c1 ?c2 ?c3 ?c4 ?c5 ?_)
      try case c1 =>
        intro q u hq
        match q, hq with
        | 0, hq => simp [cB] at hq; subst hq; simp [Addr.add]
        | q + 1, hq => simp [cB] at hq
      case c2 => first | (intro u hu; simp [cB] at hu; subst hu; rfl) | rfl
      case c3 => unfold maxLen; omega
      case c4 => omega
      case c5 => first | omega | (simp; omega)
      intro v9 w9 hown hg2 hd2
      have hb9 := (bl_al (.cells #[.string ⟨sub.toArray⟩] 9) hb0).grown hg2 (by simp; omega) (own_ge hoA.out)
      obtain ⟨vC, ve, rfl⟩ := own_slice hown
      go_wp2
      go_ret
      exact ⟨vC, ve, by simp, hb9, by simpa using hown⟩
    have hkl : k < l.length := by rw [Hn.out]; exact hkn
    obtain ⟨x, hx⟩ : ∃ x, l[k] = x := ⟨_, rfl⟩
    have hx2 : l[k]? = some x := by rw [List.getElem?_eq_getElem hkl, hx]
    have hks : k < (ByteArray.mk l.toArray).size := hkl
    have hget : ((ByteArray.mk l.toArray)[k]'hks) = x := hx
    have hxm := x.toNat_lt
    have hsz : (ByteArray.mk l.toArray).size = n := Hn.out
    have hkn2 : (k : Int) < n := by omega
    by_cases hxc : x = c
    · subst hxc
      have hl2 := hf1.out g k hno.out hx2 hgk
      rw [hl2] at hS
      obtain ⟨sub, hsub⟩ : ∃ z, (l.drop g).take (k - g) = z := ⟨_, rfl⟩
      have hol : o.length ≤ 100001 := by
        have := congrArg List.length hS
        simp at this
        omega
      have hex : (ByteArray.mk l.toArray).extract g k = ⟨sub.toArray⟩ := by rw [ByteArray.extract_mk, hsub]
      rw [hsub] at hS
      have hszA := hb0.size
      have hgk2 : (g : Int) ≤ k := by omega
      have hoA := Lib.hid (own_below ho.out (bl_al (.cells #[.string ⟨sub.toArray⟩] 9) (bl_refl wr)))
      go_wp2_with (at_builtin; refine wpList_append_own2 rfl _ _ 54 rfl w.heap.size 9 i0 (.string ByteArray.empty) 1 16 Tryz.underlying54 hi hz0 hz1 hz2 rfl (by decide) _ _ _ rfl hoA.out ⟨_, 0, none⟩ 1 1 (cB sub) rfl rfl ?c1 ?c2 ?c3 ?c4 ?c5 ?_)
      try case c1 =>
        intro q u hq
        match q, hq with
        | 0, hq => simp [cB] at hq; subst hq; simp [Addr.add]
        | q + 1, hq => simp [cB] at hq
      case c2 => first | (intro u hu; simp [cB] at hu; subst hu; rfl) | rfl
      case c3 => unfold maxLen; omega
      case c4 => omega
      case c5 => first | omega | (simp; omega)
      intro v9 w9 hown hg2 hd2
      have hb9 := (bl_al (.cells #[.string ⟨sub.toArray⟩] 9) hb0).grown hg2 (by simp; omega) (own_ge hoA.out)
      go_wp2
      go_roundw
      case rel => exact ⟨k + 1, k + 1, o ++ [sub], by omega, Nat.le_refl _, by go_num, by go_num, fun j h1 h2 => by omega, by rw [List.append_assoc]; exact hS, hb9, by rw [List.length_append, List.flatMap_append]; exact hown⟩
      case measure => simp [intOf]; omega
    · have hne : ((x.toNat : Int) == (c.toNat : Int)) = false := by
        rw [beq_eq_false_iff_ne]
        intro h
        apply hxc
        exact UInt8.toNat_inj.1 (by omega)
      have hno' := Lib.hid (show ∀ j : Nat, g ≤ j → j < k + 1 → l[j]? ≠ some c from fun j h1 h2 => by
        by_cases hj : j = k
        · subst hj
          rw [hx2]
          intro e
          injection e with e
          exact hxc e
        · exact hno.out j h1 (by omega))
      go_wp2
      go_roundw
      case rel => exact ⟨k + 1, g, o, by omega, by omega, by go_num, rfl, hno'.out, hS, hb0, ho.out⟩
      case measure => simp [intOf]; omega
end Go.Proofs.YtbdgblnccjpahaaGreatDoor
namespace Go.Proofs.YtbdgblnccjpahaaGreatDoor
open Go.RowKit Go.Shelf
attribute [local go_sem] bl_al bl_drew bl_drewN bl_refl bx_al bx_drew bx_drewN bx_refl
set_option maxRecDepth 20000
set_option maxHeartbeats 4000000 in
theorem r_indexes (l : List UInt8) (w : World) (hl : l.length ≤ 100000) :
    Calls Tryz.prog 113 #[.string ⟨l.toArray⟩] w (fun e w' => Below w.heap.size w w' ∧ ∃ A2 c2, e = .returned (.tuple #[.slice A2 (wayV l).length c2, .bool (wayOk l)]) ∧ w'.ownsRow w.heap.size 3 1 (.slice A2 (wayV l).length c2) (wayV l).length ((wayV l).map (.int .i64))) := by
  obtain ⟨i0, hi, hz0, hz1, hz2⟩ := info_parts infoI
  have hcut := Lib.hid fun W => r_CutB l 43 W hl
  have hlen := splitC_len 43 l
  have hmem := Lib.hid (splitC_mem 43 l)
  have hW1 : Hid (wayOk l = false → wayV l = []) := Lib.hid fun h => by unfold wayV; rw [h]; rfl
  have hW2 : Hid (wayOk l = true → wayV l = natsV (splitC 43 l)) := Lib.hid fun h => by unfold wayV; rw [h]; rfl
  have hK : Hid (wayOk l = natsOk (splitC 43 l)) := rfl
  generalize wayV l = V at *
  generalize wayOk l = K at *
  obtain ⟨xs, hxs⟩ : ∃ xs, Hid (splitC 43 l = xs) := ⟨_, rfl⟩
  rw [hxs.out] at hlen hmem hcut hW2 hK
  obtain ⟨n, Hn⟩ : ∃ n, Hid (xs.length = n) := ⟨_, rfl⟩
  rw [Hn.out] at hlen hcut
  have hst := Lib.hid fun k p (h : xs[k]? = some p) => (show natsOk (xs.take (k + 1)) = (natsOk (xs.take k) && (natS p).isSome) ∧ natsV (xs.take (k + 1)) = natsV (xs.take k) ++ [(((natS p).getD 0 : Nat) : Int)] by
    rw [List.take_add_one, h]
    exact ⟨natsOk_snoc _ _, natsV_snoc _ _⟩)
  go_enter Tryz.func113, Tryz.ntmps113
  go_wp2_with fail
  refine (hcut.out _).mono ?_
  rintro e w1 ⟨A1, c1, rfl, hb1, ho1⟩
  have hsl : Hid (Sl cB 1 w1 A1 xs) := own_slC (cs := cB) (fun _ => rfl) (by decide) (by rw [Hn.out]; exact ho1)
  clear ho1 hcut
  go_wp2
  go_loopw [4, 6] (fun v i wr => ∃ k : Nat, k ≤ n ∧ i = .int .i64 k ∧ Below w1.heap.size w1 wr ∧ Hid (natsOk (xs.take k) = true) ∧ wr.ownsRow w1.heap.size 3 1 v k ((natsV (xs.take k)).map (.int .i64))) (fun _ i _ => n - (intOf i).toNat)
  case atStart => exact ⟨0, Nat.zero_le _, rfl, bl_refl _, rfl, World.ownsRow_nil _ _ _ _⟩
  case round =>
    obtain ⟨k, hk, rfl, hb0, hok, ho⟩ := hrel
    obtain ⟨vA, vc, rfl⟩ := own_slice ho
    replace ho := Lib.hid ho
    by_cases hkn : k < n
    rotate_left
    · obtain rfl : n = k := by omega
      have ht : xs.take n = xs := by rw [← Hn.out, List.take_length]
      rw [ht] at hok ho
      have hKt : K = true := hK.out.trans hok.out
      subst hKt
      have hV := hW2.out rfl
      subst hV
      have hnl : (natsV xs).length = n := by rw [natsV_len, Hn.out]
      go_wp2
      go_ret2
      exact ⟨bl_tr hb1 hb0, vA, vc, rfl, own_mono hb1.size ho.out⟩
    have hx : xs[k]? = some (xs[k]'(by rw [Hn.out]; exact hkn)) := List.getElem?_eq_getElem _
    generalize xs[k]'(by rw [Hn.out]; exact hkn) = p at hx
    obtain ⟨s1, s2⟩ := hst.out k p hx
    have hpl := hmem.out p (List.mem_of_getElem? hx)
    rw [hok.out, Bool.true_and] at s1
    have hnum := Lib.hid fun W => r_natural p W (by omega)
    obtain ⟨b, off, rfl, hc⟩ := hsl.out k p hx
    have c0 : wr.cell? ⟨b, off + k, none⟩ = some (.string ⟨p.toArray⟩) := by simpa using kcell hb0 (hc 0 _ rfl)
    have hkn2 : (k : Int) < n := by omega
    clear hc
    obtain ⟨q, hq⟩ : ∃ q, Hid (natS p = q) := ⟨_, rfl⟩
    have hnum2 : Hid (Calls Tryz.prog 111 #[.string ⟨p.toArray⟩] wr (fun e w' => Below wr.heap.size wr w' ∧ ∃ v : Int, e = .returned (.tuple #[.int .i64 v, .bool q.isSome]) ∧ ∀ n : Nat, q = some n → v = n)) := by
      rw [← hq.out]; exact hnum.out wr
    rw [hq.out] at s1 s2
    clear hnum
    replace hx := Lib.hid hx
    cases q with
    | none =>
      have hKf : Hid (K = false) := Lib.hid (by
        rw [hK.out]
        have h1 : natsOk (xs.take (k + 1)) = false := by rw [s1]; rfl
        exact natsOk_prefix (List.take_prefix _ _) h1)
      have hV := hW1.out hKf.out
      subst hV
      replace s1 := Lib.hid s1
      replace s2 := Lib.hid s2
      go_wp2_with fail
      refine hnum2.out.mono ?_
      rintro e w2 ⟨hb2, v, rfl, -⟩
      go_wp2
      go_ret2
      exact ⟨bl_tr hb1 (bl_tr hb0 hb2), none, 0, by rw [hKf.out] <;> rfl, World.ownsRow_nil _ _ _ _⟩
    | some m =>
      replace s1 := Lib.hid s1
      replace s2 := Lib.hid s2
      go_wp2_with fail
      refine hnum2.out.mono ?_
      rintro e w2 ⟨hb2, v, rfl, hv⟩
      obtain rfl := hv m rfl
      replace hb0 := bl_tr hb0 hb2
      replace ho := Lib.hid (own_below ho.out hb2)
      clear hb2 c0 hnum2
      have hszA := hb0.size
      have hoA := Lib.hid (own_below ho.out (bl_al (.cells #[.int .i64 (m : Int)] 3) (bl_refl w2)))
      go_wp2_with (at_builtin; refine wpList_append_own2 rfl _ _ 23 rfl w1.heap.size 3 i0 (.int .i64 0) 1 8 Tryz.underlying23 hi hz0 hz1 hz2 rfl (by decide) _ _ _ rfl hoA.out ⟨_, 0, none⟩ 1 1 [.int .i64 (m : Int)] rfl rfl ?c1 ?c2 ?c3 ?c4 ?c5 ?_)
      try case c1 =>
        intro q u hq
        match q, hq with
        | 0, hq => simp at hq; subst hq; simp [Addr.add]
        | q + 1, hq => simp at hq
      case c2 => first | (intro u hu; simp at hu; subst hu; rfl) | rfl
      case c3 => unfold maxLen; omega
      case c4 => omega
      case c5 => first | omega | (simp; omega)
      intro v9 w9 hown hg2 hd2
      have hb9 := (bl_al (.cells #[.int .i64 (m : Int)] 3) hb0).grown hg2 (by simp; omega) (own_ge hoA.out)
      have hown9 := Lib.hid (show w9.ownsRow w1.heap.size 3 1 v9 (k + 1) ((natsV (xs.take (k + 1))).map (.int .i64)) by rw [s2.out, List.map_append]; simpa using hown)
      clear hg2 hd2 hown hoA
      go_wp2
      go_roundw
      case rel => exact ⟨k + 1, by omega, by go_num, hb9, Lib.hid (by rw [s1.out]; rfl), hown9.out⟩
      case measure => simp [intOf]; omega
end Go.Proofs.YtbdgblnccjpahaaGreatDoor
namespace Go.Proofs.YtbdgblnccjpahaaGreatDoor
open Go.RowKit Go.Shelf
attribute [local go_sem] bl_al bl_drew bl_drewN bl_refl bx_al bx_drew bx_drewN bx_refl
set_option maxRecDepth 20000
theorem infoP2 : (Tryz.prog.info? 181).map (fun i => (i.zero, i.size, i.bytes)) = some (some (.agg #[.string ByteArray.empty, .string ByteArray.empty]), 2, 32) := by kernel_rfl
def cPs (x : List UInt8 × List UInt8) : List Value := [.string ⟨x.1.toArray⟩, .string ⟨x.2.toArray⟩]
def itOk (l : List (List UInt8 × List UInt8)) : Bool := l.all fun x => decide (x.1 ≠ [])
theorem itOk_snoc (l : List (List UInt8 × List UInt8)) (x : List UInt8 × List UInt8) : itOk (l ++ [x]) = (itOk l && decide (x.1 ≠ [])) := by simp [itOk, List.all_append]
theorem itOk_prefix {a b : List (List UInt8 × List UInt8)} (h : a <+: b) (hb : itOk a = false) : itOk b = false := by
  obtain ⟨r, rfl⟩ := h
  unfold itOk at hb ⊢
  rw [List.all_append, hb]
  rfl
theorem itm_split (p : List UInt8) : ((splitC 61 p).length = 2 → splitC 61 p = [(itmOf p).1, (itmOf p).2]) ∧ ((splitC 61 p).length ≠ 2 → (itmOf p).1 = []) := by
  rw [splitC_cut]
  unfold itmOf
  cases h : (cutC 61 p).2.2
  · simp
  · simp only [if_true, List.length_cons, Bool.true_and]
    by_cases hm : (splitC 61 (cutC 61 p).2.1).length = 1
    · have h1 := (splitC_two 61 _).1 hm
      rw [splitC_not 61 _ h1]
      simp [h1]
    · have h1 : 61 ∈ (cutC 61 p).2.1 := Classical.byContradiction fun h => hm ((splitC_two 61 _).2 h)
      have h2 : ¬ (splitC 61 (cutC 61 p).2.1).length + 1 = 2 := by omega
      simp [h1, h2]
set_option maxHeartbeats 4000000 in
theorem r_items (l : List UInt8) (w : World) (hl : l.length ≤ 100000) :
    Calls Tryz.prog 112 #[.string ⟨l.toArray⟩] w (fun e w' => Below w.heap.size w w' ∧
      (itOk (itemsL l) = false → e = .returned (.tuple #[.slice none 0 0, .bool false])) ∧
      (itOk (itemsL l) = true → ∃ A2 c2, e = .returned (.tuple #[.slice A2 (itemsL l).length c2, .bool true]) ∧ w'.ownsRow w.heap.size 181 2 (.slice A2 (itemsL l).length c2) (itemsL l).length ((itemsL l).flatMap cPs))) := by
  by_cases h0 : l = []
  · subst h0
    have e : itemsL [] = [] := rfl
    rw [e]
    go_enter Tryz.func112, Tryz.ntmps112
    go_wp2
    go_ret2
    refine ⟨bl_refl _, ?_⟩
    first
    | exact ⟨fun h => absurd h (by decide), fun _ => ⟨none, 0, rfl, World.ownsRow_nil _ _ _ _⟩⟩
    | exact fun _ => ⟨none, 0, rfl, World.ownsRow_nil _ _ _ _⟩
    | exact ⟨none, 0, rfl, World.ownsRow_nil _ _ _ _⟩
  obtain ⟨i0, hi, hz0, hz1, hz2⟩ := info_parts infoP2
  have hcut := Lib.hid fun W => r_CutB l 59 W hl
  have hlen := splitC_len 59 l
  have hmem := Lib.hid (splitC_mem 59 l)
  have hne1 : (([] : List UInt8) == l) = false := by simpa using h0
  have hne2 : (l == ([] : List UInt8)) = false := by simpa using h0
  have hil : Hid (itemsL l = (splitC 59 l).map itmOf) := Lib.hid (by unfold itemsL; rw [if_neg h0])
  obtain ⟨IL, hIL⟩ : ∃ z, Hid (itemsL l = z) := ⟨_, rfl⟩
  rw [hIL.out] at hil ⊢
  obtain ⟨xs, hxs⟩ : ∃ xs, Hid (splitC 59 l = xs) := ⟨_, rfl⟩
  rw [hxs.out] at hlen hmem hcut hil
  obtain ⟨n, Hn⟩ : ∃ n, Hid (xs.length = n) := ⟨_, rfl⟩
  rw [Hn.out] at hlen hcut
  have hst := Lib.hid fun k p (h : xs[k]? = some p) => (show itOk ((xs.take (k + 1)).map itmOf) = (itOk ((xs.take k).map itmOf) && decide ((itmOf p).1 ≠ [])) ∧ (xs.take (k + 1)).map itmOf = (xs.take k).map itmOf ++ [itmOf p] by
    rw [List.take_add_one, h]
    simp [itOk_snoc, List.map_append])
  have hpre := Lib.hid fun k => (show (xs.take k).map itmOf <+: IL by
    rw [hil.out, List.map_take]
    exact List.take_prefix _ _)
  replace h0 := Lib.hid h0
  go_enter Tryz.func112, Tryz.ntmps112
  go_upto_region 4 with fail
  go_wp2_with fail
  refine (hcut.out _).mono ?_
  rintro e w1 ⟨A1, c1, rfl, hb1, ho1⟩
  have hsl : Hid (Sl cB 1 w1 A1 xs) := own_slC (cs := cB) (fun _ => rfl) (by decide) (by rw [Hn.out]; exact ho1)
  clear ho1 hcut hne1 hne2
  go_wp2
  go_loopw [4, 6] (fun v i wr => ∃ k : Nat, k ≤ n ∧ i = .int .i64 k ∧ Below w1.heap.size w1 wr ∧ Hid (itOk ((xs.take k).map itmOf) = true) ∧ wr.ownsRow w1.heap.size 181 2 v k (((xs.take k).map itmOf).flatMap cPs)) (fun _ i _ => n - (intOf i).toNat)
  case atStart => exact ⟨0, Nat.zero_le _, rfl, bl_refl _, rfl, World.ownsRow_nil _ _ _ _⟩
  case round =>
    obtain ⟨k, hk, rfl, hb0, hok, ho⟩ := hrel
    obtain ⟨vA, vc, rfl⟩ := own_slice ho
    replace ho := Lib.hid ho
    by_cases hkn : k < n
    rotate_left
    · obtain rfl : n = k := by omega
      have ht : (xs.take n).map itmOf = IL := by rw [hil.out, ← Hn.out, List.take_length]
      have hnl : Hid (IL.length = n) := Lib.hid (by rw [hil.out, List.length_map, Hn.out])
      rw [ht] at hok ho
      replace ht := Lib.hid ht
      go_wp2
      go_ret2
      exact ⟨bl_tr hb1 hb0, fun h => absurd (h.symm.trans hok.out) (by decide), fun _ => ⟨vA, vc, by rw [hnl.out] <;> rfl, by rw [hnl.out]; exact own_mono hb1.size ho.out⟩⟩
    have hx : xs[k]? = some (xs[k]'(by rw [Hn.out]; exact hkn)) := List.getElem?_eq_getElem _
    generalize xs[k]'(by rw [Hn.out]; exact hkn) = p at hx
    obtain ⟨s1, s2⟩ := hst.out k p hx
    have hpl := hmem.out p (List.mem_of_getElem? hx)
    rw [hok.out, Bool.true_and] at s1
    have hcp := Lib.hid fun W => r_CutB p 61 W (by omega)
    obtain ⟨t1, t2⟩ := itm_split p
    obtain ⟨b, off, rfl, hc⟩ := hsl.out k p hx
    have c0 : wr.cell? ⟨b, off + k, none⟩ = some (.string ⟨p.toArray⟩) := by simpa using kcell hb0 (hc 0 _ rfl)
    have hkn2 : (k : Int) < n := by omega
    have hbad := Lib.hid fun (h : (itmOf p).1 = []) => (show itOk IL = false from itOk_prefix (hpre.out (k + 1)) (by rw [s1, h]; rfl))
    have hgo := Lib.hid fun (h : (itmOf p).1 ≠ []) => (show itOk ((xs.take (k + 1)).map itmOf) = true by rw [s1]; simpa using h)
    clear hc s1
    replace s2 := Lib.hid s2
    replace hx := Lib.hid hx
    obtain ⟨I, hI⟩ : ∃ z, Hid (itmOf p = z) := ⟨_, rfl⟩
    rw [hI.out] at t1 t2 hbad hgo s2
    have hlen2 := splitC_len 61 p
    obtain ⟨Y, hY⟩ : ∃ z, Hid (splitC 61 p = z) := ⟨_, rfl⟩
    rw [hY.out] at t1 t2 hcp hlen2
    obtain ⟨a1, a2⟩ := I
    dsimp only at *
    by_cases h2 : Y.length = 2
    rotate_left
    · have hb := Lib.hid (hbad.out (t2 h2))
      have h2' : ((Y.length : Int) != 2) = true := by simp; omega
      replace h2 := Lib.hid h2
      clear t1 t2 hbad hgo
      go_wp2_with fail
      refine (hcp.out _).mono ?_
      rintro e w2 ⟨A2, c2, rfl, hb2, -⟩
      go_wp2
      go_ret2
      exact ⟨bl_tr hb1 (bl_tr hb0 hb2), fun _ => rfl, fun h => absurd (h.symm.trans hb.out) (by decide)⟩
    have hYe := t1 h2
    rw [hYe] at hcp
    clear t1 t2 h2 hlen2
    replace hYe := Lib.hid hYe
    simp only [List.length_cons, List.length_nil, Nat.zero_add, Nat.reduceAdd] at hcp
    go_wp2_with fail
    refine (hcp.out _).mono ?_
    rintro e w2 ⟨A2, c2, rfl, hb2, ho2⟩
    have hs2 := own_slC (cs := cB) (l := [a1, a2]) (fun _ => rfl) (by decide) ho2
    obtain ⟨b2, o2, rfl, hc0⟩ := hs2 0 a1 rfl
    obtain ⟨b3, o3, e3, hc1⟩ := hs2 1 a2 rfl
    injection e3 with e3
    injection e3 with e3 e4 _
    subst e3 e4
    have d0 : ∀ W, Below w2.heap.size w2 W → W.cell? ⟨b2, o2, none⟩ = some (.string ⟨a1.toArray⟩) := later (by simpa using hc0 0 _ rfl)
    have d1 : ∀ W, Below w2.heap.size w2 W → W.cell? ⟨b2, o2 + 1, none⟩ = some (.string ⟨a2.toArray⟩) := later (by simpa using hc1 0 _ rfl)
    have d00 := d0 w2 (bl_refl _)
    clear hs2 hc0 hc1 ho2 hcp c0
    replace hb0 := bl_tr hb0 hb2
    replace ho := Lib.hid (own_below ho.out hb2)
    clear hb2
    cases a1 with
    | nil =>
      have hb := Lib.hid (hbad.out rfl)
      go_wp2
      go_ret2
      exact ⟨bl_tr hb1 hb0, fun _ => rfl, fun h => absurd (h.symm.trans hb.out) (by decide)⟩
    | cons x0 xr =>
      have hg := Lib.hid (hgo.out (by simp))
      clear hgo hbad
      go_upto_region 11 with fail
      have hszA := hb0.size
      refine wp_any (w0 := w2) ⟨[9, 10], [], [some 33, some 34, some 35, some 36, some 37, some 38, some 39, some 40, some 41, none, none], [[], [], [1], [1, 2], [], [4], [4, 5], [1, 2, 3, 4, 5, 6], [1, 2, 3, 4, 5, 6, 7], [0, 1, 2, 3, 4, 5, 6, 7, 8], [0, 1, 2, 3, 4, 5, 6, 7, 8, 9]], [[], [], [1], [2], [], [4], [5], [3, 6], [7], [], []]⟩ (fun _ => ownL (.slice vA k vc)) (by kernel_rfl) (by kernel_rfl) (by (exact zE)) (fun u => by simp only [putD, Act.put, List.setIfInBounds_toArray, List.set_cons_zero, List.set_cons_succ, Nat.zero_add, Nat.reduceAdd]; rfl) ?_
      apply RGW.on (i := 0) rfl
      · exact zG
      · intro γ u W hcur hd
        clear hd
        (try dsimp only)
        exact ⟨rfl, zS⟩
      · exact zC
      · rfl
      dsimp only [nA, cA]
      apply RGW.on (i := 1) rfl
      · exact zG
      · intro γ u W hcur hd
        clear hd
        (try dsimp only)
        exact ⟨rfl, zS⟩
      · exact zC
      · rfl
      dsimp only [nA, cA]
      apply RGW.on (i := 2) rfl
      · exact zG
      · intro γ u W hcur hd
        obtain ⟨⟨h1, -, -⟩, -⟩ := hd
        dsimp only at h1
        (try simp only [h1])
        exact ⟨rfl, zS⟩
      · exact zC
      · rfl
      dsimp only [nA, cA]
      apply RGW.on (i := 3) rfl
      · exact zG
      · intro γ u W hcur hd
        obtain ⟨⟨h2, -, -⟩, -⟩ := hd
        dsimp only at h2
        (try simp only [h2])
        exact ⟨rfl, zS⟩
      · exact zC
      · rfl
      dsimp only [nA, cA]
      apply RGW.on (i := 4) rfl
      · exact zG
      · intro γ u W hcur hd
        clear hd
        (try dsimp only)
        exact ⟨rfl, zS⟩
      · exact zC
      · rfl
      dsimp only [nA, cA]
      apply RGW.on (i := 5) rfl
      · exact zG
      · intro γ u W hcur hd
        obtain ⟨⟨h4, -, -⟩, -⟩ := hd
        dsimp only at h4
        (try simp only [h4])
        exact ⟨rfl, zS⟩
      · exact zC
      · rfl
      dsimp only [nA, cA]
      apply RGW.on (i := 6) rfl
      · exact zG
      · intro γ u W hcur hd
        obtain ⟨⟨h5, -, -⟩, -⟩ := hd
        dsimp only at h5
        (try simp only [h5])
        exact ⟨rfl, zS⟩
      · exact zC
      · rfl
      dsimp only [nA, cA]
      apply RGW.on (i := 7) rfl
      · exact zG
      · intro γ u W hcur hd
        obtain ⟨⟨h3, -, -⟩, ⟨h6, -, -⟩, -⟩ := hd
        dsimp only at h3 h6
        (try simp only [h3, h6])
        exact ⟨rfl, zS⟩
      · exact zC
      · rfl
      dsimp only [nA, cA]
      apply RGW.bslice (i := 8) rfl
      · exact zG
      · intro γ u W hcur hd
        obtain ⟨⟨h7, -, -⟩, -⟩ := hd
        dsimp only at h7
        (try simp only [h7])
        refine ⟨rfl, fun K hK => ?_⟩
        go_simp
        exact hK.out _ _ rfl rfl
      · exact zC
      · rfl
      · rfl
      dsimp only [nA, cA]
      refine RGW.skip (i := 9) rfl rfl ?_
      dsimp only [nA, cA]
      refine RGW.skip (i := 10) rfl rfl ?_
      dsimp only [nA, cA]
      refine RGW.fin (fun γ u wd hwd hd hdis => ?_)
      obtain ⟨⟨h0, -, -⟩, ⟨h1, -, -⟩, ⟨h2, -, -⟩, ⟨h3, -, -⟩, ⟨h4, -, -⟩, ⟨h5, -, -⟩, ⟨h6, -, -⟩, ⟨h7, -, -⟩, ⟨h8, r8, b8⟩, -⟩ := hd
      dsimp only at h0 h1 h2 h3 h4 h5 h6 h7 h8 r8 b8
      clear hdis
      simp only [h0, h1, h2, h3, h4, h5, h6, h7, h8]
      clear h8 h7 h6 h5 h4 h3 h2 h1 h0
      replace b8 := b8 _ (List.mem_singleton.2 rfl)
      generalize hγ8 : (γ 8).n = g8 at *
      clear hγ8
      clear u
      simp only [List.map_cons, List.map_nil]
      apply PlanW.step
      · exact zG
      · rfl
      intro K hK
      (refine wp_appT _ _ rfl Tryz.underlying178 hi hz0 hz1 hz2 rfl (by decide) (.slice vA k vc) k _ [.string ⟨(x0 :: xr).toArray⟩, .string ⟨a2.toArray⟩] rfl rfl (own_below ho.out hwd) r8 rfl (by intro u hu; simp at hu; rcases hu with rfl | rfl <;> rfl) (by unfold maxLen; omega) (by omega) (Nat.le_trans hszA hwd.size) ?_; intro v' w' hown' hbx' hnew'; obtain ⟨zA, zC, rfl⟩ := own_slice hown'; refine hK.out _ _ hbx' (fun hcur => ?_))
      clear hK K
      try simp only [Act.put, List.setIfInBounds_toArray, List.set_cons_zero, List.set_cons_succ]
      apply PlanW.step
      · exact zG
      · rfl
      intro K hK
      go_simp
      refine hK.out _ _ (by with_reducible first | assumption | exact bx_refl _ _) (fun hcur => ?_)
      clear hK K
      try simp only [Act.put, List.setIfInBounds_toArray, List.set_cons_zero, List.set_cons_succ]
      refine PlanW.done ?_
      have hb3 := bl_tt hwd
      have hb9 := bx_below (bl_tr hb0 hwd) hbx' (fun z hz => ownL_ge ho.out z hz)
      have hown9 := Lib.hid (show w'.ownsRow w1.heap.size 181 2 (.slice zA (k + 1) zC) (k + 1) (((xs.take (k + 1)).map itmOf).flatMap cPs) by rw [s2.out, List.flatMap_append]; exact hown')
      clear hown' hbx' hcur hnew' r8
      go_wp2
      go_roundw
      case rel => exact ⟨k + 1, by omega, by go_num, hb9, hg, hown9.out⟩
      case measure => simp [intOf]; omega
end Go.Proofs.YtbdgblnccjpahaaGreatDoor
