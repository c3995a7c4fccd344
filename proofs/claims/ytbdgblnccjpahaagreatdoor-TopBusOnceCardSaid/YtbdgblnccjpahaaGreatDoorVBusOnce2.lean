/-
  Walk: which nets are valid, by the reference.
  Plain: failures as sets and as lists; which functions work, and the smallest failures that stop one.
  Walks: which streams are late; the worst responses.
  Walks: the reference's functions that work after faults, and its mode.
  Walk: nets that the laws take.
  How the laws' arguments read, continued: nets.
  What the library's variables hold, out of a row's condition.
-/
import Derived.Test.YtbdgblnccjpahaaGreatDoorVBusOnce1
import Derived.Test.YtbdgblnccjpahaaGreatDoorUO4
import Derived.Test.YtbdgblnccjpahaaGreatDoorUO5
import Derived.Test.YtbdgblnccjpahaaGreatDoorUO9
set_option linter.unusedSimpArgs false
set_option linter.unusedVariables false
namespace Go.Proofs.YtbdgblnccjpahaaGreatDoor
open Go.RowKit Go.Shelf
attribute [local go_sem] bl_al bl_drew bl_drewN bl_refl bx_al bx_drew bx_drewN bx_refl
set_option maxRecDepth 20000
theorem knownN_step (l : List ByteArray) (s : ByteArray) (j : Nat) (y : ByteArray) (hy : l[j]? = some y) : knownB (l.take (j + 1)) s = (knownB (l.take j) s || (y.toList == s.toList)) := by
  unfold knownB
  rw [List.take_add_one, hy]
  simp [List.any_append]
theorem knownN_hit (l : List ByteArray) (s : ByteArray) (j k : Nat) (y : ByteArray) (hy : l[j]? = some y) (hjk : j < k) (h : (y.toList == s.toList) = true) : knownB (l.take k) s = true := by
  unfold knownB
  rw [List.any_eq_true]
  refine ⟨y, ?_, h⟩
  have : (l.take k)[j]? = some y := by rw [List.getElem?_take, if_pos hjk]; exact hy
  exact List.mem_of_getElem? this
theorem waysE_stay (p : Int) : ∀ (ws : List Rw) (e : Int), e ≠ 0 → waysE p e ws = e
  | [], e, _ => rfl
  | r :: ws, e, h => by
    have e1 : fstE [e, unl (decide (0 < r.l.length)) 10, idxErr r.l p] = e := by simp [fstE, h]
    have := waysE_stay p ws e h
    unfold waysE at this ⊢
    rw [List.foldl_cons, e1]
    exact this
theorem waysE_hit {p e v : Int} {ws : List Rw} {j : Nat} {r : Rw} (h : ws[j]? = some r) (h0 : waysE p e (ws.take j) = 0) (hv : fstE [0, unl (decide (0 < r.l.length)) 10, idxErr r.l p] = v) (hv0 : v ≠ 0) : waysE p e ws = v := by
  have e1 : waysE p e (ws.take (j + 1)) = v := by
    rw [List.take_add_one, h]
    have := ways_snoc p e (ws.take j) r
    rw [h0, hv] at this
    exact this
  have e2 : waysE p e ws = waysE p (waysE p e (ws.take (j + 1))) (ws.drop (j + 1)) := by
    conv => lhs; rw [← List.take_append_drop (j + 1) ws]
    unfold waysE
    rw [List.foldl_append]
  rw [e2, e1, waysE_stay p _ v hv0]
theorem e0_zero {n : Nt} (h : n.ps.length = 0) : n.e0 = 10 := by
  unfold Nt.e0
  simp [h, fstE, unl]
theorem e0_large {n : Nt} (h : 0 < n.ps.length) (h2 : 10 < n.ps.length ∨ 10 < n.fs.length ∨ 6 < n.ms.length) : n.e0 = 8 := by
  unfold Nt.e0
  rw [decide_eq_true h]
  have : (decide (max (n.ps.length : Int) n.fs.length ≤ 10) && decide ((n.ms.length : Int) ≤ 6)) = false := by
    rw [Bool.eq_false_iff]
    intro h
    rw [Bool.and_eq_true, decide_eq_true_eq, decide_eq_true_eq] at h
    omega
  rw [this]
  rfl
theorem e0_fine {n : Nt} (h : 0 < n.ps.length) (h1 : n.ps.length ≤ 10) (h2 : n.fs.length ≤ 10) (h3 : n.ms.length ≤ 6) : n.e0 = 0 := by
  unfold Nt.e0
  have : (decide (max (n.ps.length : Int) n.fs.length ≤ 10) && decide ((n.ms.length : Int) ≤ 6)) = true := by
    rw [Bool.and_eq_true, decide_eq_true_eq, decide_eq_true_eq]
    omega
  rw [decide_eq_true h, this]
  rfl
theorem eachS_end {α : Type} (err : Nat → α → Int) (l : List α) (k : Nat) : eachS err (l.drop l.length) k = (0, 0) := by rw [List.drop_length]; rfl
/-- A net that came in: of its rows nothing is known but where they lie. -/
structure RwW (r : Rw) (w : World) : Prop where
  len : r.l.length ≤ maxLen
  sl : Sl cI 1 w r.A r.l
structure FuW (f : Fu) (w : World) : Prop where
  nm : f.name.size ≤ maxLen
  sl : Sl cRw 1 w f.A f.ws
  rows : ∀ r ∈ f.ws, RwW r w
structure MdW (m : Md) (w : World) : Prop where
  nm : m.name.size ≤ maxLen
  row : RwW m.r w
structure NtW (n : Nt) (Ap Af Am : Option Addr) (cp cf cm : Nat) (w : World) : Prop where
  plen : n.ps.length ≤ 1000
  flen : n.fs.length ≤ 1000
  mlen : n.ms.length ≤ 1000
  pcap : n.ps.length ≤ cp
  psl : Sl cS 1 w Ap n.ps
  fsl : Sl cFu 2 w Af n.fs
  msl : Sl cMd 2 w Am n.ms
  pnm : ∀ s ∈ n.ps, s.size ≤ maxLen
  fin : ∀ f ∈ n.fs, FuW f w
  min : ∀ m ∈ n.ms, MdW m w
theorem RwIn.wide {r : Rw} {w : World} (h : RwIn r w) : RwW r w := ⟨by have := h.len; unfold maxLen; omega, h.sl⟩
theorem NtIn.wide {n : Nt} {Ap Af Am : Option Addr} {cp cf cm : Nat} {w : World} (h : NtIn n Ap Af Am cp cf cm w) : NtW n Ap Af Am cp cf cm w :=
  ⟨h.plen, h.flen, h.mlen, h.pcap, h.psl, h.fsl, h.msl, h.pnm, fun f hf => ⟨(h.fin f hf).nm, (h.fin f hf).sl, fun r hr => ((h.fin f hf).rows r hr).wide⟩, fun m hm => ⟨(h.min m hm).nm, (h.min m hm).row.wide⟩⟩
theorem NtW.below {n : Nt} {Ap Af Am : Option Addr} {cp cf cm : Nat} {w w' : World} (h : NtW n Ap Af Am cp cf cm w) (hb : Below w.heap.size w w') : NtW n Ap Af Am cp cf cm w' :=
  ⟨h.plen, h.flen, h.mlen, h.pcap, h.psl.below hb, h.fsl.below hb, h.msl.below hb, h.pnm, fun f hf => ⟨(h.fin f hf).nm, (h.fin f hf).sl.below hb, fun r hr => ⟨((h.fin f hf).rows r hr).len, ((h.fin f hf).rows r hr).sl.below hb⟩⟩, fun m hm => ⟨(h.min m hm).nm, (h.min m hm).row.len, (h.min m hm).row.sl.below hb⟩⟩
set_option maxHeartbeats 0 in
theorem r_CheckNetW (n : Nt) (Ap Af Am : Option Addr) (cp cf cm : Nat) (w : World) (hn : NtW n Ap Af Am cp cf cm w) :
    Calls Tryz.prog 81 #[vNt Ap Af Am n.ps.length n.fs.length n.ms.length cp cf cm] w (Ret (.tuple #[.int .i64 (netChk n).1, .int .i64 (netChk n).2]) w) := by
  have Hn := Lib.hid hn
  have hcp := hn.pcap
  have z0 := Lib.hid fun h => e0_zero (n := n) h
  have z1 := Lib.hid fun h h' => e0_large (n := n) h h'
  have z2 := Lib.hid fun h h1 h2 h3 => e0_fine (n := n) h h1 h2 h3
  have r0 : Hid (n.e0 ≠ 0 → netChk n = (0, n.e0)) := fun h => by rw [netChk, if_neg h]
  have r1 : Hid (n.e0 = 0 → (eachS (nmErr n.ps) n.ps 0).2 ≠ 0 → netChk n = eachS (nmErr n.ps) n.ps 0) := fun h h' => by rw [netChk, if_pos h, if_neg h']
  have r2 : Hid (n.e0 = 0 → (eachS (nmErr n.ps) n.ps 0).2 = 0 → (eachS (fuErr n.ps.length (n.fs.map fun f : Fu => f.name)) n.fs 0).2 ≠ 0 → netChk n = eachS (fuErr n.ps.length (n.fs.map fun f : Fu => f.name)) n.fs 0) := fun h h' h'' => by rw [netChk, if_pos h, if_pos h', if_neg h'']
  have r3 : Hid (n.e0 = 0 → (eachS (nmErr n.ps) n.ps 0).2 = 0 → (eachS (fuErr n.ps.length (n.fs.map fun f : Fu => f.name)) n.fs 0).2 = 0 → netChk n = eachS (mdErr n.fs.length (n.ms.map fun f : Md => f.name)) n.ms 0) := fun h h' h'' => by rw [netChk, if_pos h, if_pos h', if_pos h'']
  have a1 := Lib.hid fun (k : Nat) (x : ByteArray) (hx : n.ps[k]? = some x) => eachS_drop (nmErr n.ps) n.ps k x hx
  have a2 := Lib.hid fun (k : Nat) (x : Fu) (hx : n.fs[k]? = some x) => eachS_drop (fuErr n.ps.length (n.fs.map fun f : Fu => f.name)) n.fs k x hx
  have a3 := Lib.hid fun (k : Nat) (x : Md) (hx : n.ms[k]? = some x) => eachS_drop (mdErr n.fs.length (n.ms.map fun f : Md => f.name)) n.ms k x hx
  have b1 := Lib.hid (eachS_end (nmErr n.ps) n.ps n.ps.length)
  have b2 := Lib.hid (eachS_end (fuErr n.ps.length (n.fs.map fun f : Fu => f.name)) n.fs n.fs.length)
  have b3 := Lib.hid (eachS_end (mdErr n.fs.length (n.ms.map fun f : Md => f.name)) n.ms n.ms.length)
  have d1 : Hid (∀ k x, nmErr n.ps k x = fstE [unl (nameB x) 4, unl (!knownB (n.ps.take k) x) 5]) := fun _ _ => rfl
  have d2 : Hid (∀ k x, fuErr n.ps.length (n.fs.map fun f : Fu => f.name) k x = waysE n.ps.length (fstE [fstE [unl (nameB x.name) 4, unl (!knownB ((n.fs.map fun f : Fu => f.name).take k) x.name) 5], unl (decide (0 < x.ws.length)) 10, unl (decide ((x.ws.length : Int) ≤ 6)) 8]) x.ws) := fun _ _ => rfl
  have d3 : Hid (∀ k x, mdErr n.fs.length (n.ms.map fun f : Md => f.name) k x = fstE [fstE [unl (nameB x.name) 4, unl (!knownB ((n.ms.map fun f : Md => f.name).take k) x.name) 5], idxErr x.r.l n.fs.length]) := fun _ _ => rfl
  obtain ⟨g1, hg⟩ : ∃ g : Nat → Int × Int, ∀ k, eachS (nmErr n.ps) (n.ps.drop k) k = g k := ⟨_, fun _ => rfl⟩
  have e := hg 0
  rw [List.drop_zero] at e
  simp only [hg, e] at a1 b1 r1 r2 r3
  clear hg e
  obtain ⟨g2, hg⟩ : ∃ g : Nat → Int × Int, ∀ k, eachS (fuErr n.ps.length (n.fs.map fun f : Fu => f.name)) (n.fs.drop k) k = g k := ⟨_, fun _ => rfl⟩
  have e := hg 0
  rw [List.drop_zero] at e
  simp only [hg, e] at a2 b2 r2 r3
  clear hg e
  obtain ⟨g3, hg⟩ : ∃ g : Nat → Int × Int, ∀ k, eachS (mdErr n.fs.length (n.ms.map fun f : Md => f.name)) (n.ms.drop k) k = g k := ⟨_, fun _ => rfl⟩
  have e := hg 0
  rw [List.drop_zero] at e
  simp only [hg, e] at a3 b3 r3
  clear hg e hn
  generalize nmErr n.ps = e1 at *
  generalize fuErr n.ps.length (n.fs.map fun f : Fu => f.name) = e2 at *
  generalize mdErr n.fs.length (n.ms.map fun f : Md => f.name) = e3 at *
  generalize netChk n = R at *
  change Calls Tryz.prog 81 #[.agg #[.slice Ap n.ps.length cp, .slice Af n.fs.length cf, .slice Am n.ms.length cm]] w _
  obtain ⟨np, Hp⟩ : ∃ k, Hid (n.ps.length = k) := ⟨_, rfl⟩
  obtain ⟨nf, Hf⟩ : ∃ k, Hid (n.fs.length = k) := ⟨_, rfl⟩
  obtain ⟨nm, Hm⟩ : ∃ k, Hid (n.ms.length = k) := ⟨_, rfl⟩
  rw [Hp.out] at z0 z1 z2 b1 d2 hcp ⊢
  rw [Hf.out] at z1 z2 b2 d3 ⊢
  rw [Hm.out] at z1 z2 b3 ⊢
  by_cases h0 : np = 0
  · subst h0
    have e := Lib.hid (show R = (0, 10) by rw [r0.out (by rw [z0.out rfl]; decide), z0.out rfl])
    clear a1 a2 a3 b1 b2 b3 d1 d2 d3 z0 z1 z2 r0 r1 r2 r3
    go_enter Tryz.func81, Tryz.ntmps81
    go_wp2
    go_ret2
    exact ⟨by rw [e.out] <;> rfl, by (exact zE)⟩
  have h0' : ((np : Int) == 0) = false := by simp; omega
  by_cases hL : 10 < np ∨ 10 < nf ∨ 6 < nm
  · have e := Lib.hid (show R = (0, 8) by rw [r0.out (by rw [z1.out (by omega) hL]; decide), z1.out (by omega) hL])
    clear a1 a2 a3 b1 b2 b3 d1 d2 d3 z0 z1 z2 r0 r1 r2 r3
    by_cases q1 : (10 : Int) < np
    · clear hL
      go_enter Tryz.func81, Tryz.ntmps81
      go_wp2
      go_ret2
      exact ⟨by rw [e.out] <;> rfl, by (exact zE)⟩
    · by_cases q2 : (10 : Int) < nf
      · clear hL
        go_enter Tryz.func81, Tryz.ntmps81
        go_wp2
        go_ret2
        exact ⟨by rw [e.out] <;> rfl, by (exact zE)⟩
      · have q3 : (6 : Int) < nm := by omega
        clear hL
        go_enter Tryz.func81, Tryz.ntmps81
        go_wp2
        go_ret2
        exact ⟨by rw [e.out] <;> rfl, by (exact zE)⟩
  have ez := z2.out (by omega) (by omega) (by omega) (by omega)
  replace r1 := Lib.hid (r1.out ez)
  replace r2 := Lib.hid (r2.out ez)
  replace r3 := Lib.hid (r3.out ez)
  have q1 : ¬ (10 : Int) < np := by omega
  have q2 : ¬ (10 : Int) < nf := by omega
  have q3 : ¬ (6 : Int) < nm := by omega
  have p1 : np ≤ 10 := by omega
  have p2 : nf ≤ 10 := by omega
  have p3 : nm ≤ 6 := by omega
  clear z0 z1 z2 r0 ez hL h0
  go_enter Tryz.func81, Tryz.ntmps81
  go_upto_region 1 with fail
  first
  | apply absB1 (w0 := w) (g0 := w.heap.size)
  | apply absTB1 (w0 := w) (g0 := w.heap.size)
  | apply absIB1 (w0 := w) (g0 := w.heap.size)
  iterate 2 (focus exact zL)
  try clear hb3
  try clear hb0
  try clear k0
  intro wa hb0 k0
  (try simp only [List.setIfInBounds_toArray, List.set_cons_zero, List.set_cons_succ] at k0)
  have L0 := k0.cell
  go_wp2
  clear L0 h0' q1 q2 q3
  go_loopw [4] (fun i wr => ∃ k : Nat, k ≤ np ∧ i = .int .i64 k ∧ Below w.heap.size w wr ∧ Blk wr w.heap.size 58 #[.slice Ap np cp, .slice Af nf cf, .slice Am nm cm] ∧ g1 0 = g1 k) (fun i _ => np - (intOf i).toNat)
  case atStart => exact ⟨0, Nat.zero_le _, rfl, hb0, k0, rfl⟩
  case round =>
    clear hb0 k0
    obtain ⟨k, hk, rfl, hb0, k0, hi⟩ := hrel
    replace hi := Lib.hid hi
    by_cases hkn : k < np
    · have hx : n.ps[k]? = some (n.ps[k]'(by rw [Hp.out]; exact hkn)) := List.getElem?_eq_getElem _
      generalize n.ps[k]'(by rw [Hp.out]; exact hkn) = x at hx
      have hd := Lib.hid (hi.out.trans (a1.out k x hx))
      have hr1 := Lib.hid fun h : e1 k x ≠ 0 => (show R = ((k : Int), e1 k x) by
        have h2 := hd.out
        rw [if_neg h] at h2
        rw [r1.out (by rw [h2]; exact h), h2])
      have hr2 := Lib.hid fun h : e1 k x = 0 => (show g1 0 = g1 (k + 1) by
        have h2 := hd.out
        rwa [if_pos h] at h2)
      have hde := Lib.hid (d1.out k x)
      have hsz := Hn.out.pnm x (List.mem_of_getElem? hx)
      have hS := Lib.hid fun W (hb : Below w.heap.size w W) => (Hn.out.psl.below hb).take k
      obtain ⟨b, off, rfl, hc⟩ := Hn.out.psl k x hx
      have c0 : ∀ W, Below wr.heap.size wr W → W.cell? ⟨b, off + k, none⟩ = some (.string x) := later (by simpa using kcell hb0 (hc 0 _ rfl))
      have hkl : (n.ps.take k).length = k := by rw [List.length_take, Hp.out]; omega
      have hht := Lib.hid fun W (hb : Below w.heap.size w W) => (show Calls Tryz.prog 133 #[.slice (some ⟨b, off, none⟩) k cp, .string x] W (Same (.bool (knownB (n.ps.take k) x)) W) by
        have := r_HasText (n.ps.take k) x (some ⟨b, off, none⟩) cp W (hS.out W hb) (by omega)
        rw [hkl] at this
        exact this)
      clear hc hx hd hS hkl
      have hni := Lib.hid fun W : World => r_IsName x W hsz
      generalize e1 k x = E at *
      generalize knownB (n.ps.take k) x = K at *
      generalize nameB x = N at *
      have hkc : k ≤ cp := by omega
      have L0 := k0.cell
      have c0' := c0 wr (bl_refl _)
      cases N
      · have hE : E = 4 := by rw [hde.out]; rfl
        subst hE
        have hR := Lib.hid (hr1.out (by decide))
        clear hr1 hr2 hde hht c0
        go_wp2_with fail
        refine (hni.out _).mono ?_
        rintro e w3 ⟨rfl, hb3⟩
        go_wp2
        go_ret2
        exact ⟨by rw [hR.out] <;> rfl, bl_tr hb0 hb3⟩
      go_wp2_with fail
      refine (hni.out _).mono ?_
      rintro e w3 ⟨rfl, hb3⟩
      have c1 : ∀ W, Below w3.heap.size w3 W → W.cell? ⟨b, off + k, none⟩ = some (.string x) := later (c0 w3 hb3)
      replace hb0 := bl_tr hb0 hb3
      replace k0 := k0.below hb3
      clear c0 c0' L0 hb3 hni
      go_upto_region 10 with fail
      have Lk0 := k0.later
      have Fk0 := k0.laterF
      have Qk0 := k0.lt
      refine wp_any (w0 := w3) ⟨[], [], [some 49, some 50, some 51, some 52, some 53, some 54, some 55, some 56, some 57, some 58], [[], [0], [], [0, 1, 2], [], [4], [], [4, 5, 6], [4, 5, 6, 7], [0, 1, 2, 3, 4, 5, 6, 7, 8]], [[], [0], [], [1, 2], [], [4], [], [5, 6], [7], [3, 8]]⟩ (fun _ => []) (by kernel_rfl) (by kernel_rfl) (by (exact zE)) (fun u => by simp only [putD, Act.put, List.setIfInBounds_toArray, List.set_cons_zero, List.set_cons_succ, Nat.zero_add, Nat.reduceAdd]; rfl) ?_
      apply RGW.on (i := 0) rfl
      · exact zG
      · intro γ u W hcur hd
        clear hd
        (try dsimp only)
        exact ⟨rfl, zS⟩
      · exact zC
      · rfl
      dsimp only [nA, cA]
      apply RGW.on (i := 1) rfl
      · exact zG
      · intro γ u W hcur hd
        obtain ⟨⟨h0, -, -⟩, -⟩ := hd
        dsimp only at h0
        (try simp only [h0])
        exact ⟨rfl, zS⟩
      · exact zC
      · rfl
      dsimp only [nA, cA]
      apply RGW.on (i := 2) rfl
      · exact zG
      · intro γ u W hcur hd
        clear hd
        (try dsimp only)
        exact ⟨rfl, zS⟩
      · exact zC
      · rfl
      dsimp only [nA, cA]
      apply RGW.on (i := 3) rfl
      · exact zG
      · intro γ u W hcur hd
        obtain ⟨⟨h1, -, -⟩, ⟨h2, -, -⟩, -⟩ := hd
        dsimp only at h1 h2
        (try simp only [h1, h2])
        exact ⟨rfl, zS⟩
      · exact zC
      · rfl
      dsimp only [nA, cA]
      apply RGW.on (i := 4) rfl
      · exact zG
      · intro γ u W hcur hd
        clear hd
        (try dsimp only)
        exact ⟨rfl, zS⟩
      · exact zC
      · rfl
      dsimp only [nA, cA]
      apply RGW.on (i := 5) rfl
      · exact zG
      · intro γ u W hcur hd
        obtain ⟨⟨h4, -, -⟩, -⟩ := hd
        dsimp only at h4
        (try simp only [h4])
        exact ⟨rfl, zS⟩
      · exact zC
      · rfl
      dsimp only [nA, cA]
      apply RGW.on (i := 6) rfl
      · exact zG
      · intro γ u W hcur hd
        clear hd
        (try dsimp only)
        exact ⟨rfl, zS⟩
      · exact zC
      · rfl
      dsimp only [nA, cA]
      apply RGW.on (i := 7) rfl
      · exact zG
      · intro γ u W hcur hd
        obtain ⟨⟨h5, -, -⟩, ⟨h6, -, -⟩, -⟩ := hd
        dsimp only at h5 h6
        (try simp only [h5, h6])
        exact ⟨rfl, zS⟩
      · exact zC
      · rfl
      dsimp only [nA, cA]
      apply RGW.on (i := 8) rfl
      · exact zG
      · intro γ u W hcur hd
        obtain ⟨⟨h7, -, -⟩, -⟩ := hd
        dsimp only at h7
        (try simp only [h7])
        exact ⟨rfl, zS⟩
      · exact zC
      · rfl
      dsimp only [nA, cA]
      apply RGW.call (i := 9) rfl
      · exact zG
      · intro γ u W hcur hd
        obtain ⟨⟨h3, -, -⟩, ⟨h8, -, -⟩, -⟩ := hd
        dsimp only at h3 h8
        (try simp only [h3, h8])
        refine ⟨rfl, fun K hK => ?_⟩
        go_simp
        (go_at_call 133; (with_reducible refine (hht.out _ (bl_tr hb0 hcur)).mono ?_); rintro e w3 ⟨rfl, rfl⟩)
        (try dsimp only)
        exact hK.out _ _ rfl (by (exact zE))
      · exact zC
      · rfl
      dsimp only [nA, cA]
      refine RGW.fin (fun γ u wj hwj hd hdis => ?_)
      obtain ⟨⟨h0, -, -⟩, ⟨h1, -, -⟩, ⟨h2, -, -⟩, ⟨h3, -, -⟩, ⟨h4, -, -⟩, ⟨h5, -, -⟩, ⟨h6, -, -⟩, ⟨h7, -, -⟩, ⟨h8, -, -⟩, ⟨h9, -, -⟩, -⟩ := hd
      dsimp only at h0 h1 h2 h3 h4 h5 h6 h7 h8 h9
      clear hdis
      simp only [h0, h1, h2, h3, h4, h5, h6, h7, h8, h9]
      clear h9 h8 h7 h6 h5 h4 h3 h2 h1 h0
      clear u
      simp only [List.map_nil]
      refine PlanW.done ?_
      have hb3 := bl_tt hwj
      have hbj := bl_tr hb0 hwj
      have kj := k0.below hwj
      cases K
      · have hE : E = 0 := by rw [hde.out]; rfl
        have hR := Lib.hid (hr2.out hE)
        clear hr1 hr2 hde hht
        go_wp2
        go_roundw
        case rel => exact ⟨k + 1, by omega, by go_num, hbj, kj, hR.out⟩
        case measure => simp [intOf]; omega
      · have hE : E = 5 := by rw [hde.out]; rfl
        subst hE
        have hR := Lib.hid (hr1.out (by decide))
        clear hr1 hr2 hde hht
        go_wp2
        go_ret2
        exact ⟨by rw [hR.out] <;> rfl, hbj⟩
    as_aux_lemma =>
      obtain rfl : np = k := by omega
      have hz1 := hi.out.trans b1.out
      replace r2 := Lib.hid (r2.out (by rw [hz1]))
      replace r3 := Lib.hid (r3.out (by rw [hz1]))
      clear hi hz1 r1 a1 b1 d1 hkn hk
      have L0 := k0.cell
      go_wp2
      clear L0
      go_loopw [5] (fun i wr => ∃ k : Nat, k ≤ nf ∧ i = .int .i64 k ∧ Below w.heap.size w wr ∧ Blk wr w.heap.size 58 #[.slice Ap np cp, .slice Af nf cf, .slice Am nm cm] ∧ g2 0 = g2 k) (fun i _ => nf - (intOf i).toNat)
      case atStart => exact ⟨0, Nat.zero_le _, rfl, hb0, k0, rfl⟩
      case round =>
        clear hb0 k0
        obtain ⟨k, hk, rfl, hb0, k0, hi⟩ := hrel
        replace hi := Lib.hid hi
        by_cases hkn : k < nf
        · clear r3 a3 b3 d3 b2
          have hx : n.fs[k]? = some (n.fs[k]'(by rw [Hf.out]; exact hkn)) := List.getElem?_eq_getElem _
          generalize n.fs[k]'(by rw [Hf.out]; exact hkn) = f at hx
          have hd := Lib.hid (hi.out.trans (a2.out k f hx))
          have hr1 := Lib.hid fun h : e2 k f ≠ 0 => (show R = ((k : Int), e2 k f) by
            have h2 := hd.out
            rw [if_neg h] at h2
            rw [r2.out (by rw [h2]; exact h), h2])
          have hr2 := Lib.hid fun h : e2 k f = 0 => (show g2 0 = g2 (k + 1) by
            have h2 := hd.out
            rwa [if_pos h] at h2)
          have hde := d2.out k f
          have hE1 := Lib.hid fun (v : Int) (h : fstE [fstE [unl (nameB f.name) 4, unl (!knownB ((n.fs.map fun f : Fu => f.name).take k) f.name) 5], unl (decide (0 < f.ws.length)) 10, unl (decide ((f.ws.length : Int) ≤ 6)) 8] = v) (h0 : v ≠ 0) => (show e2 k f = v by rw [hde, h, waysE_stay _ _ _ h0])
          have hE2 := Lib.hid fun (h : fstE [fstE [unl (nameB f.name) 4, unl (!knownB ((n.fs.map fun f : Fu => f.name).take k) f.name) 5], unl (decide (0 < f.ws.length)) 10, unl (decide ((f.ws.length : Int) ≤ 6)) 8] = 0) => (show e2 k f = waysE np 0 f.ws by rw [hde, h])
          have hwh := Lib.hid fun (j : Nat) (r : Rw) (v : Int) (h : f.ws[j]? = some r) (h0 : waysE np 0 (f.ws.take j) = 0) (hv : fstE [0, unl (decide (0 < r.l.length)) 10, idxErr r.l np] = v) (hv0 : v ≠ 0) => waysE_hit h h0 hv hv0
          have hws := Lib.hid fun (j : Nat) (r : Rw) (h : f.ws[j]? = some r) => (show waysE np 0 (f.ws.take (j + 1)) = fstE [waysE np 0 (f.ws.take j), unl (decide (0 < r.l.length)) 10, idxErr r.l np] by rw [List.take_add_one, h]; exact ways_snoc np 0 _ r)
          have hw0 : Hid (waysE np 0 (f.ws.take 0) = 0) := rfl
          have hwe : Hid (waysE np 0 (f.ws.take f.ws.length) = waysE np 0 f.ws) := Lib.hid (by rw [List.take_length])
          have hfi := Lib.hid (Hn.out.fin f (List.mem_of_getElem? hx))
          have hsz := Lib.hid hfi.out.nm
          obtain ⟨b, off, hA, hc⟩ := Hn.out.fsl k f hx
          have hS : Hid (Sl cFu 2 w (some ⟨b, off, none⟩) n.fs) := by rw [← hA]; exact Hn.out.fsl
          have hks := Lib.hid fun (j : Nat) (y : Fu) (hy : n.fs[j]? = some y) => knownN_step (n.fs.map fun f : Fu => f.name) f.name j y.name (by rw [List.getElem?_map, hy]; rfl)
          have hkh := Lib.hid fun (j : Nat) (y : Fu) (hy : n.fs[j]? = some y) (hjk : j < k) (h : (y.name.toList == f.name.toList) = true) => knownN_hit (n.fs.map fun f : Fu => f.name) f.name j k y.name (by rw [List.getElem?_map, hy]; rfl) hjk h
          have hk0 : Hid (knownB ((n.fs.map fun f : Fu => f.name).take 0) f.name = false) := rfl
          obtain ⟨KK, hKK⟩ : ∃ g : Nat → Bool, ∀ j, knownB ((n.fs.map fun f : Fu => f.name).take j) f.name = g j := ⟨_, fun _ => rfl⟩
          simp only [hKK] at hE1 hE2 hks hkh hk0
          obtain ⟨WW, hWW⟩ : ∃ g : Nat → Int, ∀ j, waysE np 0 (f.ws.take j) = g j := ⟨_, fun _ => rfl⟩
          simp only [hWW] at hwh hws hw0 hwe
          generalize waysE np 0 f.ws = WA at *
          have hni := Lib.hid fun W : World => r_IsName f.name W hsz.out
          generalize nameB f.name = N at *
          generalize e2 k f = E at *
          clear hd hde hi hKK hWW a2 d2 r2 hx hsz
          subst hA
          have c0 : wr.cell? ⟨b, off + k * 2, none⟩ = some (.string f.name) := by simpa using kcell hb0 (hc 0 _ rfl)
          have c1 : wr.cell? ⟨b, off + k * 2 + 1, none⟩ = some (.slice f.A f.ws.length f.c) := kcell hb0 (hc 1 _ rfl)
          clear hc
          obtain ⟨nw, Hw⟩ : ∃ k, Hid (f.ws.length = k) := ⟨_, rfl⟩
          rw [Hw.out] at hE1 hE2 hwe c1
          generalize f.name = fn at *
          generalize f.c = fc at *
          generalize hfA : f.A = fA at *
          replace hfA := Lib.hid hfA
          have L0 := k0.cell
          go_upto_region 16 with fail
          clear L0
          have k1 := Blk.new wr 144 #[.string fn, .slice fA nw fc]
          replace k0 := k0.alloc (.cells #[.string fn, .slice fA nw fc] 144)
          replace hb0 := bl_al (.cells #[.string fn, .slice fA nw fc] 144) hb0
          clear c0 c1
          generalize wr.alloc (.cells #[.string fn, .slice fA nw fc] 144) = wb at *
          have L1 := k1.cell
          cases N
          · have hE : E = 4 := hE1.out 4 (by simp [fstE, unl]) (by decide)
            subst hE
            have hR := Lib.hid (hr1.out (by decide))
            clear hr1 hr2 hE1 hE2 hwh hws hw0 hwe hfi hS hks hkh hk0
            go_wp2_with fail
            refine (hni.out _).mono ?_
            rintro e w3 ⟨rfl, hb3⟩
            go_wp2
            go_ret2
            exact ⟨by rw [hR.out] <;> rfl, bl_tr hb0 hb3⟩
          go_wp2_with fail
          refine (hni.out _).mono ?_
          rintro e w3 ⟨rfl, hb3⟩
          replace hb0 := bl_tr hb0 hb3
          replace k0 := k0.below hb3
          replace k1 := k1.below hb3
          clear hb3 hni L1
          obtain ⟨wo, rfl⟩ : ∃ wo : World, wo = wr := ⟨_, rfl⟩
          go_wp2
          go_loopw [7] (fun i wi => ∃ j : Nat, j ≤ k ∧ i = .int .i64 j ∧ Below w.heap.size w wi ∧ Blk wi w.heap.size 58 #[.slice Ap np cp, .slice (some ⟨b, off, none⟩) nf cf, .slice Am nm cm] ∧ Blk wi wo.heap.size 144 #[.string fn, .slice fA nw fc] ∧ KK j = false) (fun i _ => k - (intOf i).toNat)
          case atStart => exact ⟨0, Nat.zero_le _, rfl, hb0, k0, k1, hk0.out⟩
          case round =>
            clear hb0 k0 k1
            obtain ⟨j, hj, rfl, hb0, k0, k1, hkj⟩ := hrel
            replace hkj := Lib.hid hkj
            by_cases hjk : j < k
            · have hy : n.fs[j]? = some (n.fs[j]'(by rw [Hf.out]; omega)) := List.getElem?_eq_getElem _
              generalize n.fs[j]'(by rw [Hf.out]; omega) = y at hy
              obtain ⟨b2, off2, e2, hc2⟩ := hS.out j y hy
              cases e2
              have d0 : ∀ W, Below wr.heap.size wr W → W.cell? ⟨b, off + j * 2, none⟩ = some (.string y.name) := later (by simpa using kcell hb0 (hc2 0 _ rfl))
              have hksj := Lib.hid (hks.out j y hy)
              have hkhj := Lib.hid (hkh.out j y hy hjk)
              clear hc2 hy hr2 hE2 hwh hws hw0 hwe hfi hS hks hkh
              generalize y.name = yn at *
              have hjn : (j : Int) < nf := by omega
              have hjn2 : j < nf := by omega
              go_upto_region 21 with fail
              have Lk0 := k0.later
              have Fk0 := k0.laterF
              have Qk0 := k0.lt
              have Lk1 := k1.later
              have Fk1 := k1.laterF
              have Qk1 := k1.lt
              refine wp_any (w0 := wr) ⟨[], [], [some 82, some 83, some 84, some 85, some 86, some 87, some 88, some 89, some 90], [[], [0], [], [0, 1, 2], [0, 1, 2, 3], [0, 1, 2, 3, 4], [], [6], [0, 1, 2, 3, 4, 5, 6, 7]], [[], [0], [], [1, 2], [3], [4], [], [6], [5, 7]]⟩ (fun _ => []) (by kernel_rfl) (by kernel_rfl) (by (exact zE)) (fun u => by simp only [putD, Act.put, List.setIfInBounds_toArray, List.set_cons_zero, List.set_cons_succ, Nat.zero_add, Nat.reduceAdd]; rfl) ?_
              apply RGW.on (i := 0) rfl
              · exact zG
              · intro γ u W hcur hd
                clear hd
                (try dsimp only)
                exact ⟨rfl, zS⟩
              · exact zC
              · rfl
              dsimp only [nA, cA]
              apply RGW.on (i := 1) rfl
              · exact zG
              · intro γ u W hcur hd
                obtain ⟨⟨h0, -, -⟩, -⟩ := hd
                dsimp only at h0
                (try simp only [h0])
                exact ⟨rfl, zS⟩
              · exact zC
              · rfl
              dsimp only [nA, cA]
              apply RGW.on (i := 2) rfl
              · exact zG
              · intro γ u W hcur hd
                clear hd
                (try dsimp only)
                exact ⟨rfl, zS⟩
              · exact zC
              · rfl
              dsimp only [nA, cA]
              apply RGW.on (i := 3) rfl
              · exact zG
              · intro γ u W hcur hd
                obtain ⟨⟨h1, -, -⟩, ⟨h2, -, -⟩, -⟩ := hd
                dsimp only at h1 h2
                (try simp only [h1, h2])
                exact ⟨rfl, zS⟩
              · exact zC
              · rfl
              dsimp only [nA, cA]
              apply RGW.on (i := 4) rfl
              · exact zG
              · intro γ u W hcur hd
                obtain ⟨⟨h3, -, -⟩, -⟩ := hd
                dsimp only at h3
                (try simp only [h3])
                exact ⟨rfl, zS⟩
              · exact zC
              · rfl
              dsimp only [nA, cA]
              apply RGW.on (i := 5) rfl
              · exact zG
              · intro γ u W hcur hd
                obtain ⟨⟨h4, -, -⟩, -⟩ := hd
                dsimp only at h4
                (try simp only [h4])
                exact ⟨rfl, zS⟩
              · exact zC
              · rfl
              dsimp only [nA, cA]
              apply RGW.on (i := 6) rfl
              · exact zG
              · intro γ u W hcur hd
                clear hd
                (try dsimp only)
                exact ⟨rfl, zS⟩
              · exact zC
              · rfl
              dsimp only [nA, cA]
              apply RGW.on (i := 7) rfl
              · exact zG
              · intro γ u W hcur hd
                obtain ⟨⟨h6, -, -⟩, -⟩ := hd
                dsimp only at h6
                (try simp only [h6])
                exact ⟨rfl, zS⟩
              · exact zC
              · rfl
              dsimp only [nA, cA]
              apply RGW.on (i := 8) rfl
              · exact zG
              · intro γ u W hcur hd
                obtain ⟨⟨h5, -, -⟩, ⟨h7, -, -⟩, -⟩ := hd
                dsimp only at h5 h7
                (try simp only [h5, h7])
                exact ⟨rfl, zS⟩
              · exact zC
              · rfl
              dsimp only [nA, cA]
              refine RGW.fin (fun γ u wj hwj hd hdis => ?_)
              obtain ⟨⟨h0, -, -⟩, ⟨h1, -, -⟩, ⟨h2, -, -⟩, ⟨h3, -, -⟩, ⟨h4, -, -⟩, ⟨h5, -, -⟩, ⟨h6, -, -⟩, ⟨h7, -, -⟩, ⟨h8, -, -⟩, -⟩ := hd
              dsimp only at h0 h1 h2 h3 h4 h5 h6 h7 h8
              clear hdis
              simp only [h0, h1, h2, h3, h4, h5, h6, h7, h8]
              clear h8 h7 h6 h5 h4 h3 h2 h1 h0
              clear u
              simp only [List.map_nil]
              refine PlanW.done ?_
              have hb3 := bl_tt hwj
              have hbj := bl_tr hb0 hwj
              replace k0 := k0.below hwj
              replace k1 := k1.below hwj
              cases hyx : yn.toList == fn.toList
              · have e3 := Lib.hid (show KK (j + 1) = false by rw [hksj.out, hkj.out, hyx]; rfl)
                go_wp2
                go_roundw
                case rel => exact ⟨j + 1, by omega, by go_num, hbj, k0, k1, e3.out⟩
                case measure => simp [intOf]; omega
              · have hE : E = 5 := hE1.out 5 (by rw [hkhj.out hyx]; simp [fstE, unl]) (by decide)
                subst hE
                have hR := Lib.hid (hr1.out (by decide))
                clear hr1 hE1
                go_wp2
                go_ret2
                exact ⟨by rw [hR.out] <;> rfl, hbj⟩
            obtain rfl : k = j := by omega
            clear hks hkh hk0 hS hjk
            rw [hkj.out] at hE1 hE2
            have L0 := k0.cell
            have L1 := k1.cell
            by_cases hw9 : nw = 0
            · subst hw9
              have hE : E = 10 := hE1.out 10 (by simp [fstE, unl]) (by decide)
              subst hE
              have hR := Lib.hid (hr1.out (by decide))
              clear hr1 hr2 hE1 hE2 hwh hws hw0 hwe
              go_wp2
              go_ret2
              exact ⟨by rw [hR.out] <;> rfl, hb0⟩
            have hw8 : ((nw : Int) == 0) = false := by simp; omega
            have hwp : 0 < nw := by omega
            by_cases hw6 : (6 : Int) < nw
            · have hE : E = 8 := hE1.out 8 (by
                rw [decide_eq_true hwp, decide_eq_false (show ¬ (nw : Int) ≤ 6 by omega)]
                simp [fstE, unl]) (by decide)
              subst hE
              have hR := Lib.hid (hr1.out (by decide))
              clear hr1 hr2 hE1 hE2 hwh hws hw0 hwe
              go_wp2
              go_ret2
              exact ⟨by rw [hR.out] <;> rfl, hb0⟩
            have hE2' := hE2.out (by
                rw [decide_eq_true hwp, decide_eq_true (show (nw : Int) ≤ 6 by omega)]
                simp [fstE, unl])
            clear hE1 hE2
            go_wp2
            clear L0 L1 hw8 hw9
            go_loopw [8] (fun i wi => ∃ m : Nat, m ≤ nw ∧ i = .int .i64 m ∧ Below w.heap.size w wi ∧ Blk wi w.heap.size 58 #[.slice Ap np cp, .slice (some ⟨b, off, none⟩) nf cf, .slice Am nm cm] ∧ Blk wi wo.heap.size 144 #[.string fn, .slice fA nw fc] ∧ WW m = 0) (fun i _ => nw - (intOf i).toNat)
            case atStart => exact ⟨0, Nat.zero_le _, rfl, hb0, k0, k1, hw0.out⟩
            case round =>
              clear hb0 k0 k1
              obtain ⟨m, hm, rfl, hb0, k0, k1, hwm⟩ := hrel
              replace hwm := Lib.hid hwm
              by_cases hmn : m < nw
              · have hx : f.ws[m]? = some (f.ws[m]'(by rw [Hw.out]; exact hmn)) := List.getElem?_eq_getElem _
                generalize f.ws[m]'(by rw [Hw.out]; exact hmn) = r at hx
                have hr := hfi.out.rows r (List.mem_of_getElem? hx)
                obtain ⟨b3, o3, e3, hc3⟩ := hfi.out.sl m r hx
                rw [hfA.out] at e3
                subst e3
                have c0 : ∀ W, Below wr.heap.size wr W → W.cell? ⟨b3, o3 + m, none⟩ = some (.slice r.A r.l.length r.c) := later (by simpa using kcell hb0 (hc3 0 _ rfl))
                have hvm := Lib.hid fun v hv hv0 => hE2'.trans (hwh.out m r v hx hwm.out hv hv0)
                have hsm := Lib.hid (hws.out m r hx)
                have hie := Lib.hid fun W (hb : Below w.heap.size w W) => r_IndexesErrL r.l np r.A r.c W (hr.sl.below hb) hr.len (by omega)
                clear hc3 hx hr hwh hws hw0 hfi
                generalize idxErr r.l np = X at *
                generalize hrl : r.l.length = rl at *
                replace hrl := Lib.hid hrl
                generalize r.A = rA at *
                generalize r.c = rc at *
                have hmn2 : (m : Int) < nw := by omega
                have L0 := k0.cell
                have L1 := k1.cell
                have c0' := c0 wr (bl_refl _)
                by_cases hr0 : rl = 0
                · subst hr0
                  have hE : E = 10 := hvm.out 10 (by simp [fstE, unl]) (by decide)
                  subst hE
                  have hR := Lib.hid (hr1.out (by decide))
                  clear hr1 hr2 hE2' hvm hsm hwe c0
                  go_wp2
                  go_ret2
                  exact ⟨by rw [hR.out] <;> rfl, hb0⟩
                have hr8 : ((rl : Int) == 0) = false := by simp; omega
                have hrp : 0 < rl := by omega
                rw [decide_eq_true hrp] at hvm hsm
                go_upto_region 32 with fail
                clear L0 L1 c0'
                have Lk0 := k0.later
                have Fk0 := k0.laterF
                have Qk0 := k0.lt
                have Lk1 := k1.later
                have Fk1 := k1.laterF
                have Qk1 := k1.lt
                refine wp_any (w0 := wr) ⟨[], [], [some 117, some 118, some 119, some 120, some 121, some 122, some 123, some 124, some 125, some 9], [[], [0], [], [0, 1, 2], [0, 1, 2, 3], [], [5], [5, 6], [0, 1, 2, 3, 4, 5, 6, 7], [0, 1, 2, 3, 4, 5, 6, 7, 8]], [[], [0], [], [1, 2], [3], [], [5], [6], [4, 7], [8]]⟩ (fun _ => []) (by kernel_rfl) (by kernel_rfl) (by (exact zE)) (fun u => by simp only [putD, Act.put, List.setIfInBounds_toArray, List.set_cons_zero, List.set_cons_succ, Nat.zero_add, Nat.reduceAdd]; rfl) ?_
                apply RGW.on (i := 0) rfl
                · exact zG
                · intro γ u W hcur hd
                  clear hd
                  (try dsimp only)
                  exact ⟨rfl, zS⟩
                · exact zC
                · rfl
                dsimp only [nA, cA]
                apply RGW.on (i := 1) rfl
                · exact zG
                · intro γ u W hcur hd
                  obtain ⟨⟨h0, -, -⟩, -⟩ := hd
                  dsimp only at h0
                  (try simp only [h0])
                  exact ⟨rfl, zS⟩
                · exact zC
                · rfl
                dsimp only [nA, cA]
                apply RGW.on (i := 2) rfl
                · exact zG
                · intro γ u W hcur hd
                  clear hd
                  (try dsimp only)
                  exact ⟨rfl, zS⟩
                · exact zC
                · rfl
                dsimp only [nA, cA]
                apply RGW.on (i := 3) rfl
                · exact zG
                · intro γ u W hcur hd
                  obtain ⟨⟨h1, -, -⟩, ⟨h2, -, -⟩, -⟩ := hd
                  dsimp only at h1 h2
                  (try simp only [h1, h2])
                  exact ⟨rfl, zS⟩
                · exact zC
                · rfl
                dsimp only [nA, cA]
                apply RGW.on (i := 4) rfl
                · exact zG
                · intro γ u W hcur hd
                  obtain ⟨⟨h3, -, -⟩, -⟩ := hd
                  dsimp only at h3
                  (try simp only [h3])
                  exact ⟨rfl, zS⟩
                · exact zC
                · rfl
                dsimp only [nA, cA]
                apply RGW.on (i := 5) rfl
                · exact zG
                · intro γ u W hcur hd
                  clear hd
                  (try dsimp only)
                  exact ⟨rfl, zS⟩
                · exact zC
                · rfl
                dsimp only [nA, cA]
                apply RGW.on (i := 6) rfl
                · exact zG
                · intro γ u W hcur hd
                  obtain ⟨⟨h5, -, -⟩, -⟩ := hd
                  dsimp only at h5
                  (try simp only [h5])
                  exact ⟨rfl, zS⟩
                · exact zC
                · rfl
                dsimp only [nA, cA]
                apply RGW.on (i := 7) rfl
                · exact zG
                · intro γ u W hcur hd
                  obtain ⟨⟨h6, -, -⟩, -⟩ := hd
                  dsimp only at h6
                  (try simp only [h6])
                  exact ⟨rfl, zS⟩
                · exact zC
                · rfl
                dsimp only [nA, cA]
                apply RGW.call (i := 8) rfl
                · exact zG
                · intro γ u W hcur hd
                  obtain ⟨⟨h4, -, -⟩, ⟨h7, -, -⟩, -⟩ := hd
                  dsimp only at h4 h7
                  (try simp only [h4, h7])
                  refine ⟨rfl, fun K hK => ?_⟩
                  go_simp
                  (go_at_call 134; (with_reducible refine (hie.out _ (bl_tr hb0 hcur)).mono ?_); rintro e w3 ⟨rfl, hb3⟩; replace hb3 := bl_tt hb3)
                  (try dsimp only)
                  exact hK.out _ _ rfl (by (exact zE))
                · exact zC
                · rfl
                dsimp only [nA, cA]
                apply RGW.on (i := 9) rfl
                · exact zG
                · intro γ u W hcur hd
                  obtain ⟨⟨h8, -, -⟩, -⟩ := hd
                  dsimp only at h8
                  (try simp only [h8])
                  exact ⟨rfl, zS⟩
                · exact zC
                · rfl
                dsimp only [nA, cA]
                refine RGW.fin (fun γ u wj hwj hd hdis => ?_)
                obtain ⟨⟨h0, -, -⟩, ⟨h1, -, -⟩, ⟨h2, -, -⟩, ⟨h3, -, -⟩, ⟨h4, -, -⟩, ⟨h5, -, -⟩, ⟨h6, -, -⟩, ⟨h7, -, -⟩, ⟨h8, -, -⟩, ⟨h9, -, -⟩, -⟩ := hd
                dsimp only at h0 h1 h2 h3 h4 h5 h6 h7 h8 h9
                clear hdis
                simp only [h0, h1, h2, h3, h4, h5, h6, h7, h8, h9]
                clear h9 h8 h7 h6 h5 h4 h3 h2 h1 h0
                clear u
                simp only [List.map_nil]
                refine PlanW.done ?_
                have hb3 := bl_tt hwj
                have hbj := bl_tr hb0 hwj
                replace k0 := k0.below hwj
                replace k1 := k1.below hwj
                by_cases hX : X = 0
                · have hX' : (X != 0) = false := by simp [hX]
                  have e9 := Lib.hid (show WW (m + 1) = 0 by rw [hsm.out, hwm.out, hX]; rfl)
                  replace hX := Lib.hid hX
                  clear hvm hsm
                  go_wp2
                  go_roundw
                  case rel => exact ⟨m + 1, by omega, by go_num, hbj, k0, k1, e9.out⟩
                  case measure => simp [intOf]; omega
                · have hX' : (X != 0) = true := by simp [hX]
                  have hE : E = X := hvm.out X (by simp [fstE, unl]; exact fun h => h.symm) hX
                  have hR := Lib.hid (hr1.out (by rw [hE]; exact hX))
                  replace hE := Lib.hid hE
                  replace hX := Lib.hid hX
                  clear hvm hsm hr1 hr2
                  go_wp2
                  go_ret2
                  exact ⟨by rw [hR.out, hE.out] <;> rfl, hbj⟩
              obtain rfl : nw = m := by omega
              have hE : E = 0 := by rw [hE2', ← hwe.out, hwm.out]
              have hR := Lib.hid (hr2.out hE)
              have L0 := k0.cell
              have L1 := k1.cell
              clear hE hE2' hr1 hr2 hwh hws
              go_wp2
              go_roundw
              case rel => exact ⟨k + 1, by omega, by go_num, hb0, k0, hR.out⟩
              case measure => simp [intOf]; omega
        as_aux_lemma =>
          obtain rfl : nf = k := by omega
          have hz2 := hi.out.trans b2.out
          replace r3 := Lib.hid (r3.out (by rw [hz2]))
          clear hi hz2 r2 a2 b2 d2 hkn hk
          have L0 := k0.cell
          go_wp2
          clear L0
          go_loopw [10] (fun i wr => ∃ k : Nat, k ≤ nm ∧ i = .int .i64 k ∧ Below w.heap.size w wr ∧ Blk wr w.heap.size 58 #[.slice Ap np cp, .slice Af nf cf, .slice Am nm cm] ∧ g3 0 = g3 k) (fun i _ => nm - (intOf i).toNat)
          case atStart => exact ⟨0, Nat.zero_le _, rfl, hb0, k0, rfl⟩
          case round =>
            clear hb0 k0
            obtain ⟨k, hk, rfl, hb0, k0, hi⟩ := hrel
            replace hi := Lib.hid hi
            by_cases hkn : k < nm
            rotate_left
            · obtain rfl : nm = k := by omega
              have hz3 := Lib.hid (show R = (0, 0) by rw [r3.out, hi.out, b3.out])
              have L0 := k0.cell
              go_wp2
              go_ret2
              exact ⟨by rw [hz3.out] <;> rfl, hb0⟩
            have hx : n.ms[k]? = some (n.ms[k]'(by rw [Hm.out]; exact hkn)) := List.getElem?_eq_getElem _
            generalize n.ms[k]'(by rw [Hm.out]; exact hkn) = f at hx
            have hd := Lib.hid (hi.out.trans (a3.out k f hx))
            have hr1 := Lib.hid fun h : e3 k f ≠ 0 => (show R = ((k : Int), e3 k f) by
              have h2 := hd.out
              rw [if_neg h] at h2
              rw [r3.out, h2])
            have hr2 := Lib.hid fun h : e3 k f = 0 => (show g3 0 = g3 (k + 1) by
              have h2 := hd.out
              rwa [if_pos h] at h2)
            have hde := Lib.hid (d3.out k f)
            have hfi := Hn.out.min f (List.mem_of_getElem? hx)
            have hsz := Lib.hid hfi.nm
            have hrl1 := hfi.row.len
            have hie := Lib.hid fun W (hb : Below w.heap.size w W) => r_IndexesErrL f.r.l nf f.r.A f.r.c W (hfi.row.sl.below hb) hfi.row.len (by omega)
            obtain ⟨b, off, hA, hc⟩ := Hn.out.msl k f hx
            have hS : Hid (Sl cMd 2 w (some ⟨b, off, none⟩) n.ms) := by rw [← hA]; exact Hn.out.msl
            have hks := Lib.hid fun (j : Nat) (y : Md) (hy : n.ms[j]? = some y) => knownN_step (n.ms.map fun f : Md => f.name) f.name j y.name (by rw [List.getElem?_map, hy]; rfl)
            have hkh := Lib.hid fun (j : Nat) (y : Md) (hy : n.ms[j]? = some y) (hjk : j < k) (h : (y.name.toList == f.name.toList) = true) => knownN_hit (n.ms.map fun f : Md => f.name) f.name j k y.name (by rw [List.getElem?_map, hy]; rfl) hjk h
            have hk0 : Hid (knownB ((n.ms.map fun f : Md => f.name).take 0) f.name = false) := rfl
            obtain ⟨KK, hKK⟩ : ∃ g : Nat → Bool, ∀ j, knownB ((n.ms.map fun f : Md => f.name).take j) f.name = g j := ⟨_, fun _ => rfl⟩
            simp only [hKK] at hde hks hkh hk0
            have hni := Lib.hid fun W : World => r_IsName f.name W hsz.out
            generalize nameB f.name = N at *
            generalize e3 k f = E at *
            generalize idxErr f.r.l nf = X at *
            clear hd hi hKK a3 d3 r3 hx hsz hfi
            subst hA
            have c0 : wr.cell? ⟨b, off + k * 2, none⟩ = some (.string f.name) := by simpa using kcell hb0 (hc 0 _ rfl)
            have c1 : wr.cell? ⟨b, off + k * 2 + 1, none⟩ = some (.slice f.r.A f.r.l.length f.r.c) := kcell hb0 (hc 1 _ rfl)
            clear hc
            generalize hrl : f.r.l.length = rl at *
            replace hrl := Lib.hid hrl
            generalize f.name = fn at *
            generalize f.r.A = rA at *
            generalize f.r.c = rc at *
            have L0 := k0.cell
            go_upto_region 39 with fail
            clear L0
            have k1 := Blk.new wr 146 #[.string fn, .slice rA rl rc]
            replace k0 := k0.alloc (.cells #[.string fn, .slice rA rl rc] 146)
            replace hb0 := bl_al (.cells #[.string fn, .slice rA rl rc] 146) hb0
            clear c0 c1
            generalize wr.alloc (.cells #[.string fn, .slice rA rl rc] 146) = wb at *
            have L1 := k1.cell
            cases N
            · have hE : E = 4 := by rw [hde.out]; simp [fstE, unl]
              subst hE
              have hR := Lib.hid (hr1.out (by decide))
              clear hr1 hr2 hde hS hks hkh hk0
              go_wp2_with fail
              refine (hni.out _).mono ?_
              rintro e w3 ⟨rfl, hb3⟩
              go_wp2
              go_ret2
              exact ⟨by rw [hR.out] <;> rfl, bl_tr hb0 hb3⟩
            go_wp2_with fail
            refine (hni.out _).mono ?_
            rintro e w3 ⟨rfl, hb3⟩
            replace hb0 := bl_tr hb0 hb3
            replace k0 := k0.below hb3
            replace k1 := k1.below hb3
            clear hb3 hni L1
            obtain ⟨wo, rfl⟩ : ∃ wo : World, wo = wr := ⟨_, rfl⟩
            go_wp2
            go_loopw [12] (fun i wi => ∃ j : Nat, j ≤ k ∧ i = .int .i64 j ∧ Below w.heap.size w wi ∧ Blk wi w.heap.size 58 #[.slice Ap np cp, .slice Af nf cf, .slice (some ⟨b, off, none⟩) nm cm] ∧ Blk wi wo.heap.size 146 #[.string fn, .slice rA rl rc] ∧ KK j = false) (fun i _ => k - (intOf i).toNat)
            case atStart => exact ⟨0, Nat.zero_le _, rfl, hb0, k0, k1, hk0.out⟩
            case round =>
              clear hb0 k0 k1
              obtain ⟨j, hj, rfl, hb0, k0, k1, hkj⟩ := hrel
              replace hkj := Lib.hid hkj
              by_cases hjk : j < k
              · have hy : n.ms[j]? = some (n.ms[j]'(by rw [Hm.out]; omega)) := List.getElem?_eq_getElem _
                generalize n.ms[j]'(by rw [Hm.out]; omega) = y at hy
                obtain ⟨b2, off2, e2, hc2⟩ := hS.out j y hy
                cases e2
                have d0 : ∀ W, Below wr.heap.size wr W → W.cell? ⟨b, off + j * 2, none⟩ = some (.string y.name) := later (by simpa using kcell hb0 (hc2 0 _ rfl))
                have hksj := Lib.hid (hks.out j y hy)
                have hkhj := Lib.hid (hkh.out j y hy hjk)
                clear hc2 hy hr2 hS hks hkh
                generalize y.name = yn at *
                have hjn : (j : Int) < nm := by omega
                have hjn2 : j < nm := by omega
                go_upto_region 44 with fail
                have Lk0 := k0.later
                have Fk0 := k0.laterF
                have Qk0 := k0.lt
                have Lk1 := k1.later
                have Fk1 := k1.laterF
                have Qk1 := k1.lt
                refine wp_any (w0 := wr) ⟨[], [], [some 152, some 153, some 154, some 155, some 156, some 157, some 158, some 159, some 160], [[], [0], [], [0, 1, 2], [0, 1, 2, 3], [0, 1, 2, 3, 4], [], [6], [0, 1, 2, 3, 4, 5, 6, 7]], [[], [0], [], [1, 2], [3], [4], [], [6], [5, 7]]⟩ (fun _ => []) (by kernel_rfl) (by kernel_rfl) (by (exact zE)) (fun u => by simp only [putD, Act.put, List.setIfInBounds_toArray, List.set_cons_zero, List.set_cons_succ, Nat.zero_add, Nat.reduceAdd]; rfl) ?_
                apply RGW.on (i := 0) rfl
                · exact zG
                · intro γ u W hcur hd
                  clear hd
                  (try dsimp only)
                  exact ⟨rfl, zS⟩
                · exact zC
                · rfl
                dsimp only [nA, cA]
                apply RGW.on (i := 1) rfl
                · exact zG
                · intro γ u W hcur hd
                  obtain ⟨⟨h0, -, -⟩, -⟩ := hd
                  dsimp only at h0
                  (try simp only [h0])
                  exact ⟨rfl, zS⟩
                · exact zC
                · rfl
                dsimp only [nA, cA]
                apply RGW.on (i := 2) rfl
                · exact zG
                · intro γ u W hcur hd
                  clear hd
                  (try dsimp only)
                  exact ⟨rfl, zS⟩
                · exact zC
                · rfl
                dsimp only [nA, cA]
                apply RGW.on (i := 3) rfl
                · exact zG
                · intro γ u W hcur hd
                  obtain ⟨⟨h1, -, -⟩, ⟨h2, -, -⟩, -⟩ := hd
                  dsimp only at h1 h2
                  (try simp only [h1, h2])
                  exact ⟨rfl, zS⟩
                · exact zC
                · rfl
                dsimp only [nA, cA]
                apply RGW.on (i := 4) rfl
                · exact zG
                · intro γ u W hcur hd
                  obtain ⟨⟨h3, -, -⟩, -⟩ := hd
                  dsimp only at h3
                  (try simp only [h3])
                  exact ⟨rfl, zS⟩
                · exact zC
                · rfl
                dsimp only [nA, cA]
                apply RGW.on (i := 5) rfl
                · exact zG
                · intro γ u W hcur hd
                  obtain ⟨⟨h4, -, -⟩, -⟩ := hd
                  dsimp only at h4
                  (try simp only [h4])
                  exact ⟨rfl, zS⟩
                · exact zC
                · rfl
                dsimp only [nA, cA]
                apply RGW.on (i := 6) rfl
                · exact zG
                · intro γ u W hcur hd
                  clear hd
                  (try dsimp only)
                  exact ⟨rfl, zS⟩
                · exact zC
                · rfl
                dsimp only [nA, cA]
                apply RGW.on (i := 7) rfl
                · exact zG
                · intro γ u W hcur hd
                  obtain ⟨⟨h6, -, -⟩, -⟩ := hd
                  dsimp only at h6
                  (try simp only [h6])
                  exact ⟨rfl, zS⟩
                · exact zC
                · rfl
                dsimp only [nA, cA]
                apply RGW.on (i := 8) rfl
                · exact zG
                · intro γ u W hcur hd
                  obtain ⟨⟨h5, -, -⟩, ⟨h7, -, -⟩, -⟩ := hd
                  dsimp only at h5 h7
                  (try simp only [h5, h7])
                  exact ⟨rfl, zS⟩
                · exact zC
                · rfl
                dsimp only [nA, cA]
                refine RGW.fin (fun γ u wj hwj hd hdis => ?_)
                obtain ⟨⟨h0, -, -⟩, ⟨h1, -, -⟩, ⟨h2, -, -⟩, ⟨h3, -, -⟩, ⟨h4, -, -⟩, ⟨h5, -, -⟩, ⟨h6, -, -⟩, ⟨h7, -, -⟩, ⟨h8, -, -⟩, -⟩ := hd
                dsimp only at h0 h1 h2 h3 h4 h5 h6 h7 h8
                clear hdis
                simp only [h0, h1, h2, h3, h4, h5, h6, h7, h8]
                clear h8 h7 h6 h5 h4 h3 h2 h1 h0
                clear u
                simp only [List.map_nil]
                refine PlanW.done ?_
                have hb3 := bl_tt hwj
                have hbj := bl_tr hb0 hwj
                replace k0 := k0.below hwj
                replace k1 := k1.below hwj
                cases hyx : yn.toList == fn.toList
                · have e3 := Lib.hid (show KK (j + 1) = false by rw [hksj.out, hkj.out, hyx]; rfl)
                  go_wp2
                  go_roundw
                  case rel => exact ⟨j + 1, by omega, by go_num, hbj, k0, k1, e3.out⟩
                  case measure => simp [intOf]; omega
                · have hE : E = 5 := by rw [hde.out, hkhj.out hyx]; simp [fstE, unl]
                  subst hE
                  have hR := Lib.hid (hr1.out (by decide))
                  clear hr1 hde
                  go_wp2
                  go_ret2
                  exact ⟨by rw [hR.out] <;> rfl, hbj⟩
              obtain rfl : k = j := by omega
              clear hks hkh hk0 hS hjk
              have hE : E = X := by
                rw [hde.out, hkj.out]
                simp [fstE, unl]
                exact fun h => h.symm
              replace hE := Lib.hid hE
              have L0 := k0.cell
              have L1 := k1.cell
              clear hde hkj
              go_wp2_with fail
              refine (hie.out _ hb0).mono ?_
              rintro e w4 ⟨rfl, hb4⟩
              replace hb0 := bl_tr hb0 hb4
              replace k0 := k0.below hb4
              clear L0 L1 k1 hb4 hie
              by_cases hX : X = 0
              · have hX' : (X != 0) = false := by simp [hX]
                have hR := Lib.hid (hr2.out (hE.out.trans hX))
                replace hX := Lib.hid hX
                clear hr1 hr2
                go_wp2
                go_roundw
                case rel => exact ⟨k + 1, by omega, by go_num, hb0, k0, hR.out⟩
                case measure => simp [intOf]; omega
              · have hX' : (X != 0) = true := by simp [hX]
                have hR := Lib.hid (hr1.out (by rw [hE.out]; exact hX))
                replace hX := Lib.hid hX
                clear hr1 hr2
                go_wp2
                go_ret2
                exact ⟨by rw [hR.out, hE.out] <;> rfl, hb0⟩
theorem r_NetErrW (n : Nt) (Ap Af Am : Option Addr) (cp cf cm : Nat) (w : World) (hn : NtW n Ap Af Am cp cf cm w) :
    Calls Tryz.prog 32 #[vNt Ap Af Am n.ps.length n.fs.length n.ms.length cp cf cm] w (Ret (.int .i64 (netErr n)) w) := by
  have hc := Lib.hid fun W (hb : Below w.heap.size w W) => r_CheckNetW n Ap Af Am cp cf cm W (hn.below hb)
  have he : Hid ((netChk n).2 = netErr n) := rfl
  clear hn
  change Calls Tryz.prog 32 #[.agg #[.slice Ap n.ps.length cp, .slice Af n.fs.length cf, .slice Am n.ms.length cm]] w _
  dsimp only [vNt, aNt] at hc
  generalize netChk n = P at *
  obtain ⟨p, q⟩ := P
  dsimp only at *
  rw [← he.out]
  clear he
  generalize n.ps.length = np at *
  generalize n.fs.length = nf at *
  generalize n.ms.length = nm at *
  go_enter Tryz.func32, Tryz.ntmps32
  go_upto_region 1 with fail
  first
  | apply absB1 (w0 := w) (g0 := w.heap.size)
  | apply absTB1 (w0 := w) (g0 := w.heap.size)
  | apply absIB1 (w0 := w) (g0 := w.heap.size)
  iterate 2 (focus exact zL)
  try clear hb3
  try clear hb0
  try clear k0
  intro wa hb0 k0
  (try simp only [List.setIfInBounds_toArray, List.set_cons_zero, List.set_cons_succ] at k0)
  have L0 := k0.cell
  go_wp2_with fail
  refine (hc.out wa hb0).mono ?_
  rintro e w3 ⟨rfl, hb3⟩
  replace hb0 := bl_tr hb0 hb3
  go_wp2
  go_ret
  exact ⟨rfl, hb0⟩
end Go.Proofs.YtbdgblnccjpahaaGreatDoor
namespace Go.Proofs.YtbdgblnccjpahaaGreatDoor
theorem setN_bit : ∀ (l : List Int), (∀ x ∈ l, 0 ≤ x) → ∀ k : Nat, (setN l).testBit k = decide ((k : Int) ∈ l) := by
  suffices h : ∀ (l : List Int) (s : Nat), (∀ x ∈ l, 0 ≤ x) → ∀ k : Nat, (l.foldl (fun s n => s ||| 2 ^ n.toNat) s).testBit k = (s.testBit k || decide ((k : Int) ∈ l)) by
    intro l hl k
    have := h l 0 hl k
    simpa [setN] using this
  intro l
  induction l with
  | nil => intro s _ k; simp
  | cons x l ih =>
    intro s hl k
    rw [List.foldl_cons, ih _ (fun y hy => hl y (List.mem_cons_of_mem _ hy)), Nat.testBit_or, Nat.testBit_two_pow]
    have hx := hl x (by simp)
    have e : decide (x.toNat = k) = decide ((k : Int) = x) := by
      apply decide_eq_decide.2
      omega
    rw [e, Bool.or_assoc]
    congr 1
    by_cases e1 : (k : Int) = x <;> by_cases e2 : (k : Int) ∈ l <;> simp [e1, e2]
theorem setN_and {a b : List Int} (ha : ∀ x ∈ a, 0 ≤ x) (hb : ∀ x ∈ b, 0 ≤ x) : (setN a &&& setN b == 0) = a.all fun x => !b.contains x := by
  rw [Bool.eq_iff_iff]
  simp only [beq_iff_eq, List.all_eq_true, Bool.not_eq_true']
  constructor
  · intro h x hx
    rw [Bool.eq_false_iff]
    intro hc
    have hxb : x ∈ b := by simpa using hc
    have h0 := ha x hx
    obtain ⟨k, rfl⟩ : ∃ k : Nat, x = k := ⟨x.toNat, by omega⟩
    have := congrArg (fun n => n.testBit k) h
    simp only [Nat.testBit_and, setN_bit a ha, setN_bit b hb, hx, hxb, decide_true, Bool.and_self, Nat.zero_testBit] at this
    cases this
  · intro h
    apply Nat.eq_of_testBit_eq
    intro k
    rw [Nat.testBit_and, setN_bit a ha, setN_bit b hb, Nat.zero_testBit]
    by_cases hx : (k : Int) ∈ a
    · have := h _ hx
      have hn : (k : Int) ∉ b := fun hm => by
        have : b.contains (k : Int) = true := by simpa using hm
        rw [h _ hx] at this
        cases this
      simp [hn]
    · simp [hx]
/-- A function works after faults, by lists. -/
def wksB (f : Fu) (failed : List Int) : Bool := f.ws.any fun w : Rw => w.l.all fun x => !failed.contains x
def NonNeg (f : Fu) : Prop := ∀ r ∈ f.ws, ∀ x ∈ r.l, (0 : Int) ≤ x
theorem any_congr {α : Type} {l : List α} {p q : α → Bool} (h : ∀ x ∈ l, p x = q x) : l.any p = l.any q := by
  induction l with
  | nil => rfl
  | cons x l ih => rw [List.any_cons, List.any_cons, h x (by simp), ih fun y hy => h y (List.mem_cons_of_mem _ hy)]
theorem wks_works {f : Fu} {failed : List Int} (hf : NonNeg f) (hb : ∀ x ∈ failed, 0 ≤ x) : worksB f (setN failed) = wksB f failed :=
  any_congr fun r hr => setN_and (hf r hr) hb
theorem setL_mem (s : Nat) : ∀ (k : Nat) (x : Int), x ∈ setL s k ↔ ∃ j : Nat, j < k ∧ x = j ∧ s.testBit j = true
  | 0, x => by simp [setL]
  | k + 1, x => by
    rw [setL, List.mem_append, setL_mem s k x]
    constructor
    · rintro (⟨j, h1, h2, h3⟩ | h)
      · exact ⟨j, by omega, h2, h3⟩
      · split at h
        · rename_i hb
          exact ⟨k, by omega, by simpa using h, hb⟩
        · simp at h
    · rintro ⟨j, h1, h2, h3⟩
      by_cases e : j = k
      · subst e
        right
        rw [if_pos h3]
        simpa using h2
      · exact .inl ⟨j, by omega, h2, h3⟩
theorem setL_nonneg (s k : Nat) : ∀ x ∈ setL s k, (0 : Int) ≤ x := fun x hx => by
  obtain ⟨j, -, rfl, -⟩ := (setL_mem s k x).1 hx
  omega
theorem setL_more {s k : Nat} (hs : s < 2 ^ k) : ∀ d, setL s (k + d) = setL s k
  | 0 => rfl
  | d + 1 => by
    rw [← Nat.add_assoc, setL, setL_more hs d, Nat.testBit_lt_two_pow (Nat.lt_of_lt_of_le hs (Nat.pow_le_pow_right (by decide) (by omega)))]
    simp
theorem setL_list {s p : Nat} (hp : p ≤ 10) (hs : s < 2 ^ p) : setL s p = listS s := by
  have := setL_more hs (10 - p)
  rw [show p + (10 - p) = 10 by omega] at this
  exact this.symm
theorem setN_list {s : Nat} (hs : s < 1024) : setN (listS s) = s := by
  apply Nat.eq_of_testBit_eq
  intro k
  have e0 : (setN (listS s)).testBit k = decide ((k : Int) ∈ listS s) := setN_bit _ (setL_nonneg s 10) k
  rw [e0]
  by_cases hb : s.testBit k = true
  · rw [hb, decide_eq_true_eq]
    refine (setL_mem s 10 _).2 ⟨k, ?_, rfl, hb⟩
    apply Nat.lt_of_not_le
    intro hk
    have := Nat.testBit_lt_two_pow (Nat.lt_of_lt_of_le hs (Nat.pow_le_pow_right (n := 2) (by decide) hk))
    rw [this] at hb
    cases hb
  · rw [Bool.not_eq_true] at hb
    rw [hb, decide_eq_false_iff_not]
    intro hm
    obtain ⟨j, -, h2, h3⟩ := (setL_mem s 10 _).1 hm
    have : k = j := by omega
    subst this
    rw [h3] at hb
    cases hb
theorem wks_list {f : Fu} {s : Nat} (hf : NonNeg f) (hs : s < 1024) : wksB f (listS s) = worksB f s := by
  have e : worksB f (setN (listS s)) = wksB f (listS s) := wks_works hf (setL_nonneg s 10)
  rw [← e, setN_list hs]
/-- The indexes of the functions that work. -/
def allK (fs : List Fu) (failed : List Int) : Nat → List Int
  | 0 => []
  | k + 1 => allK fs failed k ++ (match fs[k]? with
    | some f => if wksB f failed then [(k : Int)] else []
    | none => [])
def allS (fs : List Fu) (failed : List Int) : List Int := allK fs failed fs.length
theorem workN_lt (fs : List Fu) (s : Nat) : ∀ k, workN fs s k < 2 ^ k
  | 0 => by simp [workN]
  | k + 1 => by
    have ih := workN_lt fs s k
    have h2 : 2 ^ k < 2 ^ (k + 1) := Nat.pow_lt_pow_right (by decide) (by omega)
    rw [workN]
    split
    · split
      · exact Nat.or_lt_two_pow (by omega) h2
      · omega
    · omega
theorem workN_bit (fs : List Fu) (s : Nat) : ∀ k j, (workN fs s k).testBit j = (decide (j < k) && match fs[j]? with | some f => worksB f s | none => false)
  | 0, j => by simp [workN]
  | k + 1, j => by
    have ih := workN_bit fs s k j
    rw [workN]
    by_cases e : j = k
    · subst e
      cases hf : fs[j]? with
      | none => simp [hf, ih]
      | some f =>
        simp only
        cases hw : worksB f s
        · simp [ih]
        · simp [Nat.testBit_or, ih]
    · have e2 : decide (j < k + 1) = decide (j < k) := decide_eq_decide.2 (by omega)
      rw [e2, ← ih]
      split
      · split
        · rw [Nat.testBit_or, Nat.testBit_two_pow, decide_eq_false (by omega), Bool.or_false]
        · rfl
      · rfl
theorem work_list {fs : List Fu} {failed : List Int} (hf : ∀ f ∈ fs, NonNeg f) (hb : ∀ x ∈ failed, 0 ≤ x) : ∀ k, setL (workN fs (setN failed) fs.length) k = allK fs failed k ∨ fs.length < k
  | 0 => .inl rfl
  | k + 1 => by
    rcases work_list hf hb k with h | h
    · by_cases hk : k < fs.length
      · left
        rw [setL, allK, h, workN_bit, decide_eq_true hk, Bool.true_and, List.getElem?_eq_getElem hk]
        simp only
        have e := wks_works (hf _ (List.getElem_mem hk)) hb
        simp only [e]
      · exact .inr (by omega)
    · exact .inr (by omega)
theorem list_all {fs : List Fu} {failed : List Int} (h10 : fs.length ≤ 10) (hf : ∀ f ∈ fs, NonNeg f) (hb : ∀ x ∈ failed, 0 ≤ x) : listS (workN fs (setN failed) fs.length) = allS fs failed := by
  rw [← setL_list h10 (workN_lt fs (setN failed) fs.length)]
  rcases work_list hf hb fs.length with h | h
  · exact h
  · omega
/-! ### The smallest failures. -/
theorem full_bit {p j : Nat} : (2 ^ p - 1).testBit j = decide (j < p) := Nat.testBit_two_pow_sub_one p j
/-- A function that some failures can stop. -/
def Stops (f : Fu) (p : Nat) : Prop := worksB f (2 ^ p - 1) = false
theorem stops_of {f : Fu} {p : Nat} (hw : ∀ r ∈ f.ws, 0 < r.l.length ∧ ∀ x ∈ r.l, 0 ≤ x ∧ x < p) : Stops f p := by
  unfold Stops worksB
  rw [List.any_eq_false]
  intro r hr h
  obtain ⟨h1, h2⟩ := hw r hr
  have hx := List.getElem_mem (l := r.l) (n := 0) h1
  have h3 := h2 _ hx
  have h4 := congrArg (fun n => n.testBit (r.l[0]).toNat) (beq_iff_eq.1 h)
  simp only [Nat.testBit_and, setN_bit r.l (fun x hx => (h2 x hx).1), full_bit, Nat.zero_testBit] at h4
  have h5 : (((r.l[0]).toNat : Nat) : Int) = r.l[0] := by omega
  rw [h5] at h4
  simp only [hx, decide_true, Bool.true_and, decide_eq_false_iff_not] at h4
  omega
end Go.Proofs.YtbdgblnccjpahaaGreatDoor
namespace Go.Proofs.YtbdgblnccjpahaaGreatDoor
open Go.RowKit Go.Shelf
attribute [local go_sem] bl_al bl_drew bl_drewN bl_refl bx_al bx_drew bx_drewN bx_refl
set_option maxRecDepth 20000
/-- Whether a stream is late behind others. -/
def lateB (b : List Sm) (s : Sm) : Bool := !(respV (respS b s)).2 || decide (s.dl < (respV (respS b s)).1)
def lateAt (l : List Sm) (i : Nat) : Bool := match l[i]? with
  | some s => lateB (l.take i) s
  | none => false
end Go.Proofs.YtbdgblnccjpahaaGreatDoor
namespace Go.Proofs.YtbdgblnccjpahaaGreatDoor
open Go.RowKit Go.Shelf
attribute [local go_sem] bl_al bl_drew bl_drewN bl_refl bx_al bx_drew bx_drewN bx_refl
set_option maxRecDepth 20000
end Go.Proofs.YtbdgblnccjpahaaGreatDoor
namespace Go.Proofs.YtbdgblnccjpahaaGreatDoor
open Go.RowKit Go.Shelf
attribute [local go_sem] bl_al bl_drew bl_drewN bl_refl bx_al bx_drew bx_drewN bx_refl
set_option maxRecDepth 20000
/-- A net as an argument lies. -/
structure RwR (r : Rw) (w : World) : Prop where
  cap : r.l.length ≤ r.c
  sl : Sl cI 1 w r.A r.l
structure FuR (f : Fu) (w : World) : Prop where
  nm : f.name.size ≤ maxLen
  cap : f.ws.length ≤ f.c
  sl : Sl cRw 1 w f.A f.ws
  rows : ∀ r ∈ f.ws, RwR r w
structure MdR (m : Md) (w : World) : Prop where
  nm : m.name.size ≤ maxLen
  row : RwR m.r w
structure NtR (n : Nt) (Ap Af Am : Option Addr) (cp cf cm : Nat) (w : World) : Prop where
  pcap : n.ps.length ≤ cp
  fcap : n.fs.length ≤ cf
  mcap : n.ms.length ≤ cm
  psl : Sl cS 1 w Ap n.ps
  fsl : Sl cFu 2 w Af n.fs
  msl : Sl cMd 2 w Am n.ms
  pnm : ∀ s ∈ n.ps, s.size ≤ maxLen
  fin : ∀ f ∈ n.fs, FuR f w
  min : ∀ m ∈ n.ms, MdR m w
end Go.Proofs.YtbdgblnccjpahaaGreatDoor
namespace Go.Proofs.YtbdgblnccjpahaaGreatDoor
open Go.ChangeShapes Go.WideShapes Go.ChangeAt Go.RowKit Go.Deep
set_option maxRecDepth 20000
theorem cRw1 : Tryz.prog.cellsOf 23 = 1 := by kernel_rfl
theorem cTx1 : Tryz.prog.cellsOf 9 = 1 := by kernel_rfl
theorem cTs1 : Tryz.prog.cellsOf 54 = 1 := by kernel_rfl
theorem cWs1 : Tryz.prog.cellsOf 53 = 1 := by kernel_rfl
theorem cFs1 : Tryz.prog.cellsOf 55 = 1 := by kernel_rfl
theorem cMm1 : Tryz.prog.cellsOf 56 = 1 := by kernel_rfl
theorem cFu2 : Tryz.prog.cellsOf 144 = 2 := by kernel_rfl
theorem cMd2 : Tryz.prog.cellsOf 146 = 2 := by kernel_rfl
theorem cNt3 : Tryz.prog.cellsOf 58 = 3 := by kernel_rfl
section
variable {H : Type} {enc : TypeId × Value → H} {w : World} {base : Nat} {spare : Nat → Bool} {held : Bool} {fuel : Nat} {cs : List Value} {y : DataW H × List MemPlace}
theorem rd_Txs (h : DataW.trod enc Tryz.prog w base spare held fuel 54 cs = some y) : ∃ A c, ∃ l : List ByteArray, cs = [.slice A l.length c] ∧ l.length ≤ c ∧ c ≤ maxLen ∧ Sl cS 1 w A l ∧ ∀ s ∈ l, s.size ≤ maxLen :=
  rd_slice (c := cS) (ok := fun s : ByteArray => s.size ≤ maxLen) Tryz.underlying54 cTx1 (by decide) (fun _ => rfl) (fun _ _ _ hz => by obtain ⟨s, e, -, hs⟩ := DataW.trod_string Tryz.underlying9 hz; exact ⟨s, e, hs⟩) h
end
end Go.Proofs.YtbdgblnccjpahaaGreatDoor
namespace Go.Proofs.YtbdgblnccjpahaaGreatDoor
open Go.ChangeShapes Go.WideShapes Go.ChangeAt Go.RowKit Go.Deep
set_option maxRecDepth 20000
/-- What the library's variables hold, out of the row's condition. -/
theorem env_of {W : World} (h : laidMetH Tryz.prog Rows.busStringsRow.laid W) : Env W := by
  rw [MakeChecks.laidMetH_plain _ _ _ (by kernel_rfl)] at h
  obtain ⟨ps, ⟨g0, t0, cs0, f0, p0, q0, hg0, ht0, hv0, hd0, ⟨g1, t1, cs1, f1, p1, q1, hg1, ht1, hv1, hd1, ⟨g2, t2, cs2, f2, p2, q2, hg2, ht2, hv2, hd2, ⟨g3, t3, cs3, f3, p3, q3, hg3, ht3, hv3, hd3, ⟨g4, t4, cs4, f4, p4, q4, hg4, ht4, hv4, hd4, ⟨g5, t5, cs5, f5, p5, q5, hg5, ht5, hv5, hd5, _, _⟩, _⟩, _⟩, _⟩, _⟩, _⟩, _, _⟩ := h
  have hT : Tab W := by
    obtain rfl := Option.some.inj ((show Tryz.prog.globalNamed "math/bits.deBruijn64tab" = some 2 by kernel_rfl).symm.trans hg1)
    obtain rfl := Option.some.inj ((show (Tryz.prog.globals[2 ]?).map (·.type) = some 260 by kernel_rfl).symm.trans ht1)
    have hlaid : (Rows.laid_math_bits_deBruijn64tab : DataW Unit) = Lib.tabData .u8 (Lib.deBruijn64tab.map fun n : Nat => (n : Int)) := rfl
    rw [hlaid] at hd1
    have hc := Lib.cells_of_tab Tryz.underlying260 Tryz.underlying5 (by kernel_rfl) (by kernel_rfl) hd1
    intro j hj
    have hlen : Lib.deBruijn64tab.length = 64 := by kernel_rfl
    have h1 := World.var?_cell (show Tryz.prog.globalNamed "math/bits.deBruijn64tab" = some 2 by kernel_rfl) hv1 j
    have h2 : cs1.toList[j]? = some (.int .u8 ((Lib.deBruijn64tab.getD j 0 : Nat) : Int)) := by
      rw [hc]
      simp [List.getD, List.getElem?_eq_getElem (show j < Lib.deBruijn64tab.length by omega)]
    rw [h1]
    simpa using h2
  refine ⟨hT, ?_, ?_, ?_⟩
  · have e5 : t5 = 190 := by
      have h := (show (Tryz.prog.globalNamed "strconv.ErrSyntax").bind (fun g => (Tryz.prog.globals[g]?).map (·.type)) = some 190 by kernel_rfl)
      rw [hg5] at h
      exact Option.some.inj (ht5.symm.trans h)
    subst e5
    obtain ⟨f', u, v, e, -, -⟩ := iface_of_trod Tryz.underlying190 hd5
    exact ⟨u, v, by rw [hv5]; congr 1; apply Array.toList_inj.1; exact e⟩
  · have e4 : t4 = 190 := by
      have h := (show (Tryz.prog.globalNamed "strconv.ErrRange").bind (fun g => (Tryz.prog.globals[g]?).map (·.type)) = some 190 by kernel_rfl)
      rw [hg4] at h
      exact Option.some.inj (ht4.symm.trans h)
    subst e4
    obtain ⟨f', u, v, e, -, -⟩ := iface_of_trod Tryz.underlying190 hd4
    exact ⟨u, v, by rw [hv4]; congr 1; apply Array.toList_inj.1; exact e⟩
  · have e2 : t2 = 284 := by
      have h := (show (Tryz.prog.globalNamed "internal/strconv.uint64pow10").bind (fun g => (Tryz.prog.globals[g]?).map (·.type)) = some 284 by kernel_rfl)
      rw [hg2] at h
      exact Option.some.inj (ht2.symm.trans h)
    subst e2
    have hlaid : (Rows.laid_internal_strconv_uint64pow10 : DataW Unit) = Lib.tabData .u64 Lib.pow10Tab := rfl
    rw [hlaid] at hd2
    have hc := Lib.cells_of_tab Tryz.underlying284 Tryz.underlying242 (by kernel_rfl) (by kernel_rfl) hd2
    unfold Lib.TabIs
    rw [hv2, ← hc]
end Go.Proofs.YtbdgblnccjpahaaGreatDoor
