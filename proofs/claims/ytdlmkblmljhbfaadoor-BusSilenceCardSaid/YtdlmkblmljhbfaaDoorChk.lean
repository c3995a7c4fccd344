/-
  Walks: which nets are valid, continued.
-/
import Derived.Test.YtdlmkblmljhbfaaDoorNet
namespace Go.Proofs.YtdlmkblmljhbfaaDoor
set_option linter.unusedSimpArgs false
set_option linter.unusedVariables false
open Go.RowKit Go.Shelf
attribute [local go_sem] bl_al bl_drew bl_drewN bl_refl bx_al bx_drew bx_drewN bx_refl
set_option maxRecDepth 20000
theorem take_next {α : Type} {l : List α} {k : Nat} {x : α} (h : l[k]? = some x) : l.take (k + 1) = l.take k ++ [x] := by rw [List.take_add_one, h]; rfl
theorem c_eachP (l : List ByteArray) (A : Option Addr) (c Bn g m : Nat) (w : World) (kn : Blk w Bn tName #[vName g]) (hs : Seen [] g m w) (hnm : m ≠ Bn) (hl : Sl cS 1 w A l) (hlen : l.length ≤ 1000) (hsz : ∀ s ∈ l, s.size ≤ maxLen) :
    Calls Tryd.prog 102 #[.slice A l.length c, .func (.func 103) #[] #[.pointer (some ⟨Bn, 0, none⟩)]] w
      (fun e w' => e = .returned (.tuple #[.int .i64 (eachS (nmErr l) l 0).1, .int .i64 (eachS (nmErr l) l 0).2]) ∧ BX [m] w w') :=
  (c_eachJN 103 #[.pointer (some ⟨Bn, 0, none⟩)] (nmErr l) (fun k W => Seen (l.take k) g m W) [m] A l c w (by omega) (enters_of Tryd.func103 (by kernel_rfl) rfl) (fun k X Y h hb => h.below hb)
    (fun k x hx W hb hj => (c_net1 k (l.take k) x Bn g m W (kn.keep (by simpa using fun e => hnm e.symm) hb) hj (hsz x (List.mem_of_getElem? hx)) (by rw [List.length_take]; omega)).mono fun e W' ⟨e1, e2, e3⟩ => ⟨e1, e2, fun _ => by rw [take_next hx]; exact e3⟩)
    (fun W hb => sl_map hl hs hb) hs).mono fun e W' ⟨h1, h2, _⟩ => ⟨h1, h2⟩
theorem c_eachFu (parts : Nat) (l : List Fu) (A : Option Addr) (c Bn Bp g m : Nat) (w : World) (kn : Blk w Bn tName #[vName g]) (kp : Blk w Bp 3 #[.int .i64 parts]) (hs : Seen [] g m w) (hnm : m ≠ Bn) (hpm : m ≠ Bp) (hl : Sl cFu 2 w A l) (hlen : l.length ≤ 1000) (hin : ∀ f ∈ l, FuIn f w) (hpt : parts ≤ 1000) :
    Calls Tryd.prog 104 #[.slice A l.length c, .func (.func 105) #[] #[.pointer (some ⟨Bn, 0, none⟩), .pointer (some ⟨Bp, 0, none⟩)]] w
      (fun e w' => e = .returned (.tuple #[.int .i64 (eachS (fuErr parts (l.map fun f : Fu => f.name)) l 0).1, .int .i64 (eachS (fuErr parts (l.map fun f : Fu => f.name)) l 0).2]) ∧ BX [m] w w') :=
  (c_eachJF 105 #[.pointer (some ⟨Bn, 0, none⟩), .pointer (some ⟨Bp, 0, none⟩)] (fuErr parts (l.map fun f : Fu => f.name)) (fun k W => Seen ((l.map fun f : Fu => f.name).take k) g m W) [m] A l c w (by omega) (enters_of Tryd.func105 (by kernel_rfl) rfl) (fun k X Y h hb => h.below hb)
    (fun k x hx W hb hj => (c_net2 k parts ((l.map fun f : Fu => f.name).take k) x Bn Bp g m W (kn.keep (by simpa using fun e => hnm e.symm) hb) (kp.keep (by simpa using fun e => hpm e.symm) hb) hj ((hin x (List.mem_of_getElem? hx)).map hs hb)
      (by rw [List.length_take, List.length_map]; omega) (by omega) hnm hpm).mono fun e W' ⟨e1, e2, e3⟩ => ⟨e1, e2, fun _ => by rw [take_next (x := x.name) (by rw [List.getElem?_map, hx]; rfl)]; exact e3⟩)
    (fun W hb => sl_map hl hs hb) hs).mono fun e W' ⟨h1, h2, _⟩ => ⟨h1, h2⟩
theorem c_eachMd (funs : Nat) (l : List Md) (A : Option Addr) (c Bn Bp g m : Nat) (w : World) (kn : Blk w Bn tName #[vName g]) (kp : Blk w Bp 3 #[.int .i64 funs]) (hs : Seen [] g m w) (hnm : m ≠ Bn) (hpm : m ≠ Bp) (hl : Sl cMd 2 w A l) (hlen : l.length ≤ 1000) (hin : ∀ f ∈ l, MdIn f w) (hpt : funs ≤ 1000) :
    Calls Tryd.prog 107 #[.slice A l.length c, .func (.func 108) #[] #[.pointer (some ⟨Bn, 0, none⟩), .pointer (some ⟨Bp, 0, none⟩)]] w
      (fun e w' => e = .returned (.tuple #[.int .i64 (eachS (mdErr funs (l.map fun f : Md => f.name)) l 0).1, .int .i64 (eachS (mdErr funs (l.map fun f : Md => f.name)) l 0).2]) ∧ BX [m] w w') :=
  (c_eachJM 108 #[.pointer (some ⟨Bn, 0, none⟩), .pointer (some ⟨Bp, 0, none⟩)] (mdErr funs (l.map fun f : Md => f.name)) (fun k W => Seen ((l.map fun f : Md => f.name).take k) g m W) [m] A l c w (by omega) (enters_of Tryd.func108 (by kernel_rfl) rfl) (fun k X Y h hb => h.below hb)
    (fun k x hx W hb hj => (c_net3 k funs ((l.map fun f : Md => f.name).take k) x Bn Bp g m W (kn.keep (by simpa using fun e => hnm e.symm) hb) (kp.keep (by simpa using fun e => hpm e.symm) hb) hj ((hin x (List.mem_of_getElem? hx)).map hs hb)
      (by rw [List.length_take, List.length_map]; omega) (by omega) hnm hpm).mono fun e W' ⟨e1, e2, e3⟩ => ⟨e1, e2, fun _ => by rw [take_next (x := x.name) (by rw [List.getElem?_map, hx]; rfl)]; exact e3⟩)
    (fun W hb => sl_map hl hs hb) hs).mono fun e W' ⟨h1, h2, _⟩ => ⟨h1, h2⟩
abbrev aNt (Ap Af Am : Option Addr) (np nf nm cp cf cm : Nat) : Array Value := #[.slice Ap np cp, .slice Af nf cf, .slice Am nm cm]
abbrev vNt (Ap Af Am : Option Addr) (np nf nm cp cf cm : Nat) : Value := .agg (aNt Ap Af Am np nf nm cp cf cm)
set_option maxHeartbeats 8000000 in
theorem c_CheckNet (n : Nt) (Ap Af Am : Option Addr) (cp cf cm : Nat) (w : World) (hn : NtIn n Ap Af Am cp cf cm w) :
    Calls Tryd.prog 49 #[vNt Ap Af Am n.ps.length n.fs.length n.ms.length cp cf cm] w (Ret (.tuple #[.int .i64 (netChk n).1, .int .i64 (netChk n).2]) w) := by
  have Hn := Lib.hid hn
  have h1 := hn.plen
  have h2 := hn.flen
  have h3 := hn.mlen
  have hE : Hid (n.e0 = fstE [unl (decide (0 < n.ps.length)) 10, unl (decide (max (n.ps.length : Int) n.fs.length ≤ 10) && decide ((n.ms.length : Int) ≤ 6)) 8]) := rfl
  have r0 : Hid (n.e0 ≠ 0 → netChk n = (0, n.e0)) := fun h => by rw [netChk, if_neg h]
  have r1 : Hid (n.e0 = 0 → (eachS (nmErr n.ps) n.ps 0).2 ≠ 0 → netChk n = eachS (nmErr n.ps) n.ps 0) := fun h h' => by rw [netChk, if_pos h, if_neg h']
  have r2 : Hid (n.e0 = 0 → (eachS (nmErr n.ps) n.ps 0).2 = 0 → (eachS (fuErr n.ps.length (n.fs.map fun f : Fu => f.name)) n.fs 0).2 ≠ 0 → netChk n = eachS (fuErr n.ps.length (n.fs.map fun f : Fu => f.name)) n.fs 0) := fun h h' h'' => by rw [netChk, if_pos h, if_pos h', if_neg h'']
  have r3 : Hid (n.e0 = 0 → (eachS (nmErr n.ps) n.ps 0).2 = 0 → (eachS (fuErr n.ps.length (n.fs.map fun f : Fu => f.name)) n.fs 0).2 = 0 → netChk n = eachS (mdErr n.fs.length (n.ms.map fun f : Md => f.name)) n.ms 0) := fun h h' h'' => by rw [netChk, if_pos h, if_pos h', if_pos h'']
  have hp := Lib.hid fun (Bn g m : Nat) (W : World) (hb : Below w.heap.size w W) (kn : Blk W Bn tName #[vName g]) (hs : Seen [] g m W) (hnm : m ≠ Bn) => c_eachP n.ps Ap cp Bn g m W kn hs hnm (Hn.out.psl.below hb) h1 Hn.out.pnm
  have hf := Lib.hid fun (Bn Bp g m : Nat) (W : World) (hb : Below w.heap.size w W) (kn : Blk W Bn tName #[vName g]) (kp : Blk W Bp 3 #[.int .i64 n.ps.length]) (hs : Seen [] g m W) (hnm : m ≠ Bn) (hpm : m ≠ Bp) =>
    c_eachFu n.ps.length n.fs Af cf Bn Bp g m W kn kp hs hnm hpm (Hn.out.fsl.below hb) h2 (fun f hf => (Hn.out.fin f hf).below hb) h1
  have hm := Lib.hid fun (Bn Bp g m : Nat) (W : World) (hb : Below w.heap.size w W) (kn : Blk W Bn tName #[vName g]) (kp : Blk W Bp 3 #[.int .i64 n.fs.length]) (hs : Seen [] g m W) (hnm : m ≠ Bn) (hpm : m ≠ Bp) =>
    c_eachMd n.fs.length n.ms Am cm Bn Bp g m W kn kp hs hnm hpm (Hn.out.msl.below hb) h3 (fun f hf => (Hn.out.min f hf).below hb) h2
  clear hn Hn
  generalize eachS (nmErr n.ps) n.ps 0 = P1 at *
  generalize eachS (fuErr n.ps.length (n.fs.map fun f : Fu => f.name)) n.fs 0 = P2 at *
  generalize eachS (mdErr n.fs.length (n.ms.map fun f : Md => f.name)) n.ms 0 = P3 at *
  obtain ⟨p1, q1⟩ := P1
  obtain ⟨p2, q2⟩ := P2
  obtain ⟨p3, q3⟩ := P3
  dsimp only at *
  change Calls Tryd.prog 49 #[.agg #[.slice Ap n.ps.length cp, .slice Af n.fs.length cf, .slice Am n.ms.length cm]] w _
  generalize n.ps.length = np at *
  generalize n.fs.length = nf at *
  generalize n.ms.length = nm at *
  cases hA : decide (max (np : Int) nf ≤ 10)
  all_goals
    rw [hA] at hE
    simp only [Bool.false_and, Bool.true_and] at hE
    go_enter Tryd.func49, Tryd.ntmps49
    go_upto_region 1 with fail
    first
    | apply absB1 (w0 := w) (g0 := w.heap.size)
    | apply absTB1 (w0 := w) (g0 := w.heap.size)
    | apply absIB1 (w0 := w) (g0 := w.heap.size)
    iterate 2 (focus ((with_reducible (repeat' (first | assumption | apply jA | apply jB | apply jC | apply jD | apply jE | apply jF | apply hb3 | apply jG | apply jH | apply jI | apply jJ | apply jK | apply hb3x | (apply jL; first | (simp; done) | rfl) | apply jM | apply jN | apply jO | apply jP | apply jQ | apply jR | apply jS | apply jT (hb := hb3 _ (jA _)) | omega | (simp; done) | (simp; omega) | (dsimp only; omega)))); done))
    intro wa hb0' k0'
    (try simp only [List.setIfInBounds_toArray, List.set_cons_zero, List.set_cons_succ] at k0')
    try clear hb3
    try clear hb0
    try clear k0
    have hb0 := hb0'; clear hb0'
    have k0 := k0'; clear k0'
    have Lk0 := k0.later
    have Fk0 := k0.laterF
    have Qk0 := k0.lt
    refine wp_any (w0 := wa) ⟨[8, 9], [3, 4, 5], [some 12, some 13, some 14, some 15, some 16, some 17, some 4, some 5, none, none], [[], [0], [0, 1], [], [3], [3, 4], [], [], [0, 1, 2, 6, 7], [0, 1, 2, 3, 4, 5, 6, 7, 8]], [[], [0], [1], [], [3], [4], [], [], [], []]⟩ (fun γ => frX wa [(γ 6).n, (γ 7).n]) (by kernel_rfl) (by kernel_rfl) (by (with_reducible (repeat' (first | assumption | apply jA | apply jB | apply jC | apply jD | apply jE | apply jF | apply hb3 | omega | (simp; done) | (simp; omega) | (dsimp only; omega))))) (fun u => by simp only [putD, Act.put, List.setIfInBounds_toArray, List.set_cons_zero, List.set_cons_succ, Nat.zero_add, Nat.reduceAdd]; rfl) ?_
    apply RGW.on (i := 0) rfl
    · (simp only [gA, gB, gC] <;> rfl)
    · intro γ u W hcur hd
      clear hd
      (try dsimp only)
      refine ⟨rfl, ?_⟩
      go_simp <;> (try go_bits) <;> with_reducible rfl
    · exact fun _ _ _ => rfl
    · rfl
    dsimp only [nA, cA]
    apply RGW.on (i := 1) rfl
    · (simp only [gA, gB, gC] <;> rfl)
    · intro γ u W hcur hd
      obtain ⟨⟨h0, -, -⟩, -⟩ := hd
      dsimp only at h0
      (try simp only [h0])
      refine ⟨rfl, ?_⟩
      go_simp <;> (try go_bits) <;> with_reducible rfl
    · exact fun _ _ _ => rfl
    · rfl
    dsimp only [nA, cA]
    apply RGW.on (i := 2) rfl
    · (simp only [gA, gB, gC] <;> rfl)
    · intro γ u W hcur hd
      obtain ⟨⟨h1, -, -⟩, -⟩ := hd
      dsimp only at h1
      (try simp only [h1])
      refine ⟨rfl, ?_⟩
      go_simp <;> (try go_bits) <;> with_reducible rfl
    · exact fun _ _ _ => rfl
    · rfl
    dsimp only [nA, cA]
    apply RGW.onL (i := 3) rfl
    · (simp only [gA, gB, gC] <;> rfl)
    · intro γ u Wm W hcurM hd hX; have hcur := bx_fresh hX hcurM
      clear hd
      (try dsimp only)
      refine ⟨rfl, ?_⟩
      go_simp <;> (try go_bits) <;> with_reducible rfl
    · exact fun _ _ _ => rfl
    dsimp only [nA, cA]
    apply RGW.onL (i := 4) rfl
    · (simp only [gA, gB, gC] <;> rfl)
    · intro γ u Wm W hcurM hd hX; have hcur := bx_fresh hX hcurM
      obtain ⟨⟨h3, -, -⟩, -⟩ := hd
      dsimp only at h3
      (try simp only [h3])
      refine ⟨rfl, ?_⟩
      go_simp <;> (try go_bits) <;> with_reducible rfl
    · exact fun _ _ _ => rfl
    dsimp only [nA, cA]
    apply RGW.onL (i := 5) rfl
    · (simp only [gA, gB, gC] <;> rfl)
    · intro γ u Wm W hcurM hd hX; have hcur := bx_fresh hX hcurM
      obtain ⟨⟨h4, -, -⟩, -⟩ := hd
      dsimp only at h4
      (try simp only [h4])
      refine ⟨rfl, ?_⟩
      go_simp <;> (try go_bits) <;> with_reducible rfl
    · exact fun _ _ _ => rfl
    dsimp only [nA, cA]
    apply RGW.alloc (i := 6) rfl
    · (simp only [gA, gB, gC] <;> rfl)
    · intro γ u W hcur hd
      clear hd
      (try dsimp only)
      refine ⟨rfl, fun K hK => ?_⟩
      go_simp
      exact hK.out _ _ rfl rfl
    · exact fun _ _ _ => rfl
    · rfl
    · rfl
    dsimp only [nA, cA]
    apply RGW.alloc (i := 7) rfl
    · (simp only [gA, gB, gC] <;> rfl)
    · intro γ u W hcur hd
      clear hd
      (try dsimp only)
      refine ⟨rfl, fun K hK => ?_⟩
      go_simp
      exact hK.out _ _ rfl rfl
    · exact fun _ _ _ => rfl
    · rfl
    · rfl
    dsimp only [nA, cA]
    refine RGW.skip (i := 8) rfl rfl ?_
    dsimp only [nA, cA]
    refine RGW.skip (i := 9) rfl rfl ?_
    dsimp only [nA, cA]
    refine RGW.fin (fun γ u wb hwb hd hdis => ?_)
    obtain ⟨⟨h0, -, -⟩, ⟨h1, -, -⟩, ⟨h2, -, -⟩, ⟨h3, -, -⟩, ⟨h4, -, -⟩, ⟨h5, -, -⟩, ⟨h6, r6, b6⟩, ⟨h7, r7, b7⟩, -⟩ := hd
    dsimp only at h0 h1 h2 h3 h4 h5 h6 h7 r6 r7 b6 b7
    have n6_7 := hdis 6 7 rfl rfl (Nat.lt_of_lt_of_eq (by decide : 6 < 10) (by kernel_rfl)) (Nat.lt_of_lt_of_eq (by decide : 7 < 10) (by kernel_rfl)) (by decide) _ (List.mem_singleton.2 rfl) _ (List.mem_singleton.2 rfl)
    clear hdis
    simp only [h0, h1, h2, h3, h4, h5, h6, h7]
    clear h7 h6 h5 h4 h3 h2 h1 h0
    replace b6 := b6 _ (List.mem_singleton.2 rfl)
    generalize hγ6 : (γ 6).n = g6 at *
    clear hγ6
    replace b7 := b7 _ (List.mem_singleton.2 rfl)
    generalize hγ7 : (γ 7).n = g7 at *
    clear hγ7
    clear u
    simp only [List.map_cons, List.map_nil]
    rw [frX_eq (L := [g6, g7]) (by intro x hx; simp at hx; omega)]
    apply PlanW.step
    · (simp only [gA, gB, gC] <;> rfl)
    · rfl
    intro K hK
    first
    | refine wp_store_keep (X := [g6, g7]) (w0 := wb) rfl rfl rfl (by with_reducible first | exact bx_refl _ _ | assumption) (by with_reducible first | assumption | (apply Blk.below (hb := hwb); assumption)) (by simp) (by kernel_rfl) (by rfl) (by simp [Value.oneCell']) (fun hres1 hcur => ?_)
      refine hK.out _ _ hcur (fun _ => ?_)
    | go_simp
      refine hK.out _ _ (by (with_reducible (repeat' (first | assumption | apply jG | apply jH | apply jI | apply jJ | apply jK | apply hb3x | omega | (simp; done) | (simp; omega) | (dsimp only; omega))))) (fun hcur => ?_)
    | obtain ⟨u0, v0, z0⟩ := bx_cell0 hcur (Blk.below k0 hwb) (by simp)
      go_simp
      refine hK.out _ _ (by (with_reducible (repeat' (first | assumption | apply jG | apply jH | apply jI | apply jJ | apply jK | apply hb3x | omega | (simp; done) | (simp; omega) | (dsimp only; omega))))) (fun hcur => ?_)
    | obtain ⟨u0, v0, z0⟩ := bx_cell0 (X := [g6, g7]) (w0 := wb) (by with_reducible first | assumption | exact bx_refl _ _) r6 (by simp)
      go_simp
      refine hK.out _ _ (by (with_reducible (repeat' (first | assumption | apply jG | apply jH | apply jI | apply jJ | apply jK | apply hb3x | omega | (simp; done) | (simp; omega) | (dsimp only; omega))))) (fun hcur => ?_)
    | obtain ⟨u0, v0, z0⟩ := bx_cell0 (X := [g6, g7]) (w0 := wb) (by with_reducible first | assumption | exact bx_refl _ _) r7 (by simp)
      go_simp
      refine hK.out _ _ (by (with_reducible (repeat' (first | assumption | apply jG | apply jH | apply jI | apply jJ | apply jK | apply hb3x | omega | (simp; done) | (simp; omega) | (dsimp only; omega))))) (fun hcur => ?_)
    clear hK K
    try simp only [Act.put, List.setIfInBounds_toArray, List.set_cons_zero, List.set_cons_succ]
    apply PlanW.step
    · (simp only [gA, gB, gC] <;> rfl)
    · rfl
    intro K hK
    first
    | refine wp_store_keep (X := [g6, g7]) (w0 := wb) rfl rfl rfl (by with_reducible first | exact bx_refl _ _ | assumption) (by with_reducible first | assumption | (apply Blk.below (hb := hwb); assumption)) (by simp) (by kernel_rfl) (by rfl) (by simp [Value.oneCell']) (fun hres2 hcur => ?_)
      refine hK.out _ _ hcur (fun _ => ?_)
    | go_simp
      refine hK.out _ _ (by (with_reducible (repeat' (first | assumption | apply jG | apply jH | apply jI | apply jJ | apply jK | apply hb3x | omega | (simp; done) | (simp; omega) | (dsimp only; omega))))) (fun hcur => ?_)
    | obtain ⟨u0, v0, z0⟩ := bx_cell0 hcur (Blk.below k0 hwb) (by simp)
      go_simp
      refine hK.out _ _ (by (with_reducible (repeat' (first | assumption | apply jG | apply jH | apply jI | apply jJ | apply jK | apply hb3x | omega | (simp; done) | (simp; omega) | (dsimp only; omega))))) (fun hcur => ?_)
    | obtain ⟨u0, v0, z0⟩ := bx_cell0 (X := [g6, g7]) (w0 := wb) (by with_reducible first | assumption | exact bx_refl _ _) r6 (by simp)
      go_simp
      refine hK.out _ _ (by (with_reducible (repeat' (first | assumption | apply jG | apply jH | apply jI | apply jJ | apply jK | apply hb3x | omega | (simp; done) | (simp; omega) | (dsimp only; omega))))) (fun hcur => ?_)
    | obtain ⟨u0, v0, z0⟩ := bx_cell0 (X := [g6, g7]) (w0 := wb) (by with_reducible first | assumption | exact bx_refl _ _) r7 (by simp)
      go_simp
      refine hK.out _ _ (by (with_reducible (repeat' (first | assumption | apply jG | apply jH | apply jI | apply jJ | apply jK | apply hb3x | omega | (simp; done) | (simp; omega) | (dsimp only; omega))))) (fun hcur => ?_)
    clear hK K
    try simp only [Act.put, List.setIfInBounds_toArray, List.set_cons_zero, List.set_cons_succ]
    refine PlanW.done ?_
    have hb3 := bl_tt hwb
    go_upto_region 2 with fail
    first
    | apply absB3 (w0 := w) (g0 := w.heap.size) (g1 := g6) (g2 := g7)
    | apply absTB3 (w0 := w) (g0 := w.heap.size) (g1 := g6) (g2 := g7)
    | apply absIB3 (w0 := w) (g0 := w.heap.size) (g1 := g6) (g2 := g7)
    iterate 4 (focus ((with_reducible (repeat' (first | assumption | apply jA | apply jB | apply jC | apply jD | apply jE | apply jF | apply hb3 | apply jG | apply jH | apply jI | apply jJ | apply jK | apply hb3x | (apply jL; first | (simp; done) | rfl) | apply jM | apply jN | apply jO | apply jP | apply jQ | apply jR | apply jS | apply jT (hb := hb3 _ (jA _)) | omega | (simp; done) | (simp; omega) | (dsimp only; omega)))); done))
    intro wc hb0' k0' k1' k2'
    (try simp only [List.setIfInBounds_toArray, List.set_cons_zero, List.set_cons_succ] at k0' k1' k2')
    try clear hb3
    try clear Lk0
    try clear Fk0
    try clear Qk0
    try clear hb0
    try clear k0
    try clear k1
    try clear k2
    have hb0 := hb0'; clear hb0'
    have k0 := k0'; clear k0'
    have k1 := k1'; clear k1'
    have k2 := k2'; clear k2'
    have Lk0 := k0.later
    have Fk0 := k0.laterF
    have Qk0 := k0.lt
    have Lk1 := k1.later
    have Fk1 := k1.laterF
    have Qk1 := k1.lt
    have Lk2 := k2.later
    have Fk2 := k2.laterF
    have Qk2 := k2.lt
    refine wp_any (w0 := wc) ⟨[], [], [some 18, some 19, some 20, some 21, some 22, some 23, some 24, some 25, some 26, some 27, some 28, some 29, some 30, some 31, some 32, some 33, some 6], [[], [0], [0, 1], [], [], [3, 4], [3, 4, 5], [0, 1, 2, 3, 4, 5, 6], [0, 1, 2, 3, 4, 5, 6, 7], [0, 1, 2, 3, 4, 5, 6, 7, 8], [0, 1, 2, 3, 4, 5, 6, 7, 8, 9], [0, 1, 2, 3, 4, 5, 6, 7, 8, 9, 10], [0, 1, 2, 3, 4, 5, 6, 7, 8, 9, 10, 11], [0, 1, 2, 3, 4, 5, 6, 7, 8, 9, 10, 11, 12], [0, 1, 2, 3, 4, 5, 6, 7, 8, 9, 10, 11, 12, 13], [0, 1, 2, 3, 4, 5, 6, 7, 8, 9, 10, 11, 12, 13, 14], [0, 1, 2, 3, 4, 5, 6, 7, 8, 9, 10, 11, 12, 13, 14, 15]], [[], [0], [1], [], [], [3, 4], [5], [6], [7], [7, 8], [7, 9], [7, 10], [7, 11], [12], [2, 13], [14], [14, 15]]⟩ (fun _ => []) (by kernel_rfl) (by kernel_rfl) (by (with_reducible (repeat' (first | assumption | apply jA | apply jB | apply jC | apply jD | apply jE | apply jF | apply hb3 | omega | (simp; done) | (simp; omega) | (dsimp only; omega))))) (fun u => by simp only [putD, Act.put, List.setIfInBounds_toArray, List.set_cons_zero, List.set_cons_succ, Nat.zero_add, Nat.reduceAdd]; rfl) ?_
    apply RGW.on (i := 0) rfl
    · (simp only [gA, gB, gC] <;> rfl)
    · intro γ u W hcur hd
      clear hd
      (try dsimp only)
      refine ⟨rfl, ?_⟩
      go_simp <;> (try go_bits) <;> with_reducible rfl
    · exact fun _ _ _ => rfl
    · rfl
    dsimp only [nA, cA]
    apply RGW.on (i := 1) rfl
    · (simp only [gA, gB, gC] <;> rfl)
    · intro γ u W hcur hd
      obtain ⟨⟨h0, -, -⟩, -⟩ := hd
      dsimp only at h0
      (try simp only [h0])
      refine ⟨rfl, ?_⟩
      go_simp <;> (try go_bits) <;> with_reducible rfl
    · exact fun _ _ _ => rfl
    · rfl
    dsimp only [nA, cA]
    apply RGW.call (i := 2) rfl
    · (simp only [gA, gB, gC] <;> rfl)
    · intro γ u W hcur hd
      obtain ⟨⟨h1, -, -⟩, -⟩ := hd
      dsimp only at h1
      (try simp only [h1])
      refine ⟨rfl, fun K hK => ?_⟩
      go_simp
      first
      | (go_at_call 78; (with_reducible refine (c_unless _ _ _).mono ?_); rintro e w3 ⟨rfl, rfl⟩)
      | (go_at_call 77; (with_reducible refine (c_first2 (by (with_reducible (repeat' (first | assumption | (apply jL; first | (simp; done) | rfl) | apply jM | apply jN | apply jO | apply jP | apply jQ | apply jR | apply jS | apply jT (hb := hb3 _ (jA _)) | omega | (simp; done) | (simp; omega) | (dsimp only; omega)))))).mono ?_); rintro e w3 ⟨rfl, rfl⟩)
      (try dsimp only)
      exact hK.out _ _ rfl (by (with_reducible (repeat' (first | assumption | apply jA | apply jB | apply jC | apply jD | apply jE | apply jF | apply hb3 | omega | (simp; done) | (simp; omega) | (dsimp only; omega)))))
    · exact fun _ _ _ => rfl
    · rfl
    dsimp only [nA, cA]
    apply RGW.on (i := 3) rfl
    · (simp only [gA, gB, gC] <;> rfl)
    · intro γ u W hcur hd
      clear hd
      (try dsimp only)
      refine ⟨rfl, ?_⟩
      go_simp <;> (try go_bits) <;> with_reducible rfl
    · exact fun _ _ _ => rfl
    · rfl
    dsimp only [nA, cA]
    apply RGW.on (i := 4) rfl
    · (simp only [gA, gB, gC] <;> rfl)
    · intro γ u W hcur hd
      clear hd
      (try dsimp only)
      refine ⟨rfl, ?_⟩
      go_simp <;> (try go_bits) <;> with_reducible rfl
    · exact fun _ _ _ => rfl
    · rfl
    dsimp only [nA, cA]
    apply RGW.on (i := 5) rfl
    · (simp only [gA, gB, gC] <;> rfl)
    · intro γ u W hcur hd
      obtain ⟨⟨h3, -, -⟩, ⟨h4, -, -⟩, -⟩ := hd
      dsimp only at h3 h4
      (try simp only [h3, h4])
      refine ⟨rfl, ?_⟩
      go_simp <;> (try go_bits) <;> with_reducible rfl
    · exact fun _ _ _ => rfl
    · rfl
    dsimp only [nA, cA]
    apply RGW.on (i := 6) rfl
    · (simp only [gA, gB, gC] <;> rfl)
    · intro γ u W hcur hd
      obtain ⟨⟨h5, -, -⟩, -⟩ := hd
      dsimp only at h5
      (try simp only [h5])
      refine ⟨rfl, ?_⟩
      go_simp <;> (try go_bits) <;> with_reducible rfl
    · exact fun _ _ _ => rfl
    · rfl
    dsimp only [nA, cA]
    apply RGW.on (i := 7) rfl
    · (simp only [gA, gB, gC] <;> rfl)
    · intro γ u W hcur hd
      obtain ⟨⟨h6, -, -⟩, -⟩ := hd
      dsimp only at h6
      (try simp only [h6])
      refine ⟨rfl, ?_⟩
      go_simp <;> (try go_bits) <;> with_reducible rfl
    · exact fun _ _ _ => rfl
    · rfl
    dsimp only [nA, cA]
    first
    | apply RGW.on (i := 8) rfl
      · (simp only [gA, gB, gC] <;> rfl)
      · intro γ u W hcur hd
        obtain ⟨⟨h7, -, -⟩, -⟩ := hd
        dsimp only at h7
        (try simp only [h7])
        refine ⟨?_, ?_⟩
        · (simp [Region.wanted, yielded, undef, *]; done)
        go_simp <;> (try go_bits) <;> with_reducible rfl
      · exact fun _ _ _ => rfl
      · rfl
    | apply RGW.off (i := 8) rfl
      · (simp only [gA, gB, gC] <;> rfl)
      · intro γ u W hcur hd
        obtain ⟨⟨h7, -, -⟩, -⟩ := hd
        dsimp only at h7
        (try simp only [h7])
        simp [Region.wanted, yielded, undef, *]
      · rfl
    dsimp only [nA, cA]
    first
    | apply RGW.on (i := 9) rfl
      · (simp only [gA, gB, gC] <;> rfl)
      · intro γ u W hcur hd
        obtain ⟨⟨h7, -, -⟩, ⟨h8, -, -⟩, -⟩ := hd
        dsimp only at h7 h8
        (try simp only [h7, h8])
        refine ⟨?_, ?_⟩
        · (simp [Region.wanted, yielded, undef, *]; done)
        go_simp <;> (try go_bits) <;> with_reducible rfl
      · exact fun _ _ _ => rfl
      · rfl
    | apply RGW.off (i := 9) rfl
      · (simp only [gA, gB, gC] <;> rfl)
      · intro γ u W hcur hd
        obtain ⟨⟨h7, -, -⟩, ⟨h8, -, -⟩, -⟩ := hd
        dsimp only at h7 h8
        (try simp only [h7, h8])
        simp [Region.wanted, yielded, undef, *]
      · rfl
    dsimp only [nA, cA]
    first
    | apply RGW.on (i := 10) rfl
      · (simp only [gA, gB, gC] <;> rfl)
      · intro γ u W hcur hd
        obtain ⟨⟨h7, -, -⟩, ⟨h9, -, -⟩, -⟩ := hd
        dsimp only at h7 h9
        (try simp only [h7, h9])
        refine ⟨?_, ?_⟩
        · (simp [Region.wanted, yielded, undef, *]; done)
        go_simp <;> (try go_bits) <;> with_reducible rfl
      · exact fun _ _ _ => rfl
      · rfl
    | apply RGW.off (i := 10) rfl
      · (simp only [gA, gB, gC] <;> rfl)
      · intro γ u W hcur hd
        obtain ⟨⟨h7, -, -⟩, ⟨h9, -, -⟩, -⟩ := hd
        dsimp only at h7 h9
        (try simp only [h7, h9])
        simp [Region.wanted, yielded, undef, *]
      · rfl
    dsimp only [nA, cA]
    first
    | apply RGW.on (i := 11) rfl
      · (simp only [gA, gB, gC] <;> rfl)
      · intro γ u W hcur hd
        obtain ⟨⟨h7, -, -⟩, ⟨h10, -, -⟩, -⟩ := hd
        dsimp only at h7 h10
        (try simp only [h7, h10])
        refine ⟨?_, ?_⟩
        · (simp [Region.wanted, yielded, undef, *]; done)
        go_simp <;> (try go_bits) <;> with_reducible rfl
      · exact fun _ _ _ => rfl
      · rfl
    | apply RGW.off (i := 11) rfl
      · (simp only [gA, gB, gC] <;> rfl)
      · intro γ u W hcur hd
        obtain ⟨⟨h7, -, -⟩, ⟨h10, -, -⟩, -⟩ := hd
        dsimp only at h7 h10
        (try simp only [h7, h10])
        simp [Region.wanted, yielded, undef, *]
      · rfl
    dsimp only [nA, cA]
    apply RGW.on (i := 12) rfl
    · (simp only [gA, gB, gC] <;> rfl)
    · intro γ u W hcur hd
      obtain ⟨⟨h7, -, -⟩, ⟨h11, -, -⟩, -⟩ := hd
      dsimp only at h7 h11
      (try simp only [h7, h11])
      refine ⟨rfl, ?_⟩
      go_simp <;> (try go_bits) <;> with_reducible rfl
    · exact fun _ _ _ => rfl
    · rfl
    dsimp only [nA, cA]
    apply RGW.call (i := 13) rfl
    · (simp only [gA, gB, gC] <;> rfl)
    · intro γ u W hcur hd
      obtain ⟨⟨h12, -, -⟩, -⟩ := hd
      dsimp only at h12
      (try simp only [h12])
      refine ⟨rfl, fun K hK => ?_⟩
      go_simp
      first
      | (go_at_call 78; (with_reducible refine (c_unless _ _ _).mono ?_); rintro e w3 ⟨rfl, rfl⟩)
      | (go_at_call 77; (with_reducible refine (c_first2 (by (with_reducible (repeat' (first | assumption | (apply jL; first | (simp; done) | rfl) | apply jM | apply jN | apply jO | apply jP | apply jQ | apply jR | apply jS | apply jT (hb := hb3 _ (jA _)) | omega | (simp; done) | (simp; omega) | (dsimp only; omega)))))).mono ?_); rintro e w3 ⟨rfl, rfl⟩)
      (try dsimp only)
      exact hK.out _ _ rfl (by (with_reducible (repeat' (first | assumption | apply jA | apply jB | apply jC | apply jD | apply jE | apply jF | apply hb3 | omega | (simp; done) | (simp; omega) | (dsimp only; omega)))))
    · exact fun _ _ _ => rfl
    · rfl
    dsimp only [nA, cA]
    apply RGW.bslice (i := 14) rfl
    · (simp only [gA, gB, gC] <;> rfl)
    · intro γ u W hcur hd
      obtain ⟨⟨h2, -, -⟩, ⟨h13, -, -⟩, -⟩ := hd
      dsimp only at h2 h13
      (try simp only [h2, h13])
      refine ⟨rfl, fun K hK => ?_⟩
      go_simp
      exact hK.out _ _ rfl rfl
    · exact fun _ _ _ => rfl
    · rfl
    · rfl
    dsimp only [nA, cA]
    apply RGW.call (i := 15) rfl
    · (simp only [gA, gB, gC] <;> rfl)
    · intro γ u W hcur hd
      obtain ⟨⟨h14, r14, -⟩, -⟩ := hd
      dsimp only at h14 r14
      have L14 := r14.cell
      (try simp only [h14])
      refine ⟨rfl, fun K hK => ?_⟩
      go_simp
      first
      | (go_at_call 78; (with_reducible refine (c_unless _ _ _).mono ?_); rintro e w3 ⟨rfl, rfl⟩)
      | (go_at_call 77; (with_reducible refine (c_first2 (by (with_reducible (repeat' (first | assumption | (apply jL; first | (simp; done) | rfl) | apply jM | apply jN | apply jO | apply jP | apply jQ | apply jR | apply jS | apply jT (hb := hb3 _ (jA _)) | omega | (simp; done) | (simp; omega) | (dsimp only; omega)))))).mono ?_); rintro e w3 ⟨rfl, rfl⟩)
      (try dsimp only)
      exact hK.out _ _ rfl (by (with_reducible (repeat' (first | assumption | apply jA | apply jB | apply jC | apply jD | apply jE | apply jF | apply hb3 | omega | (simp; done) | (simp; omega) | (dsimp only; omega)))))
    · first
      | exact fun _ _ _ => rfl
      | intro γ γ' hg
        try dsimp only
        have e14 := hg 14 (by decide)
        simp only [e14]
    · rfl
    dsimp only [nA, cA]
    apply RGW.on (i := 16) rfl
    · (simp only [gA, gB, gC] <;> rfl)
    · intro γ u W hcur hd
      obtain ⟨⟨h14, r14, -⟩, ⟨h15, -, -⟩, -⟩ := hd
      dsimp only at h14 h15 r14
      have L14 := r14.cell
      (try simp only [h14, h15])
      refine ⟨rfl, ?_⟩
      go_simp <;> (try go_bits) <;> with_reducible rfl
    · first
      | exact fun _ _ _ => rfl
      | intro γ γ' hg
        try dsimp only
        have e14 := hg 14 (by decide)
        simp only [e14]
    · rfl
    dsimp only [nA, cA]
    refine RGW.fin (fun γ u wd hwd hd hdis => ?_)
    obtain ⟨⟨h0, -, -⟩, ⟨h1, -, -⟩, ⟨h2, -, -⟩, ⟨h3, -, -⟩, ⟨h4, -, -⟩, ⟨h5, -, -⟩, ⟨h6, -, -⟩, ⟨h7, -, -⟩, ⟨h8, -, -⟩, ⟨h9, -, -⟩, ⟨h10, -, -⟩, ⟨h11, -, -⟩, ⟨h12, -, -⟩, ⟨h13, -, -⟩, ⟨h14, r14, b14⟩, ⟨h15, -, -⟩, ⟨h16, -, -⟩, -⟩ := hd
    dsimp only at h0 h1 h2 h3 h4 h5 h6 h7 h8 h9 h10 h11 h12 h13 h14 h15 h16 r14 b14
    clear hdis
    simp only [h0, h1, h2, h3, h4, h5, h6, h7, h8, h9, h10, h11, h12, h13, h14, h15, h16]
    clear h16 h15 h14 h13 h12 h11 h10 h9 h8 h7 h6 h5 h4 h3 h2 h1 h0
    replace b14 := b14 _ (List.mem_singleton.2 rfl)
    generalize hγ14 : (γ 14).n = g14 at *
    clear hγ14
    clear u
    simp only [List.map_nil]
    refine PlanW.done ?_
    have hb3 := bl_tt hwd
    rw [← hE.out]
    first
    | apply absB3 (w0 := w) (g0 := w.heap.size) (g1 := g6) (g2 := g7)
    | apply absTB3 (w0 := w) (g0 := w.heap.size) (g1 := g6) (g2 := g7)
    | apply absIB3 (w0 := w) (g0 := w.heap.size) (g1 := g6) (g2 := g7)
    iterate 4 (focus ((with_reducible (repeat' (first | assumption | apply jA | apply jB | apply jC | apply jD | apply jE | apply jF | apply hb3 | apply jG | apply jH | apply jI | apply jJ | apply jK | apply hb3x | (apply jL; first | (simp; done) | rfl) | apply jM | apply jN | apply jO | apply jP | apply jQ | apply jR | apply jS | apply jT (hb := hb3 _ (jA _)) | omega | (simp; done) | (simp; omega) | (dsimp only; omega)))); done))
    intro we hb0' k0' k1' k2'
    (try simp only [List.setIfInBounds_toArray, List.set_cons_zero, List.set_cons_succ] at k0' k1' k2')
    try clear hb3
    try clear Lk0
    try clear Fk0
    try clear Qk0
    try clear Lk1
    try clear Fk1
    try clear Qk1
    try clear Lk2
    try clear Fk2
    try clear Qk2
    try clear hb0
    try clear k0
    try clear k1
    try clear k2
    have hb0 := hb0'; clear hb0'
    have k0 := k0'; clear k0'
    have k1 := k1'; clear k1'
    have k2 := k2'; clear k2'
    clear hE hA
    by_cases he0 : n.e0 = 0
    rotate_left
    · go_wp2
      go_ret2
      exact ⟨by rw [r0.out he0] <;> rfl, by (with_reducible (repeat' (first | assumption | apply jA | apply jB | apply jC | apply jD | apply jE | apply jF | apply hb3 | omega | (simp; done) | (simp; omega) | (dsimp only; omega))))⟩
    go_wp2_with fail
    refine (c_names we).mono ?_
    rintro e w1a ⟨rfl, hbn, hs⟩
    have hw3 : Below w.heap.size w w1a := bl_tr hb0 hbn
    have hle := hb0.size
    have hl0 := k0.lt
    have hl1 := k1.lt
    have hl2 := k2.lt
    replace k0 := k0.below hbn
    replace k1 := k1.below hbn
    replace k2 := k2.below hbn
    have hsl := hs.lt
    clear hb0
    go_upto_region 6 with fail
    first
    | apply absB4 (w0 := w1a) (g0 := w.heap.size) (g1 := g6) (g2 := g7) (g3 := w1a.heap.size)
    | apply absTB4 (w0 := w1a) (g0 := w.heap.size) (g1 := g6) (g2 := g7) (g3 := w1a.heap.size)
    | apply absIB4 (w0 := w1a) (g0 := w.heap.size) (g1 := g6) (g2 := g7) (g3 := w1a.heap.size)
    iterate 5 (focus ((with_reducible (repeat' (first | assumption | apply jA | apply jB | apply jC | apply jD | apply jE | apply jF | apply hb3 | apply jG | apply jH | apply jI | apply jJ | apply jK | apply hb3x | (apply jL; first | (simp; done) | rfl) | apply jM | apply jN | apply jO | apply jP | apply jQ | apply jR | apply jS | apply jT (hb := hb3 _ (jA _)) | omega | (simp; done) | (simp; omega) | (dsimp only; omega)))); done))
    intro w1b hb0' k0' k1' k2' k3'
    (try simp only [List.setIfInBounds_toArray, List.set_cons_zero, List.set_cons_succ] at k0' k1' k2' k3')
    try clear hb3
    try clear hb0
    try clear k0
    try clear k1
    try clear k2
    try clear k3
    have hb0 := hb0'; clear hb0'
    have k0 := k0'; clear k0'
    have k1 := k1'; clear k1'
    have k2 := k2'; clear k2'
    have k3 := k3'; clear k3'
    have L0 := k0.cell
    go_wp2_with fail
    clear L0
    refine (hp.out w1a.heap.size (we.heap.size + 1) we.heap.size w1b (bl_tr hw3 hb0) k3 (hs.below hb0) (by omega)).mono ?_
    rintro e w1c ⟨rfl, hx⟩
    have hb3 : Hid (w.heap.size ≤ w1a.heap.size ∧ w.heap.size < w1a.heap.size ∧ g6 < w1a.heap.size ∧ g7 < w1a.heap.size) := ⟨hw3.size, by omega, by omega, by omega⟩
    replace hb0 := bx_below (bl_tr hw3 hb0) hx (by simpa using hle)
    replace k0 := k0.keep (by simp; omega) hx
    replace k1 := k1.keep (by simp; omega) hx
    replace k2 := k2.keep (by simp; omega) hx
    replace k3 := k3.keep (by simp; omega) hx
    clear hx hs hsl hle hl0 hl1 hl2 hw3
    by_cases hq1 : q1 = 0
    rotate_left
    · go_wp2
      go_ret2
      exact ⟨by rw [r1.out he0 hq1] <;> rfl, by (with_reducible (repeat' (first | assumption | apply jA | apply jB | apply jC | apply jD | apply jE | apply jF | apply hb3 | omega | (simp; done) | (simp; omega) | (dsimp only; omega))))⟩
    go_wp2_with fail
    refine (c_names w1c).mono ?_
    rintro e w2a ⟨rfl, hbn, hs⟩
    have hw3 : Below w.heap.size w w2a := bl_tr hb0 hbn
    have hle := hb0.size
    have hl0 := k0.lt
    have hl1 := k1.lt
    have hl2 := k2.lt
    have hl3 := k3.lt
    have hg3 := hb3.out
    replace k0 := k0.below hbn
    replace k1 := k1.below hbn
    replace k2 := k2.below hbn
    replace k3 := k3.below hbn
    have hsl := hs.lt
    clear hb0
    have L3 := k3.cell
    have F3 := k3.frozen
    go_upto_region 10 with fail
    clear L3 F3
    have hx : BX [w1a.heap.size] w2a (w2a.setCell ⟨w1a.heap.size, 0, none⟩ (vName (w1c.heap.size + 1))) := bx_set (.inl (by simp)) _ (bx_refl _ _)
    replace hs := hs.bx hx (by simp; omega) (by simp; omega)
    replace k0 := k0.keep (by simp; omega) hx
    replace k1 := k1.keep (by simp; omega) hx
    replace k2 := k2.keep (by simp; omega) hx
    replace k3 : Blk (w2a.setCell ⟨w1a.heap.size, 0, none⟩ (vName (w1c.heap.size + 1))) w1a.heap.size tName #[vName (w1c.heap.size + 1)] := k3.set1 (by simp)
    have hb0 := bx_below hw3 hx (by simpa using hg3.1)
    clear hx hw3 hbn
    generalize hW : w2a.setCell ⟨w1a.heap.size, 0, none⟩ (vName (w1c.heap.size + 1)) = w2b at *
    clear hW
    have L0 := k0.cell
    go_wp2_with fail
    clear L0
    refine (hf.out w1a.heap.size g6 (w1c.heap.size + 1) w1c.heap.size w2b hb0 k3 k1 hs (by omega) (by omega)).mono ?_
    rintro e w2c ⟨rfl, hx⟩
    replace hb0 := bx_below hb0 hx (by simpa using hle)
    replace k0 := k0.keep (by simp; omega) hx
    replace k1 := k1.keep (by simp; omega) hx
    replace k2 := k2.keep (by simp; omega) hx
    replace k3 := k3.keep (by simp; omega) hx
    clear hx hs hsl hle hl0 hl1 hl2 hl3 hg3
    by_cases hq2 : q2 = 0
    rotate_left
    · go_wp2
      go_ret2
      exact ⟨by rw [r2.out he0 hq1 hq2] <;> rfl, hb0⟩
    go_wp2_with fail
    refine (c_names w2c).mono ?_
    rintro e w3a ⟨rfl, hbn, hs⟩
    have hw3 : Below w.heap.size w w3a := bl_tr hb0 hbn
    have hle := hb0.size
    have hl0 := k0.lt
    have hl1 := k1.lt
    have hl2 := k2.lt
    have hl3 := k3.lt
    have hg3 := hb3.out
    replace k0 := k0.below hbn
    replace k1 := k1.below hbn
    replace k2 := k2.below hbn
    replace k3 := k3.below hbn
    have hsl := hs.lt
    clear hb0
    have L3 := k3.cell
    have F3 := k3.frozen
    go_upto_region 14 with fail
    clear L3 F3
    have hx : BX [w1a.heap.size] w3a (w3a.setCell ⟨w1a.heap.size, 0, none⟩ (vName (w2c.heap.size + 1))) := bx_set (.inl (by simp)) _ (bx_refl _ _)
    replace hs := hs.bx hx (by simp; omega) (by simp; omega)
    replace k0 := k0.keep (by simp; omega) hx
    replace k1 := k1.keep (by simp; omega) hx
    replace k2 := k2.keep (by simp; omega) hx
    replace k3 : Blk (w3a.setCell ⟨w1a.heap.size, 0, none⟩ (vName (w2c.heap.size + 1))) w1a.heap.size tName #[vName (w2c.heap.size + 1)] := k3.set1 (by simp)
    have hb0 := bx_below hw3 hx (by simpa using hg3.1)
    clear hx hw3 hbn
    generalize hW : w3a.setCell ⟨w1a.heap.size, 0, none⟩ (vName (w2c.heap.size + 1)) = w3b at *
    clear hW
    have L0 := k0.cell
    go_wp2_with fail
    clear L0
    refine (hm.out w1a.heap.size g7 (w2c.heap.size + 1) w2c.heap.size w3b hb0 k3 k2 hs (by omega) (by omega)).mono ?_
    rintro e w3c ⟨rfl, hx⟩
    replace hb0 := bx_below hb0 hx (by simpa using hle)
    go_wp2
    go_ret2
    exact ⟨by rw [r3.out he0 hq1 hq2] <;> rfl, hb0⟩
end Go.Proofs.YtdlmkblmljhbfaaDoor
