/-
  Walks: which nets are valid, continued.
  Walks: the library's comparison of numbers, and of lists of numbers.
  Walks: which failures stop a function, the smallest of them.
  What a sender computes: messages that wait, by streams; which stream's frame is carried at each tick; the worst responses.
  The queues of a sender: messages at some place in a block of the call's own; one more of them.
  Walks: a sender's tick: what is sent.
  Walk: streams read from a string.
  Plain laws of senders: what one tick does, how much is sent in a window.
  Plain law: a stream that is not late is never late, whatever the starts are; if all start together, some message of it has the stream's response.
  Plain laws of responses: the iteration meets the least number at which the demand is met.
-/
import Derived.Test.YtbdgblnccjpahaaGreatDoorUO7
import Derived.Test.YtbdgblnccjpahaaGreatDoorUO5
import Derived.Test.YtbdgblnccjpahaaGreatDoorUO3
import Derived.Deep.AppendLies
import Derived.ArgAppend
import Derived.Test.YtbdgblnccjpahaaGreatDoorUO6
import Derived.Test.YtbdgblnccjpahaaGreatDoorUO4
set_option linter.unusedSimpArgs false
set_option linter.unusedVariables false
namespace Go.Proofs.YtbdgblnccjpahaaGreatDoor
open Go.RowKit Go.Shelf
attribute [local go_sem] bl_al bl_drew bl_drewN bl_refl bx_al bx_drew bx_drewN bx_refl
set_option maxRecDepth 20000
theorem take_next {α : Type} {l : List α} {k : Nat} {x : α} (h : l[k]? = some x) : l.take (k + 1) = l.take k ++ [x] := by rw [List.take_add_one, h]; rfl
theorem c_eachP (l : List ByteArray) (A : Option Addr) (c Bn g m : Nat) (w : World) (kn : Blk w Bn tName #[vName g]) (hs : Seen [] g m w) (hnm : m ≠ Bn) (hl : Sl cS 1 w A l) (hlen : l.length ≤ 1000) (hsz : ∀ s ∈ l, s.size ≤ maxLen) :
    Calls Tryz.prog 170 #[.slice A l.length c, .func (.func 171) #[] #[.pointer (some ⟨Bn, 0, none⟩)]] w
      (fun e w' => e = .returned (.tuple #[.int .i64 (eachS (nmErr l) l 0).1, .int .i64 (eachS (nmErr l) l 0).2]) ∧ BX [m] w w') :=
  (c_eachJN 171 #[.pointer (some ⟨Bn, 0, none⟩)] (nmErr l) (fun k W => Seen (l.take k) g m W) [m] A l c w (by omega) (enters_of Tryz.func171 (by kernel_rfl) rfl) (fun k X Y h hb => h.below hb)
    (fun k x hx W hb hj => (c_net1 k (l.take k) x Bn g m W (kn.keep (by simpa using fun e => hnm e.symm) hb) hj (hsz x (List.mem_of_getElem? hx)) (by rw [List.length_take]; omega)).mono fun e W' ⟨e1, e2, e3⟩ => ⟨e1, e2, fun _ => by rw [take_next hx]; exact e3⟩)
    (fun W hb => sl_map hl hs hb) hs).mono fun e W' ⟨h1, h2, _⟩ => ⟨h1, h2⟩
theorem c_eachFu (parts : Nat) (l : List Fu) (A : Option Addr) (c Bn Bp g m : Nat) (w : World) (kn : Blk w Bn tName #[vName g]) (kp : Blk w Bp 3 #[.int .i64 parts]) (hs : Seen [] g m w) (hnm : m ≠ Bn) (hpm : m ≠ Bp) (hl : Sl cFu 2 w A l) (hlen : l.length ≤ 1000) (hin : ∀ f ∈ l, FuIn f w) (hpt : parts ≤ 1000) :
    Calls Tryz.prog 172 #[.slice A l.length c, .func (.func 173) #[] #[.pointer (some ⟨Bn, 0, none⟩), .pointer (some ⟨Bp, 0, none⟩)]] w
      (fun e w' => e = .returned (.tuple #[.int .i64 (eachS (fuErr parts (l.map fun f : Fu => f.name)) l 0).1, .int .i64 (eachS (fuErr parts (l.map fun f : Fu => f.name)) l 0).2]) ∧ BX [m] w w') :=
  (c_eachJF 173 #[.pointer (some ⟨Bn, 0, none⟩), .pointer (some ⟨Bp, 0, none⟩)] (fuErr parts (l.map fun f : Fu => f.name)) (fun k W => Seen ((l.map fun f : Fu => f.name).take k) g m W) [m] A l c w (by omega) (enters_of Tryz.func173 (by kernel_rfl) rfl) (fun k X Y h hb => h.below hb)
    (fun k x hx W hb hj => (c_net2 k parts ((l.map fun f : Fu => f.name).take k) x Bn Bp g m W (kn.keep (by simpa using fun e => hnm e.symm) hb) (kp.keep (by simpa using fun e => hpm e.symm) hb) hj ((hin x (List.mem_of_getElem? hx)).map hs hb)
      (by rw [List.length_take, List.length_map]; omega) (by omega) hnm hpm).mono fun e W' ⟨e1, e2, e3⟩ => ⟨e1, e2, fun _ => by rw [take_next (x := x.name) (by rw [List.getElem?_map, hx]; rfl)]; exact e3⟩)
    (fun W hb => sl_map hl hs hb) hs).mono fun e W' ⟨h1, h2, _⟩ => ⟨h1, h2⟩
theorem c_eachMd (funs : Nat) (l : List Md) (A : Option Addr) (c Bn Bp g m : Nat) (w : World) (kn : Blk w Bn tName #[vName g]) (kp : Blk w Bp 3 #[.int .i64 funs]) (hs : Seen [] g m w) (hnm : m ≠ Bn) (hpm : m ≠ Bp) (hl : Sl cMd 2 w A l) (hlen : l.length ≤ 1000) (hin : ∀ f ∈ l, MdIn f w) (hpt : funs ≤ 1000) :
    Calls Tryz.prog 174 #[.slice A l.length c, .func (.func 175) #[] #[.pointer (some ⟨Bn, 0, none⟩), .pointer (some ⟨Bp, 0, none⟩)]] w
      (fun e w' => e = .returned (.tuple #[.int .i64 (eachS (mdErr funs (l.map fun f : Md => f.name)) l 0).1, .int .i64 (eachS (mdErr funs (l.map fun f : Md => f.name)) l 0).2]) ∧ BX [m] w w') :=
  (c_eachJM 175 #[.pointer (some ⟨Bn, 0, none⟩), .pointer (some ⟨Bp, 0, none⟩)] (mdErr funs (l.map fun f : Md => f.name)) (fun k W => Seen ((l.map fun f : Md => f.name).take k) g m W) [m] A l c w (by omega) (enters_of Tryz.func175 (by kernel_rfl) rfl) (fun k X Y h hb => h.below hb)
    (fun k x hx W hb hj => (c_net3 k funs ((l.map fun f : Md => f.name).take k) x Bn Bp g m W (kn.keep (by simpa using fun e => hnm e.symm) hb) (kp.keep (by simpa using fun e => hpm e.symm) hb) hj ((hin x (List.mem_of_getElem? hx)).map hs hb)
      (by rw [List.length_take, List.length_map]; omega) (by omega) hnm hpm).mono fun e W' ⟨e1, e2, e3⟩ => ⟨e1, e2, fun _ => by rw [take_next (x := x.name) (by rw [List.getElem?_map, hx]; rfl)]; exact e3⟩)
    (fun W hb => sl_map hl hs hb) hs).mono fun e W' ⟨h1, h2, _⟩ => ⟨h1, h2⟩
abbrev aNt (Ap Af Am : Option Addr) (np nf nm cp cf cm : Nat) : Array Value := #[.slice Ap np cp, .slice Af nf cf, .slice Am nm cm]
abbrev vNt (Ap Af Am : Option Addr) (np nf nm cp cf cm : Nat) : Value := .agg (aNt Ap Af Am np nf nm cp cf cm)
set_option maxHeartbeats 8000000 in
theorem c_CheckNet (n : Nt) (Ap Af Am : Option Addr) (cp cf cm : Nat) (w : World) (hn : NtIn n Ap Af Am cp cf cm w) :
    Calls Tryz.prog 138 #[vNt Ap Af Am n.ps.length n.fs.length n.ms.length cp cf cm] w (Ret (.tuple #[.int .i64 (netChk n).1, .int .i64 (netChk n).2]) w) := by
  have Hn := Lib.hid hn
  have h1 := hn.plen
  have h2 := hn.flen
  have h3 := hn.mlen
  have hE : Hid (n.e0 = fstE [unl (decide (0 < n.ps.length)) 10, unl (decide (max (n.ps.length : Int) n.fs.length ≤ 10) && decide ((n.ms.length : Int) ≤ 6)) 8]) := rfl
  have r0 : Hid (n.e0 ≠ 0 → netChk n = (0, n.e0)) := fun h => by rw [netChk, if_neg h]
  have r1 : Hid (n.e0 = 0 → (eachS (nmErr n.ps) n.ps 0).2 ≠ 0 → netChk n = eachS (nmErr n.ps) n.ps 0) := fun h h' => by rw [netChk, if_pos h, if_neg h']
  have r2 : Hid (n.e0 = 0 → (eachS (nmErr n.ps) n.ps 0).2 = 0 → (eachS (fuErr n.ps.length (n.fs.map fun f : Fu => f.name)) n.fs 0).2 ≠ 0 → netChk n = eachS (fuErr n.ps.length (n.fs.map fun f : Fu => f.name)) n.fs 0) := fun h h' h'' => by rw [netChk, if_pos h, if_pos h', if_neg h'']
  have r3 : Hid (n.e0 = 0 → (eachS (nmErr n.ps) n.ps 0).2 = 0 → (eachS (fuErr n.ps.length (n.fs.map fun f : Fu => f.name)) n.fs 0).2 = 0 → netChk n = eachS (mdErr n.fs.length (n.ms.map fun f : Md => f.name)) n.ms 0) := fun h h' h'' => by rw [netChk, if_pos h, if_pos h', if_pos h'']
  have hp := Lib.hid fun (Bn g m : Nat) (W : World) (hb : Below w.heap.size w W) (kn : Blk W Bn tName #[vName g]) (hs : Seen [] g m W) (hnm : m ≠ Bn) => c_eachP n.ps Ap cp Bn g m W kn hs hnm (Hn.out.psl.below hb) h1 Hn.out.pnm
  have hf := Lib.hid fun (Bn Bp g m : Nat) (W : World) (hb : Below w.heap.size w W) (kn : Blk W Bn tName #[vName g]) (kp : Blk W Bp 3 #[.int .i64 n.ps.length]) (hs : Seen [] g m W) (hnm : m ≠ Bn) (hpm : m ≠ Bp) =>
    c_eachFu n.ps.length n.fs Af cf Bn Bp g m W kn kp hs hnm hpm (Hn.out.fsl.below hb) h2 (fun f hf => (Hn.out.fin f hf).below hb) h1
  have hm := Lib.hid fun (Bn Bp g m : Nat) (W : World) (hb : Below w.heap.size w W) (kn : Blk W Bn tName #[vName g]) (kp : Blk W Bp 3 #[.int .i64 n.fs.length]) (hs : Seen [] g m W) (hnm : m ≠ Bn) (hpm : m ≠ Bp) =>
    c_eachMd n.fs.length n.ms Am cm Bn Bp g m W kn kp hs hnm hpm (Hn.out.msl.below hb) h3 (fun f hf => (Hn.out.min f hf).below hb) h2
  clear hn Hn
  generalize eachS (nmErr n.ps) n.ps 0 = P1 at *
  generalize eachS (fuErr n.ps.length (n.fs.map fun f : Fu => f.name)) n.fs 0 = P2 at *
  generalize eachS (mdErr n.fs.length (n.ms.map fun f : Md => f.name)) n.ms 0 = P3 at *
  obtain ⟨p1, q1⟩ := P1
  obtain ⟨p2, q2⟩ := P2
  obtain ⟨p3, q3⟩ := P3
  dsimp only at *
  change Calls Tryz.prog 138 #[.agg #[.slice Ap n.ps.length cp, .slice Af n.fs.length cf, .slice Am n.ms.length cm]] w _
  generalize n.ps.length = np at *
  generalize n.fs.length = nf at *
  generalize n.ms.length = nm at *
  cases hA : decide (max (np : Int) nf ≤ 10)
  all_goals
    rw [hA] at hE
    simp only [Bool.false_and, Bool.true_and] at hE
    go_enter Tryz.func138, Tryz.ntmps138
    go_upto_region 1 with fail
    first
    | apply absB1 (w0 := w) (g0 := w.heap.size)
    | apply absTB1 (w0 := w) (g0 := w.heap.size)
    | apply absIB1 (w0 := w) (g0 := w.heap.size)
    iterate 2 (focus exact zL)
    try clear hb3
    try clear hb0
    try clear k0
    intro wa hb0 k0
    (try simp only [List.setIfInBounds_toArray, List.set_cons_zero, List.set_cons_succ] at k0)
    have Lk0 := k0.later
    have Fk0 := k0.laterF
    have Qk0 := k0.lt
    refine wp_any (w0 := wa) ⟨[8, 9], [3, 4, 5], [some 12, some 13, some 14, some 15, some 16, some 17, some 4, some 5, none, none], [[], [0], [0, 1], [], [3], [3, 4], [], [], [0, 1, 2, 6, 7], [0, 1, 2, 3, 4, 5, 6, 7, 8]], [[], [0], [1], [], [3], [4], [], [], [], []]⟩ (fun γ => frX wa [(γ 6).n, (γ 7).n]) (by kernel_rfl) (by kernel_rfl) (by (exact zE)) (fun u => by simp only [putD, Act.put, List.setIfInBounds_toArray, List.set_cons_zero, List.set_cons_succ, Nat.zero_add, Nat.reduceAdd]; rfl) ?_
    apply RGW.on (i := 0) rfl
    · exact zG
    · intro γ u W hcur hd
      clear hd
      (try dsimp only)
      exact ⟨rfl, zS⟩
    · exact zC
    · rfl
    dsimp only [nA, cA]
    apply RGW.on (i := 1) rfl
    · exact zG
    · intro γ u W hcur hd
      obtain ⟨⟨h0, -, -⟩, -⟩ := hd
      dsimp only at h0
      (try simp only [h0])
      exact ⟨rfl, zS⟩
    · exact zC
    · rfl
    dsimp only [nA, cA]
    apply RGW.on (i := 2) rfl
    · exact zG
    · intro γ u W hcur hd
      obtain ⟨⟨h1, -, -⟩, -⟩ := hd
      dsimp only at h1
      (try simp only [h1])
      exact ⟨rfl, zS⟩
    · exact zC
    · rfl
    dsimp only [nA, cA]
    apply RGW.onL (i := 3) rfl
    · exact zG
    · intro γ u Wm W hcurM hd hX; have hcur := bx_fresh hX hcurM
      clear hd
      (try dsimp only)
      exact ⟨rfl, zS⟩
    · exact zC
    dsimp only [nA, cA]
    apply RGW.onL (i := 4) rfl
    · exact zG
    · intro γ u Wm W hcurM hd hX; have hcur := bx_fresh hX hcurM
      obtain ⟨⟨h3, -, -⟩, -⟩ := hd
      dsimp only at h3
      (try simp only [h3])
      exact ⟨rfl, zS⟩
    · exact zC
    dsimp only [nA, cA]
    apply RGW.onL (i := 5) rfl
    · exact zG
    · intro γ u Wm W hcurM hd hX; have hcur := bx_fresh hX hcurM
      obtain ⟨⟨h4, -, -⟩, -⟩ := hd
      dsimp only at h4
      (try simp only [h4])
      exact ⟨rfl, zS⟩
    · exact zC
    dsimp only [nA, cA]
    apply RGW.alloc (i := 6) rfl
    · exact zG
    · intro γ u W hcur hd
      clear hd
      (try dsimp only)
      refine ⟨rfl, fun K hK => ?_⟩
      go_simp
      exact hK.out _ _ rfl rfl
    · exact zC
    · rfl
    · rfl
    dsimp only [nA, cA]
    apply RGW.alloc (i := 7) rfl
    · exact zG
    · intro γ u W hcur hd
      clear hd
      (try dsimp only)
      refine ⟨rfl, fun K hK => ?_⟩
      go_simp
      exact hK.out _ _ rfl rfl
    · exact zC
    · rfl
    · rfl
    dsimp only [nA, cA]
    refine RGW.skip (i := 8) rfl rfl ?_
    dsimp only [nA, cA]
    refine RGW.skip (i := 9) rfl rfl ?_
    dsimp only [nA, cA]
    refine RGW.fin (fun γ u wb hwb hd hdis => ?_)
    obtain ⟨⟨h0, -, -⟩, ⟨h1, -, -⟩, ⟨h2, -, -⟩, ⟨h3, -, -⟩, ⟨h4, -, -⟩, ⟨h5, -, -⟩, ⟨h6, r6, b6⟩, ⟨h7, r7, b7⟩, -⟩ := hd
    dsimp only at h0 h1 h2 h3 h4 h5 h6 h7 r6 r7 b6 b7
    have n6_7 := hdis 6 7 rfl rfl (Nat.lt_of_lt_of_eq (by decide : 6 < 10) (by kernel_rfl)) (Nat.lt_of_lt_of_eq (by decide : 7 < 10) (by kernel_rfl)) (by decide) _ (List.mem_singleton.2 rfl) _ (List.mem_singleton.2 rfl)
    clear hdis
    simp only [h0, h1, h2, h3, h4, h5, h6, h7]
    clear h7 h6 h5 h4 h3 h2 h1 h0
    replace b6 := b6 _ (List.mem_singleton.2 rfl)
    generalize hγ6 : (γ 6).n = g6 at *
    clear hγ6
    replace b7 := b7 _ (List.mem_singleton.2 rfl)
    generalize hγ7 : (γ 7).n = g7 at *
    clear hγ7
    clear u
    simp only [List.map_cons, List.map_nil]
    rw [frX_eq (L := [g6, g7]) (by intro x hx; simp at hx; omega)]
    apply PlanW.step
    · exact zG
    · rfl
    intro K hK
    first
    | refine wp_store_keep (X := [g6, g7]) (w0 := wb) rfl rfl rfl (by with_reducible first | exact bx_refl _ _ | assumption) (by with_reducible first | assumption | (apply Blk.below (hb := hwb); assumption)) (by simp) (by kernel_rfl) (by rfl) (by simp [Value.oneCell']) (fun hres1 hcur => ?_)
      refine hK.out _ _ hcur (fun _ => ?_)
    | go_simp
      refine hK.out _ _ (by (exact zX)) (fun hcur => ?_)
    | obtain ⟨u0, v0, z0⟩ := bx_cell0 hcur (Blk.below k0 hwb) (by simp)
      go_simp
      refine hK.out _ _ (by (exact zX)) (fun hcur => ?_)
    | obtain ⟨u0, v0, z0⟩ := bx_cell0 (X := [g6, g7]) (w0 := wb) (by with_reducible first | assumption | exact bx_refl _ _) r6 (by simp)
      go_simp
      refine hK.out _ _ (by (exact zX)) (fun hcur => ?_)
    | obtain ⟨u0, v0, z0⟩ := bx_cell0 (X := [g6, g7]) (w0 := wb) (by with_reducible first | assumption | exact bx_refl _ _) r7 (by simp)
      go_simp
      refine hK.out _ _ (by (exact zX)) (fun hcur => ?_)
    clear hK K
    try simp only [Act.put, List.setIfInBounds_toArray, List.set_cons_zero, List.set_cons_succ]
    apply PlanW.step
    · exact zG
    · rfl
    intro K hK
    first
    | refine wp_store_keep (X := [g6, g7]) (w0 := wb) rfl rfl rfl (by with_reducible first | exact bx_refl _ _ | assumption) (by with_reducible first | assumption | (apply Blk.below (hb := hwb); assumption)) (by simp) (by kernel_rfl) (by rfl) (by simp [Value.oneCell']) (fun hres2 hcur => ?_)
      refine hK.out _ _ hcur (fun _ => ?_)
    | go_simp
      refine hK.out _ _ (by (exact zX)) (fun hcur => ?_)
    | obtain ⟨u0, v0, z0⟩ := bx_cell0 hcur (Blk.below k0 hwb) (by simp)
      go_simp
      refine hK.out _ _ (by (exact zX)) (fun hcur => ?_)
    | obtain ⟨u0, v0, z0⟩ := bx_cell0 (X := [g6, g7]) (w0 := wb) (by with_reducible first | assumption | exact bx_refl _ _) r6 (by simp)
      go_simp
      refine hK.out _ _ (by (exact zX)) (fun hcur => ?_)
    | obtain ⟨u0, v0, z0⟩ := bx_cell0 (X := [g6, g7]) (w0 := wb) (by with_reducible first | assumption | exact bx_refl _ _) r7 (by simp)
      go_simp
      refine hK.out _ _ (by (exact zX)) (fun hcur => ?_)
    clear hK K
    try simp only [Act.put, List.setIfInBounds_toArray, List.set_cons_zero, List.set_cons_succ]
    refine PlanW.done ?_
    have hb3 := bl_tt hwb
    go_upto_region 2 with fail
    first
    | apply absB3 (w0 := w) (g0 := w.heap.size) (g1 := g6) (g2 := g7)
    | apply absTB3 (w0 := w) (g0 := w.heap.size) (g1 := g6) (g2 := g7)
    | apply absIB3 (w0 := w) (g0 := w.heap.size) (g1 := g6) (g2 := g7)
    iterate 4 (focus exact zL)
    try clear hb3
    try clear Lk0
    try clear Fk0
    try clear Qk0
    try clear hb0
    try clear k0
    try clear k1
    try clear k2
    intro wc hb0 k0 k1 k2
    (try simp only [List.setIfInBounds_toArray, List.set_cons_zero, List.set_cons_succ] at k0 k1 k2)
    have Lk0 := k0.later
    have Fk0 := k0.laterF
    have Qk0 := k0.lt
    have Lk1 := k1.later
    have Fk1 := k1.laterF
    have Qk1 := k1.lt
    have Lk2 := k2.later
    have Fk2 := k2.laterF
    have Qk2 := k2.lt
    refine wp_any (w0 := wc) ⟨[], [], [some 18, some 19, some 20, some 21, some 22, some 23, some 24, some 25, some 26, some 27, some 28, some 29, some 30, some 31, some 32, some 33, some 6], [[], [0], [0, 1], [], [], [3, 4], [3, 4, 5], [0, 1, 2, 3, 4, 5, 6], [0, 1, 2, 3, 4, 5, 6, 7], [0, 1, 2, 3, 4, 5, 6, 7, 8], [0, 1, 2, 3, 4, 5, 6, 7, 8, 9], [0, 1, 2, 3, 4, 5, 6, 7, 8, 9, 10], [0, 1, 2, 3, 4, 5, 6, 7, 8, 9, 10, 11], [0, 1, 2, 3, 4, 5, 6, 7, 8, 9, 10, 11, 12], [0, 1, 2, 3, 4, 5, 6, 7, 8, 9, 10, 11, 12, 13], [0, 1, 2, 3, 4, 5, 6, 7, 8, 9, 10, 11, 12, 13, 14], [0, 1, 2, 3, 4, 5, 6, 7, 8, 9, 10, 11, 12, 13, 14, 15]], [[], [0], [1], [], [], [3, 4], [5], [6], [7], [7, 8], [7, 9], [7, 10], [7, 11], [12], [2, 13], [14], [14, 15]]⟩ (fun _ => []) (by kernel_rfl) (by kernel_rfl) (by (exact zE)) (fun u => by simp only [putD, Act.put, List.setIfInBounds_toArray, List.set_cons_zero, List.set_cons_succ, Nat.zero_add, Nat.reduceAdd]; rfl) ?_
    apply RGW.on (i := 0) rfl
    · exact zG
    · intro γ u W hcur hd
      clear hd
      (try dsimp only)
      exact ⟨rfl, zS⟩
    · exact zC
    · rfl
    dsimp only [nA, cA]
    apply RGW.on (i := 1) rfl
    · exact zG
    · intro γ u W hcur hd
      obtain ⟨⟨h0, -, -⟩, -⟩ := hd
      dsimp only at h0
      (try simp only [h0])
      exact ⟨rfl, zS⟩
    · exact zC
    · rfl
    dsimp only [nA, cA]
    apply RGW.call (i := 2) rfl
    · exact zG
    · intro γ u W hcur hd
      obtain ⟨⟨h1, -, -⟩, -⟩ := hd
      dsimp only at h1
      (try simp only [h1])
      refine ⟨rfl, fun K hK => ?_⟩
      go_simp
      first
      | (go_at_call 58; (with_reducible refine (c_unless _ _ _).mono ?_); rintro e w3 ⟨rfl, rfl⟩)
      | (go_at_call 74; (with_reducible refine (c_first2 (by (exact zK))).mono ?_); rintro e w3 ⟨rfl, rfl⟩)
      (try dsimp only)
      exact hK.out _ _ rfl (by (exact zE))
    · exact zC
    · rfl
    dsimp only [nA, cA]
    apply RGW.on (i := 3) rfl
    · exact zG
    · intro γ u W hcur hd
      clear hd
      (try dsimp only)
      exact ⟨rfl, zS⟩
    · exact zC
    · rfl
    dsimp only [nA, cA]
    apply RGW.on (i := 4) rfl
    · exact zG
    · intro γ u W hcur hd
      clear hd
      (try dsimp only)
      exact ⟨rfl, zS⟩
    · exact zC
    · rfl
    dsimp only [nA, cA]
    apply RGW.on (i := 5) rfl
    · exact zG
    · intro γ u W hcur hd
      obtain ⟨⟨h3, -, -⟩, ⟨h4, -, -⟩, -⟩ := hd
      dsimp only at h3 h4
      (try simp only [h3, h4])
      exact ⟨rfl, zS⟩
    · exact zC
    · rfl
    dsimp only [nA, cA]
    apply RGW.on (i := 6) rfl
    · exact zG
    · intro γ u W hcur hd
      obtain ⟨⟨h5, -, -⟩, -⟩ := hd
      dsimp only at h5
      (try simp only [h5])
      exact ⟨rfl, zS⟩
    · exact zC
    · rfl
    dsimp only [nA, cA]
    apply RGW.on (i := 7) rfl
    · exact zG
    · intro γ u W hcur hd
      obtain ⟨⟨h6, -, -⟩, -⟩ := hd
      dsimp only at h6
      (try simp only [h6])
      exact ⟨rfl, zS⟩
    · exact zC
    · rfl
    dsimp only [nA, cA]
    first
    | apply RGW.on (i := 8) rfl
      · exact zG
      · intro γ u W hcur hd
        obtain ⟨⟨h7, -, -⟩, -⟩ := hd
        dsimp only at h7
        (try simp only [h7])
        refine ⟨?_, ?_⟩
        · (simp [Region.wanted, yielded, undef, *]; done)
        exact zS
      · exact zC
      · rfl
    | apply RGW.off (i := 8) rfl
      · exact zG
      · intro γ u W hcur hd
        obtain ⟨⟨h7, -, -⟩, -⟩ := hd
        dsimp only at h7
        (try simp only [h7])
        simp [Region.wanted, yielded, undef, *]
      · rfl
    dsimp only [nA, cA]
    first
    | apply RGW.on (i := 9) rfl
      · exact zG
      · intro γ u W hcur hd
        obtain ⟨⟨h7, -, -⟩, ⟨h8, -, -⟩, -⟩ := hd
        dsimp only at h7 h8
        (try simp only [h7, h8])
        refine ⟨?_, ?_⟩
        · (simp [Region.wanted, yielded, undef, *]; done)
        exact zS
      · exact zC
      · rfl
    | apply RGW.off (i := 9) rfl
      · exact zG
      · intro γ u W hcur hd
        obtain ⟨⟨h7, -, -⟩, ⟨h8, -, -⟩, -⟩ := hd
        dsimp only at h7 h8
        (try simp only [h7, h8])
        simp [Region.wanted, yielded, undef, *]
      · rfl
    dsimp only [nA, cA]
    first
    | apply RGW.on (i := 10) rfl
      · exact zG
      · intro γ u W hcur hd
        obtain ⟨⟨h7, -, -⟩, ⟨h9, -, -⟩, -⟩ := hd
        dsimp only at h7 h9
        (try simp only [h7, h9])
        refine ⟨?_, ?_⟩
        · (simp [Region.wanted, yielded, undef, *]; done)
        exact zS
      · exact zC
      · rfl
    | apply RGW.off (i := 10) rfl
      · exact zG
      · intro γ u W hcur hd
        obtain ⟨⟨h7, -, -⟩, ⟨h9, -, -⟩, -⟩ := hd
        dsimp only at h7 h9
        (try simp only [h7, h9])
        simp [Region.wanted, yielded, undef, *]
      · rfl
    dsimp only [nA, cA]
    first
    | apply RGW.on (i := 11) rfl
      · exact zG
      · intro γ u W hcur hd
        obtain ⟨⟨h7, -, -⟩, ⟨h10, -, -⟩, -⟩ := hd
        dsimp only at h7 h10
        (try simp only [h7, h10])
        refine ⟨?_, ?_⟩
        · (simp [Region.wanted, yielded, undef, *]; done)
        exact zS
      · exact zC
      · rfl
    | apply RGW.off (i := 11) rfl
      · exact zG
      · intro γ u W hcur hd
        obtain ⟨⟨h7, -, -⟩, ⟨h10, -, -⟩, -⟩ := hd
        dsimp only at h7 h10
        (try simp only [h7, h10])
        simp [Region.wanted, yielded, undef, *]
      · rfl
    dsimp only [nA, cA]
    apply RGW.on (i := 12) rfl
    · exact zG
    · intro γ u W hcur hd
      obtain ⟨⟨h7, -, -⟩, ⟨h11, -, -⟩, -⟩ := hd
      dsimp only at h7 h11
      (try simp only [h7, h11])
      exact ⟨rfl, zS⟩
    · exact zC
    · rfl
    dsimp only [nA, cA]
    apply RGW.call (i := 13) rfl
    · exact zG
    · intro γ u W hcur hd
      obtain ⟨⟨h12, -, -⟩, -⟩ := hd
      dsimp only at h12
      (try simp only [h12])
      refine ⟨rfl, fun K hK => ?_⟩
      go_simp
      first
      | (go_at_call 58; (with_reducible refine (c_unless _ _ _).mono ?_); rintro e w3 ⟨rfl, rfl⟩)
      | (go_at_call 74; (with_reducible refine (c_first2 (by (exact zK))).mono ?_); rintro e w3 ⟨rfl, rfl⟩)
      (try dsimp only)
      exact hK.out _ _ rfl (by (exact zE))
    · exact zC
    · rfl
    dsimp only [nA, cA]
    apply RGW.bslice (i := 14) rfl
    · exact zG
    · intro γ u W hcur hd
      obtain ⟨⟨h2, -, -⟩, ⟨h13, -, -⟩, -⟩ := hd
      dsimp only at h2 h13
      (try simp only [h2, h13])
      refine ⟨rfl, fun K hK => ?_⟩
      go_simp
      exact hK.out _ _ rfl rfl
    · exact zC
    · rfl
    · rfl
    dsimp only [nA, cA]
    apply RGW.call (i := 15) rfl
    · exact zG
    · intro γ u W hcur hd
      obtain ⟨⟨h14, r14, -⟩, -⟩ := hd
      dsimp only at h14 r14
      have L14 := r14.cell
      (try simp only [h14])
      refine ⟨rfl, fun K hK => ?_⟩
      go_simp
      first
      | (go_at_call 58; (with_reducible refine (c_unless _ _ _).mono ?_); rintro e w3 ⟨rfl, rfl⟩)
      | (go_at_call 74; (with_reducible refine (c_first2 (by (exact zK))).mono ?_); rintro e w3 ⟨rfl, rfl⟩)
      (try dsimp only)
      exact hK.out _ _ rfl (by (exact zE))
    · first
      | exact zC
      | intro γ γ' hg
        try dsimp only
        have e14 := hg 14 (by decide)
        simp only [e14]
    · rfl
    dsimp only [nA, cA]
    apply RGW.on (i := 16) rfl
    · exact zG
    · intro γ u W hcur hd
      obtain ⟨⟨h14, r14, -⟩, ⟨h15, -, -⟩, -⟩ := hd
      dsimp only at h14 h15 r14
      have L14 := r14.cell
      (try simp only [h14, h15])
      exact ⟨rfl, zS⟩
    · first
      | exact zC
      | intro γ γ' hg
        try dsimp only
        have e14 := hg 14 (by decide)
        simp only [e14]
    · rfl
    dsimp only [nA, cA]
    refine RGW.fin (fun γ u wd hwd hd hdis => ?_)
    obtain ⟨⟨h0, -, -⟩, ⟨h1, -, -⟩, ⟨h2, -, -⟩, ⟨h3, -, -⟩, ⟨h4, -, -⟩, ⟨h5, -, -⟩, ⟨h6, -, -⟩, ⟨h7, -, -⟩, ⟨h8, -, -⟩, ⟨h9, -, -⟩, ⟨h10, -, -⟩, ⟨h11, -, -⟩, ⟨h12, -, -⟩, ⟨h13, -, -⟩, ⟨h14, r14, b14⟩, ⟨h15, -, -⟩, ⟨h16, -, -⟩, -⟩ := hd
    dsimp only at h0 h1 h2 h3 h4 h5 h6 h7 h8 h9 h10 h11 h12 h13 h14 h15 h16 r14 b14
    clear hdis
    simp only [h0, h1, h2, h3, h4, h5, h6, h7, h8, h9, h10, h11, h12, h13, h14, h15, h16]
    clear h16 h15 h14 h13 h12 h11 h10 h9 h8 h7 h6 h5 h4 h3 h2 h1 h0
    replace b14 := b14 _ (List.mem_singleton.2 rfl)
    generalize hγ14 : (γ 14).n = g14 at *
    clear hγ14
    clear u
    simp only [List.map_nil]
    refine PlanW.done ?_
    have hb3 := bl_tt hwd
    rw [← hE.out]
    first
    | apply absB3 (w0 := w) (g0 := w.heap.size) (g1 := g6) (g2 := g7)
    | apply absTB3 (w0 := w) (g0 := w.heap.size) (g1 := g6) (g2 := g7)
    | apply absIB3 (w0 := w) (g0 := w.heap.size) (g1 := g6) (g2 := g7)
    iterate 4 (focus exact zL)
    try clear hb3
    try clear Lk0
    try clear Fk0
    try clear Qk0
    try clear Lk1
    try clear Fk1
    try clear Qk1
    try clear Lk2
    try clear Fk2
    try clear Qk2
    try clear hb0
    try clear k0
    try clear k1
    try clear k2
    intro we hb0 k0 k1 k2
    (try simp only [List.setIfInBounds_toArray, List.set_cons_zero, List.set_cons_succ] at k0 k1 k2)
    clear hE hA
    by_cases he0 : n.e0 = 0
    rotate_left
    · go_wp2
      go_ret2
      exact ⟨by rw [r0.out he0] <;> rfl, by (exact zE)⟩
    go_wp2_with fail
    refine (c_names we).mono ?_
    rintro e w1a ⟨rfl, hbn, hs⟩
    have hw3 : Below w.heap.size w w1a := bl_tr hb0 hbn
    have hle := hb0.size
    have hl0 := k0.lt
    have hl1 := k1.lt
    have hl2 := k2.lt
    replace k0 := k0.below hbn
    replace k1 := k1.below hbn
    replace k2 := k2.below hbn
    have hsl := hs.lt
    clear hb0
    go_upto_region 6 with fail
    first
    | apply absB4 (w0 := w1a) (g0 := w.heap.size) (g1 := g6) (g2 := g7) (g3 := w1a.heap.size)
    | apply absTB4 (w0 := w1a) (g0 := w.heap.size) (g1 := g6) (g2 := g7) (g3 := w1a.heap.size)
    | apply absIB4 (w0 := w1a) (g0 := w.heap.size) (g1 := g6) (g2 := g7) (g3 := w1a.heap.size)
    iterate 5 (focus exact zL)
    try clear hb3
    try clear hb0
    try clear k0
    try clear k1
    try clear k2
    try clear k3
    intro w1b hb0 k0 k1 k2 k3
    (try simp only [List.setIfInBounds_toArray, List.set_cons_zero, List.set_cons_succ] at k0 k1 k2 k3)
    have L0 := k0.cell
    go_wp2_with fail
    clear L0
    refine (hp.out w1a.heap.size (we.heap.size + 1) we.heap.size w1b (bl_tr hw3 hb0) k3 (hs.below hb0) (by omega)).mono ?_
    rintro e w1c ⟨rfl, hx⟩
    have hb3 : Hid (w.heap.size ≤ w1a.heap.size ∧ w.heap.size < w1a.heap.size ∧ g6 < w1a.heap.size ∧ g7 < w1a.heap.size) := ⟨hw3.size, by omega, by omega, by omega⟩
    replace hb0 := bx_below (bl_tr hw3 hb0) hx (by simpa using hle)
    replace k0 := k0.keep (by simp; omega) hx
    replace k1 := k1.keep (by simp; omega) hx
    replace k2 := k2.keep (by simp; omega) hx
    replace k3 := k3.keep (by simp; omega) hx
    clear hx hs hsl hle hl0 hl1 hl2 hw3
    by_cases hq1 : q1 = 0
    rotate_left
    · go_wp2
      go_ret2
      exact ⟨by rw [r1.out he0 hq1] <;> rfl, by (exact zE)⟩
    go_wp2_with fail
    refine (c_names w1c).mono ?_
    rintro e w2a ⟨rfl, hbn, hs⟩
    have hw3 : Below w.heap.size w w2a := bl_tr hb0 hbn
    have hle := hb0.size
    have hl0 := k0.lt
    have hl1 := k1.lt
    have hl2 := k2.lt
    have hl3 := k3.lt
    have hg3 := hb3.out
    replace k0 := k0.below hbn
    replace k1 := k1.below hbn
    replace k2 := k2.below hbn
    replace k3 := k3.below hbn
    have hsl := hs.lt
    clear hb0
    have L3 := k3.cell
    have F3 := k3.frozen
    go_upto_region 10 with fail
    clear L3 F3
    have hx : BX [w1a.heap.size] w2a (w2a.setCell ⟨w1a.heap.size, 0, none⟩ (vName (w1c.heap.size + 1))) := bx_set (.inl (by simp)) _ (bx_refl _ _)
    replace hs := hs.bx hx (by simp; omega) (by simp; omega)
    replace k0 := k0.keep (by simp; omega) hx
    replace k1 := k1.keep (by simp; omega) hx
    replace k2 := k2.keep (by simp; omega) hx
    replace k3 : Blk (w2a.setCell ⟨w1a.heap.size, 0, none⟩ (vName (w1c.heap.size + 1))) w1a.heap.size tName #[vName (w1c.heap.size + 1)] := k3.set1 (by simp)
    have hb0 := bx_below hw3 hx (by simpa using hg3.1)
    clear hx hw3 hbn
    generalize hW : w2a.setCell ⟨w1a.heap.size, 0, none⟩ (vName (w1c.heap.size + 1)) = w2b at *
    clear hW
    have L0 := k0.cell
    go_wp2_with fail
    clear L0
    refine (hf.out w1a.heap.size g6 (w1c.heap.size + 1) w1c.heap.size w2b hb0 k3 k1 hs (by omega) (by omega)).mono ?_
    rintro e w2c ⟨rfl, hx⟩
    replace hb0 := bx_below hb0 hx (by simpa using hle)
    replace k0 := k0.keep (by simp; omega) hx
    replace k1 := k1.keep (by simp; omega) hx
    replace k2 := k2.keep (by simp; omega) hx
    replace k3 := k3.keep (by simp; omega) hx
    clear hx hs hsl hle hl0 hl1 hl2 hl3 hg3
    by_cases hq2 : q2 = 0
    rotate_left
    · go_wp2
      go_ret2
      exact ⟨by rw [r2.out he0 hq1 hq2] <;> rfl, hb0⟩
    go_wp2_with fail
    refine (c_names w2c).mono ?_
    rintro e w3a ⟨rfl, hbn, hs⟩
    have hw3 : Below w.heap.size w w3a := bl_tr hb0 hbn
    have hle := hb0.size
    have hl0 := k0.lt
    have hl1 := k1.lt
    have hl2 := k2.lt
    have hl3 := k3.lt
    have hg3 := hb3.out
    replace k0 := k0.below hbn
    replace k1 := k1.below hbn
    replace k2 := k2.below hbn
    replace k3 := k3.below hbn
    have hsl := hs.lt
    clear hb0
    have L3 := k3.cell
    have F3 := k3.frozen
    go_upto_region 14 with fail
    clear L3 F3
    have hx : BX [w1a.heap.size] w3a (w3a.setCell ⟨w1a.heap.size, 0, none⟩ (vName (w2c.heap.size + 1))) := bx_set (.inl (by simp)) _ (bx_refl _ _)
    replace hs := hs.bx hx (by simp; omega) (by simp; omega)
    replace k0 := k0.keep (by simp; omega) hx
    replace k1 := k1.keep (by simp; omega) hx
    replace k2 := k2.keep (by simp; omega) hx
    replace k3 : Blk (w3a.setCell ⟨w1a.heap.size, 0, none⟩ (vName (w2c.heap.size + 1))) w1a.heap.size tName #[vName (w2c.heap.size + 1)] := k3.set1 (by simp)
    have hb0 := bx_below hw3 hx (by simpa using hg3.1)
    clear hx hw3 hbn
    generalize hW : w3a.setCell ⟨w1a.heap.size, 0, none⟩ (vName (w2c.heap.size + 1)) = w3b at *
    clear hW
    have L0 := k0.cell
    go_wp2_with fail
    clear L0
    refine (hm.out w1a.heap.size g7 (w2c.heap.size + 1) w2c.heap.size w3b hb0 k3 k2 hs (by omega) (by omega)).mono ?_
    rintro e w3c ⟨rfl, hx⟩
    replace hb0 := bx_below hb0 hx (by simpa using hle)
    go_wp2
    go_ret2
    exact ⟨by rw [r3.out he0 hq1 hq2] <;> rfl, hb0⟩
end Go.Proofs.YtbdgblnccjpahaaGreatDoor
namespace Go.Proofs.YtbdgblnccjpahaaGreatDoor
open Go.RowKit
attribute [local go_sem] bl_al bl_drew bl_drewN bl_refl
set_option maxRecDepth 20000
def cmpI (x y : Int) : Int := if x < y then -1 else if y < x then 1 else 0
def cmpL : List Int → List Int → Int
  | [], [] => 0
  | [], _ :: _ => -1
  | _ :: _, [] => 1
  | x :: a, y :: b => if x = y then cmpL a b else cmpI x y
theorem cmpL_lt : ∀ a b : List Int, decide (cmpL a b < 0) = lexB a b
  | [], [] => rfl
  | [], _ :: _ => rfl
  | _ :: _, [] => rfl
  | x :: a, y :: b => by
    unfold cmpL lexB
    by_cases h : x = y
    · rw [if_pos h, if_pos h]; exact cmpL_lt a b
    · rw [if_neg h, if_neg h]
      unfold cmpI
      by_cases h1 : x < y
      · simp [h1]
      · have h2 : y < x := by omega
        simp [h1, h2]
theorem c_isNaN (x : Int) (w : World) : Calls Tryz.prog 207 #[.int .i64 x] w (Same (.bool false) w) := by
  go_enter Tryz.func207, Tryz.ntmps207
  go_wp2
  go_ret
  exact ⟨by simp, rfl⟩
theorem c_cmp (x y : Int) (w : World) : Calls Tryz.prog 177 #[.int .i64 x, .int .i64 y] w (Same (.int .i64 (cmpI x y)) w) := by
  by_cases h1 : x < y
  · have e : cmpI x y = -1 := by rw [cmpI, if_pos h1]
    have e1 : decide (x < y) = true := by simp [h1]
    rw [e]
    clear h1
    go_enter Tryz.func177, Tryz.ntmps177
    go_wp2_with (go_at_call 207; (with_reducible refine (c_isNaN _ _).mono ?_); rintro e w3 ⟨rfl, rfl⟩)
    go_ret
    exact ⟨rfl, rfl⟩
  · have e1 : decide (x < y) = false := by simp [h1]
    by_cases h2 : y < x
    · have e : cmpI x y = 1 := by rw [cmpI, if_neg h1, if_pos h2]
      have e2 : decide (y < x) = true := by simp [h2]
      rw [e]
      clear h1 h2
      go_enter Tryz.func177, Tryz.ntmps177
      go_wp2_with (go_at_call 207; (with_reducible refine (c_isNaN _ _).mono ?_); rintro e w3 ⟨rfl, rfl⟩)
      go_ret
      exact ⟨rfl, rfl⟩
    · have e : cmpI x y = 0 := by rw [cmpI, if_neg h1, if_neg h2]
      have e2 : decide (y < x) = false := by simp [h2]
      rw [e]
      clear h1 h2
      go_enter Tryz.func177, Tryz.ntmps177
      go_wp2_with (go_at_call 207; (with_reducible refine (c_isNaN _ _).mono ?_); rintro e w3 ⟨rfl, rfl⟩)
      go_ret
      exact ⟨rfl, rfl⟩
theorem cmpL_drop {a b : List Int} {k : Nat} {x y : Int} (hx : a[k]? = some x) (hy : b[k]? = some y) : cmpL (a.drop k) (b.drop k) = if x = y then cmpL (a.drop (k + 1)) (b.drop (k + 1)) else cmpI x y := by
  have h1 := (List.getElem?_eq_some_iff.1 hx).1
  have h2 := (List.getElem?_eq_some_iff.1 hy).1
  rw [List.drop_eq_getElem_cons h1, List.drop_eq_getElem_cons h2, (List.getElem?_eq_some_iff.1 hx).2, (List.getElem?_eq_some_iff.1 hy).2, cmpL]
theorem cmpL_end {a b : List Int} {k : Nat} (hk1 : k ≤ a.length) (hk2 : k ≤ b.length) (h : a.length ≤ k) : cmpL (a.drop k) (b.drop k) = if a.length < b.length then -1 else 0 := by
  rw [List.drop_of_length_le h]
  by_cases h2 : b.length ≤ k
  · rw [List.drop_of_length_le h2, cmpL, if_neg (by omega)]
  · rw [List.drop_eq_getElem_cons (by omega : k < b.length), cmpL, if_pos (by omega)]
theorem cmpL_long {a b : List Int} {k : Nat} {x : Int} (hx : a[k]? = some x) (h : b.length ≤ k) : cmpL (a.drop k) (b.drop k) = 1 := by
  rw [List.drop_of_length_le h, List.drop_eq_getElem_cons (List.getElem?_eq_some_iff.1 hx).1, cmpL]
set_option maxHeartbeats 4000000 in
theorem c_Compare (a b : List Int) (A B : Option Addr) (c d : Nat) (w : World) (ha : Sl cI 1 w A a) (hb : Sl cI 1 w B b) (h1 : a.length ≤ 1000) (h2 : b.length ≤ 1000) :
    Calls Tryz.prog 140 #[.slice A a.length c, .slice B b.length d] w (Ret (.int .i64 (cmpL a b)) w) := by
  have Ha := Lib.hid ha
  have Hb := Lib.hid hb
  clear ha hb
  have hend := Lib.hid (fun k => cmpL_end (a := a) (b := b) (k := k))
  have hlong := Lib.hid (fun k x => cmpL_long (a := a) (b := b) (k := k) (x := x))
  obtain ⟨n, Hn⟩ : ∃ n, Hid (a.length = n) := ⟨_, rfl⟩
  obtain ⟨m, Hm⟩ : ∃ n, Hid (b.length = n) := ⟨_, rfl⟩
  rw [Hn.out] at h1 hend ⊢
  rw [Hm.out] at h2 hend hlong ⊢
  go_enter Tryz.func140, Tryz.ntmps140
  go_wp2
  go_loopw [11] (fun i wr => ∃ k : Nat, k ≤ n ∧ k ≤ m ∧ i = .int .i64 k ∧ Below w.heap.size w wr ∧ cmpL a b = cmpL (a.drop k) (b.drop k)) (fun i _ => n - (intOf i).toNat)
  case atStart => exact ⟨0, Nat.zero_le _, Nat.zero_le _, rfl, Below.refl _ _, rfl⟩
  case round =>
    obtain ⟨k, hk, hk2, rfl, hbw, hi⟩ := hrel
    replace hi := Lib.hid hi
    by_cases hlt : k < n
    · have hx : a[k]? = some (a[k]'(by rw [Hn.out]; exact hlt)) := List.getElem?_eq_getElem _
      generalize a[k]'(by rw [Hn.out]; exact hlt) = x at hx
      obtain ⟨ba, oa, hA, hca⟩ := Ha.out k x hx
      have c0 : wr.cell? ⟨ba, oa + k, none⟩ = some (.int .i64 x) := by have := kcell hbw (hca 0 _ rfl); simpa using this
      clear hca
      subst hA
      by_cases hlt2 : k < m
      · have hy : b[k]? = some (b[k]'(by rw [Hm.out]; exact hlt2)) := List.getElem?_eq_getElem _
        generalize b[k]'(by rw [Hm.out]; exact hlt2) = y at hy
        obtain ⟨bb, ob, hB, hcb⟩ := Hb.out k y hy
        have c1 : wr.cell? ⟨bb, ob + k, none⟩ = some (.int .i64 y) := by have := kcell hbw (hcb 0 _ rfl); simpa using this
        have hd := Lib.hid (cmpL_drop hx hy)
        clear hcb hx hy hend hlong
        subst hB
        by_cases hxy : x = y
        · have h' : Hid (cmpL a b = cmpL (a.drop (k + 1)) (b.drop (k + 1))) := Lib.hid (by rw [hi.out, hd.out, if_pos hxy])
          have e : cmpI x y = 0 := by rw [hxy, cmpI, if_neg (Int.lt_irrefl y), if_neg (Int.lt_irrefl y)]
          have hc := Lib.hid fun W : World => e ▸ c_cmp x y W
          clear hxy hd hi e
          go_wp2_with (go_at_call 177; (with_reducible refine (hc.out _).mono ?_); rintro e w3 ⟨rfl, rfl⟩)
          go_roundw
          case rel => exact ⟨k + 1, by omega, by omega, by go_num, hbw, h'.out⟩
          case measure => simp [intOf]; omega
        · have h' : Hid (cmpL a b = cmpI x y) := Lib.hid (by rw [hi.out, hd.out, if_neg hxy])
          have e : (cmpI x y != 0) = true := by
            unfold cmpI
            by_cases h : x < y
            · simp [h]
            · have : y < x := by omega
              simp [h, this]
          have hc := Lib.hid fun W : World => c_cmp x y W
          generalize cmpI x y = z at *
          clear hxy hd hi
          go_wp2_with (go_at_call 177; (with_reducible refine (hc.out _).mono ?_); rintro e w3 ⟨rfl, rfl⟩)
          go_ret
          exact ⟨by rw [h'.out] <;> rfl, hbw⟩
      · have h' : Hid (cmpL a b = 1) := Lib.hid (by rw [hi.out]; exact hlong.out k x hx (by omega))
        clear hend hlong hi hx
        go_wp2
        go_ret
        exact ⟨by rw [h'.out] <;> rfl, hbw⟩
    · have h' : Hid (cmpL a b = if n < m then -1 else 0) := Lib.hid (by rw [hi.out]; exact hend.out k (by omega) (by omega) (by omega))
      clear hend hlong hi
      by_cases hnm : n < m
      · have h2' : Hid (cmpL a b = -1) := Lib.hid (by rw [h'.out, if_pos hnm])
        have e : decide (n < m) = true := by simp [hnm]
        clear h' hnm
        go_wp2
        go_ret
        exact ⟨by rw [h2'.out] <;> rfl, hbw⟩
      · have h2' : Hid (cmpL a b = 0) := Lib.hid (by rw [h'.out, if_neg hnm])
        have e : decide (n < m) = false := by simp; omega
        clear h' hnm
        go_wp2
        go_ret
        exact ⟨by rw [h2'.out] <;> rfl, hbw⟩
end Go.Proofs.YtbdgblnccjpahaaGreatDoor
namespace Go.Proofs.YtbdgblnccjpahaaGreatDoor
open Go.RowKit Go.Shelf
attribute [local go_sem] bl_al bl_drew bl_drewN bl_refl bx_al bx_drew bx_drewN bx_refl
set_option maxRecDepth 20000
theorem c_netErr (n : Nt) (Ap Af Am : Option Addr) (cp cf cm : Nat) (w : World) (hn : NtIn n Ap Af Am cp cf cm w) :
    Calls Tryz.prog 84 #[vNt Ap Af Am n.ps.length n.fs.length n.ms.length cp cf cm] w (Ret (.int .i64 (netErr n)) w) := by
  have hc := Lib.hid fun W (hb : Below w.heap.size w W) => c_CheckNet n Ap Af Am cp cf cm W (hn.below hb)
  have he : Hid ((netChk n).2 = netErr n) := rfl
  clear hn
  change Calls Tryz.prog 84 #[.agg #[.slice Ap n.ps.length cp, .slice Af n.fs.length cf, .slice Am n.ms.length cm]] w _
  dsimp only [vNt, aNt] at hc
  generalize netChk n = P at *
  obtain ⟨p, q⟩ := P
  dsimp only at *
  rw [← he.out]
  clear he
  generalize n.ps.length = np at *
  generalize n.fs.length = nf at *
  generalize n.ms.length = nm at *
  go_enter Tryz.func84, Tryz.ntmps84
  go_upto_region 1 with fail
  first
  | apply absB1 (w0 := w) (g0 := w.heap.size)
  | apply absTB1 (w0 := w) (g0 := w.heap.size)
  | apply absIB1 (w0 := w) (g0 := w.heap.size)
  iterate 2 (focus exact zL)
  try clear hb3
  try clear hb0
  try clear k0
  intro wa hb0 k0
  (try simp only [List.setIfInBounds_toArray, List.set_cons_zero, List.set_cons_succ] at k0)
  have L0 := k0.cell
  go_wp2_with fail
  refine (hc.out wa hb0).mono ?_
  rintro e w3 ⟨rfl, hb3⟩
  replace hb0 := bl_tr hb0 hb3
  go_wp2
  go_ret
  exact ⟨rfl, hb0⟩
theorem c_works1 (r : Rw) (failed : Nat) (B : Nat) (w : World) (hr : RwIn r w) (hb : ∀ n ∈ r.l, 0 ≤ n ∧ n < 10) (hf : failed < 1024) (kb : Blk w B 152 #[.int .u64 failed]) :
    Calls Tryz.prog 179 #[vRw r, .pointer (some ⟨B, 0, none⟩)] w (Ret (.bool (setN r.l &&& failed == 0)) w) := by
  have hc := Lib.hid fun W (hb' : Below w.heap.size w W) => c_setOf r.l r.A r.c W (hr.sl.below hb') (Nat.le_trans hr.len (by decide)) hb
  have hlt := setN_lt hb
  clear hr hb
  change Calls Tryz.prog 179 #[.slice r.A r.l.length r.c, .pointer (some ⟨B, 0, none⟩)] w _
  generalize setN r.l = s at *
  have hand := u64_and_nat s failed (by omega) (by omega)
  generalize r.l.length = n at *
  go_enter Tryz.func179, Tryz.ntmps179
  go_upto_region 1 with fail
  first
  | apply absB1 (w0 := w) (g0 := B)
  | apply absTB1 (w0 := w) (g0 := B)
  | apply absIB1 (w0 := w) (g0 := B)
  iterate 2 (focus exact zL)
  try clear hb3
  try clear hb0
  try clear kb
  intro wa hb0 kb
  (try simp only [List.setIfInBounds_toArray, List.set_cons_zero, List.set_cons_succ] at kb)
  have Lkb := kb.later
  have Fkb := kb.laterF
  have Qkb := kb.lt
  refine wp_any (w0 := wa) ⟨[], [], [some 4, some 5, some 6, some 7, some 8, some 3], [[], [0], [], [0, 1, 2], [0, 1, 2, 3], [0, 1, 2, 3, 4]], [[], [0], [], [1, 2], [3], [4]]⟩ (fun _ => []) (by kernel_rfl) (by kernel_rfl) (by (exact zE)) (fun u => by simp only [putD, Act.put, List.setIfInBounds_toArray, List.set_cons_zero, List.set_cons_succ, Nat.zero_add, Nat.reduceAdd]; rfl) ?_
  apply RGW.on (i := 0) rfl
  · exact zG
  · intro γ u W hcur hd
    clear hd
    (try dsimp only)
    exact ⟨rfl, zS⟩
  · exact zC
  · rfl
  dsimp only [nA, cA]
  apply RGW.call (i := 1) rfl
  · exact zG
  · intro γ u W hcur hd
    obtain ⟨⟨h0, -, -⟩, -⟩ := hd
    dsimp only at h0
    (try simp only [h0])
    refine ⟨rfl, fun K hK => ?_⟩
    go_simp
    (go_at_call 93; (with_reducible refine (hc.out _ (bl_tr hb0 hcur)).mono ?_); rintro e w3 ⟨rfl, rfl⟩)
    (try dsimp only)
    exact hK.out _ _ rfl (by (exact zE))
  · exact zC
  · rfl
  dsimp only [nA, cA]
  apply RGW.on (i := 2) rfl
  · exact zG
  · intro γ u W hcur hd
    clear hd
    (try dsimp only)
    exact ⟨rfl, zS⟩
  · exact zC
  · rfl
  dsimp only [nA, cA]
  apply RGW.on (i := 3) rfl
  · exact zG
  · intro γ u W hcur hd
    obtain ⟨⟨h1, -, -⟩, ⟨h2, -, -⟩, -⟩ := hd
    dsimp only at h1 h2
    (try simp only [h1, h2])
    exact ⟨rfl, zS⟩
  · exact zC
  · rfl
  dsimp only [nA, cA]
  apply RGW.on (i := 4) rfl
  · exact zG
  · intro γ u W hcur hd
    obtain ⟨⟨h3, -, -⟩, -⟩ := hd
    dsimp only at h3
    (try simp only [h3])
    exact ⟨rfl, zS⟩
  · exact zC
  · rfl
  dsimp only [nA, cA]
  apply RGW.on (i := 5) rfl
  · exact zG
  · intro γ u W hcur hd
    obtain ⟨⟨h4, -, -⟩, -⟩ := hd
    dsimp only at h4
    (try simp only [h4])
    exact ⟨rfl, zS⟩
  · exact zC
  · rfl
  dsimp only [nA, cA]
  refine RGW.fin (fun γ u wb hwb hd hdis => ?_)
  obtain ⟨⟨h0, -, -⟩, ⟨h1, -, -⟩, ⟨h2, -, -⟩, ⟨h3, -, -⟩, ⟨h4, -, -⟩, ⟨h5, -, -⟩, -⟩ := hd
  dsimp only at h0 h1 h2 h3 h4 h5
  clear hdis
  simp only [h0, h1, h2, h3, h4, h5]
  clear h5 h4 h3 h2 h1 h0
  clear u
  simp only [List.map_nil]
  refine PlanW.done ?_
  have hb3 := bl_tt hwb
  go_wp2
  go_ret
  refine ⟨?_, by (exact zE)⟩
  generalize s &&& failed = q
  cases q <;> rfl
/-- The ways of a function name parts below ten. -/
def FuOk (f : Fu) : Prop := ∀ r ∈ f.ws, ∀ n ∈ r.l, 0 ≤ n ∧ n < 10
theorem c_works (f : Fu) (failed : Nat) (w : World) (hf : FuIn f w) (hok : FuOk f) (hlt : failed < 1024) :
    Calls Tryz.prog 141 #[vFu f, .int .u64 failed] w (Ret (.bool (worksB f failed)) w) := by
  have hc := Lib.hid fun (B : Nat) (W : World) (hb : Below w.heap.size w W) (kb : Blk W B 152 #[.int .u64 failed]) =>
    c_ContainsFuncW 179 #[.pointer (some ⟨B, 0, none⟩)] (fun r => setN r.l &&& failed == 0) f.A f.ws f.c W (Nat.le_trans hf.len (by decide)) (enters_of Tryz.func179 (by kernel_rfl) rfl)
      (fun r hr W' hb' => c_works1 r failed B W' (((hf.rows r hr).below hb).below hb') (hok r hr) hlt (kb.below hb')) (hf.sl.below hb)
  have he : Hid ((f.ws.any fun r => setN r.l &&& failed == 0) = worksB f failed) := rfl
  clear hf hok
  change Calls Tryz.prog 141 #[.agg #[.string f.name, .slice f.A f.ws.length f.c], .int .u64 failed] w _
  rw [he.out] at hc
  generalize f.ws.length = n at *
  go_enter Tryz.func141, Tryz.ntmps141
  go_upto_region 1 with fail
  first
  | apply absB2 (w0 := w) (g0 := w.heap.size) (g1 := w.heap.size + 1)
  | apply absTB2 (w0 := w) (g0 := w.heap.size) (g1 := w.heap.size + 1)
  | apply absIB2 (w0 := w) (g0 := w.heap.size) (g1 := w.heap.size + 1)
  iterate 3 (focus exact zL)
  try clear hb3
  try clear hb0
  try clear k0
  try clear k1
  intro wa hb0 k0 k1
  (try simp only [List.setIfInBounds_toArray, List.set_cons_zero, List.set_cons_succ] at k0 k1)
  have L0 := k0.cell
  go_wp2_with fail
  refine (hc.out (w.heap.size + 1) wa hb0 k1).mono ?_
  rintro e w3 ⟨rfl, hb3⟩
  replace hb0 := bl_tr hb0 hb3
  go_wp2
  go_ret
  exact ⟨rfl, hb0⟩
theorem cutTo_lt (f : Fu) (b : Nat) : ∀ k, b < 1024 → k ≤ 1024 → cutTo f b k < 1024
  | 0, h, _ => h
  | k + 1, h, hk => by
    rw [cutTo]
    split
    · omega
    · exact cutTo_lt f b k h (by omega)
set_option maxHeartbeats 4000000 in
theorem c_cut (f : Fu) (parts : Nat) (w : World) (hf : FuIn f w) (hok : FuOk f) (hp : parts ≤ 10) (hT : Tab w) :
    Calls Tryz.prog 89 #[vFu f, .int .i64 parts] w (Ret (.int .u64 (cutS f parts : Nat)) w) := by
  have hw := Lib.hid fun (k : Nat) (hk : k < 1024) W (hb : Below w.heap.size w W) => c_works f k W (hf.below hb) hok hk
  have hl := Lib.hid fun (k : Nat) (hk : k < 1024) W (hb : Below w.heap.size w W) => c_list k W hk (hT.below hb)
  have hN : 2 ^ parts ≤ 1024 := Nat.le_trans (Nat.pow_le_pow_right (by decide) hp) (by decide)
  have h1 := Nat.two_pow_pos parts
  have hlt := Lib.hid fun k (hk : k ≤ 1024) => cutTo_lt f (2 ^ parts - 1) k (by omega) hk
  have hend : Hid (cutTo f (2 ^ parts - 1) (2 ^ parts) = cutS f parts) := rfl
  have h0 : Hid (cutTo f (2 ^ parts - 1) 0 = 2 ^ parts - 1) := rfl
  have hst := Lib.hid fun k => (show cutTo f (2 ^ parts - 1) (k + 1) = if smallB k (cutTo f (2 ^ parts - 1) k) && !worksB f k then k else cutTo f (2 ^ parts - 1) k from rfl)
  have hsh : IntKind.u64.wrap (2 ^ parts) = ((2 ^ parts : Nat) : Int) := by
    have : ((2 : Int) ^ parts) = ((2 ^ parts : Nat) : Int) := by simp
    rw [this, IntWalk.u64_in _ (by omega)]
  generalize worksB f = wk at *
  clear hf hok hT
  obtain ⟨g, hg⟩ : ∃ g : Nat → Nat, ∀ k, cutTo f (2 ^ parts - 1) k = g k := ⟨_, fun _ => rfl⟩
  simp only [hg] at hlt hst h0 hend
  clear hg
  change Calls Tryz.prog 89 #[.agg #[.string f.name, .slice f.A f.ws.length f.c], .int .i64 parts] w _
  dsimp only [vFu] at hw
  generalize f.ws.length = n at *
  generalize cutS f parts = cs at *
  go_enter Tryz.func89, Tryz.ntmps89
  go_upto_region 1 with fail
  first
  | apply absB1 (w0 := w) (g0 := w.heap.size)
  | apply absTB1 (w0 := w) (g0 := w.heap.size)
  | apply absIB1 (w0 := w) (g0 := w.heap.size)
  iterate 2 (focus exact zL)
  try clear hb3
  try clear hb0
  try clear k0
  intro wa hb0 k0
  (try simp only [List.setIfInBounds_toArray, List.set_cons_zero, List.set_cons_succ] at k0)
  go_wp2
  have e1 : ((2 : Int) ^ parts) = ((2 ^ parts : Nat) : Int) := by simp
  simp only [e1]
  clear e1 hsh
  generalize 2 ^ parts = N at *
  have e2 : IntKind.u64.wrap ((N : Int) - 1) = ((N - 1 : Nat) : Int) := by rw [IntWalk.u64_in _ (by omega)]; omega
  simp only [e2]
  go_loopw [5, 13] (fun o i wr => ∃ k : Nat, k ≤ N ∧ i = .int .u64 k ∧ o = .int .u64 (g k : Nat) ∧ Below w.heap.size w wr ∧ Blk wr w.heap.size 144 #[.string f.name, .slice f.A n f.c]) (fun _ i _ => N - (intOf i).toNat)
  case atStart => exact ⟨0, Nat.zero_le _, rfl, by rw [h0.out], hb0, k0⟩
  case round =>
    clear e2 h0
    clear hb0 k0
    obtain ⟨k, hk, rfl, rfl, hb0, k0⟩ := hrel
    have hbk := hlt.out k (by omega)
    by_cases hkN : k < N
    rotate_left
    · go_wp2
      go_ret
      have : k = N := by omega
      exact ⟨by rw [this, hend.out] <;> rfl, hb0⟩
    have hs := hst.out k
    generalize g k = b at *
    have hk2 : k < 1024 := by omega
    have hS1 : sizeS k < sizeS b → smallB k b = true := fun c1 => by simp [smallB, c1]
    have hS2 : ¬ sizeS k < sizeS b → ¬ sizeS k = sizeS b → smallB k b = false := fun c1 c2 => by simp [smallB, c1, c2]
    have hS3 : ¬ sizeS k < sizeS b → sizeS k = sizeS b → smallB k b = decide (cmpL (listS k) (listS b) < 0) := fun c1 c2 => by simp [smallB, c2, cmpL_lt]
    have hll := Lib.hid fun s => listS_len s
    cases hwk : wk k
    all_goals
      have hwc := Lib.hid fun W hb => hw.out k hk2 W hb
      rw [hwk] at hs hwc
      clear hwk
      by_cases c1 : sizeS k < sizeS b
      · rw [hS1 c1] at hs
        simp only [Bool.and_true, Bool.and_false, Bool.not_true, Bool.not_false, Bool.true_and, Bool.false_and, if_true, if_false, Bool.false_eq_true] at hs
        clear hS1 hS2 hS3
        have hb9 := hb0
        have L0 := k0.cell
        go_wp2_with (first | (go_at_call 139; (with_reducible refine (c_size _ _ (by omega)).mono ?_); rintro e w3 ⟨rfl, rfl⟩) | (go_at_call 141; (with_reducible refine (hwc.out _ hb0).mono ?_); rintro e w3 ⟨rfl, hb3⟩))
        all_goals
          try (exfalso; omega)
          try replace hb0 := bl_tr hb0 hb3
          try replace k0 := k0.below hb3
          go_roundw
          case rel => exact ⟨k + 1, by omega, by go_num, by rw [hs] <;> rfl, hb0, k0⟩
          case measure => simp [intOf]; omega
      · by_cases c2 : sizeS k = sizeS b
        · rw [hS3 c1 c2] at hs
          clear hS1 hS2 hS3
          go_wp2_with ((go_at_call 139; (with_reducible refine (c_size _ _ (by omega)).mono ?_); rintro e w3 ⟨rfl, rfl⟩))
          refine (hl.out k hk2 wr hb0).mono ?_
          rintro e w4 ⟨A1, n1, rfl, hb4, ho1⟩
          replace hb0 := bl_tr hb0 hb4
          replace k0 := k0.below hb4
          go_wp2_with fail
          refine (hl.out b hbk w4 hb0).mono ?_
          rintro e w5 ⟨A2, n2, rfl, hb5, ho2⟩
          replace hb0 := bl_tr hb0 hb5
          replace k0 := k0.below hb5
          go_wp2_with fail
          refine (c_Compare (listS k) (listS b) A1 A2 n1 n2 w5 ((own_sl ho1).below hb5) (own_sl ho2) (Nat.le_trans (hll.out k) (by decide)) (Nat.le_trans (hll.out b) (by decide))).mono ?_
          rintro e w6 ⟨rfl, hb6⟩
          replace hb0 := bl_tr hb0 hb6
          replace k0 := k0.below hb6
          clear hb4 hb5 hb6 ho1 ho2 hl hll
          generalize cmpL (listS k) (listS b) = cm at *
          generalize (listS k).length = lk at *
          generalize (listS b).length = lb at *
          by_cases c3 : cm < 0
          all_goals
            simp only [c3, decide_true, decide_false, Bool.and_true, Bool.and_false, Bool.not_true, Bool.not_false, Bool.true_and, Bool.false_and, if_true, if_false, Bool.false_eq_true] at hs
            have L0 := k0.cell
            go_wp2_with ((go_at_call 141; (with_reducible refine (hwc.out _ hb0).mono ?_); rintro e w3 ⟨rfl, hb3⟩))
            all_goals
              try (exfalso; omega)
              try replace hb0 := bl_tr hb0 hb3
              try replace k0 := k0.below hb3
              go_roundw
              case rel => exact ⟨k + 1, by omega, by go_num, by rw [hs] <;> rfl, hb0, k0⟩
              case measure => simp [intOf]; omega
        · rw [hS2 c1 c2] at hs
          simp only [Bool.and_true, Bool.and_false, Bool.not_true, Bool.not_false, Bool.true_and, Bool.false_and, if_true, if_false, Bool.false_eq_true] at hs
          clear hS1 hS2 hS3
          have L0 := k0.cell
          go_wp2_with (first | (go_at_call 139; (with_reducible refine (c_size _ _ (by omega)).mono ?_); rintro e w3 ⟨rfl, rfl⟩) | (go_at_call 141; (with_reducible refine (hwc.out _ hb0).mono ?_); rintro e w3 ⟨rfl, hb3⟩))
          all_goals
            try (exfalso; omega)
            try replace hb0 := bl_tr hb0 hb3
            try replace k0 := k0.below hb3
            go_roundw
            case rel => exact ⟨k + 1, by omega, by go_num, by rw [hs] <;> rfl, hb0, k0⟩
            case measure => simp [intOf]; omega
theorem idxErr_ok {l : List Int} {count : Int} (h : idxErr l count = 0) : ∀ x ∈ l, 0 ≤ x ∧ x < count := fun x hx => by
  obtain ⟨k, hk⟩ := List.mem_iff_getElem?.1 hx
  have := eachS_ok _ l 0 h k x hk
  have h1 := ((fst_cons _ _).1 this).1
  have h2 := (unl_zero (by decide)).1 h1
  simp [inR] at h2
  omega
theorem waysE_ok {parts : Int} : ∀ (ws : List Rw) (e : Int), waysE parts e ws = 0 → e = 0 ∧ ∀ r ∈ ws, idxErr r.l parts = 0
  | [], e, h => ⟨h, by simp⟩
  | r :: ws, e, h => by
    obtain ⟨h1, h2⟩ := waysE_ok ws _ h
    obtain ⟨h3, h4⟩ := (fst_cons _ _).1 h1
    obtain ⟨h5, h6⟩ := (fst_cons _ _).1 h4
    obtain ⟨h7, -⟩ := (fst_cons _ _).1 h6
    refine ⟨h3, fun r' hr => ?_⟩
    rcases List.mem_cons.1 hr with rfl | hr
    · exact h7
    · exact h2 r' hr
theorem netErr_ok {n : Nt} (h : netErr n = 0) : n.ps.length ≤ 10 ∧ n.fs.length ≤ 10 ∧ ∀ f ∈ n.fs, ∀ r ∈ f.ws, ∀ x ∈ r.l, 0 ≤ x ∧ x < n.ps.length := by
  unfold netErr netChk at h
  split at h
  · rename_i h0
    split at h
    · split at h
      · rename_i h2
        obtain ⟨a1, a2⟩ := (fst_cons _ _).1 h0
        obtain ⟨a3, -⟩ := (fst_cons _ _).1 a2
        have a4 := (unl_zero (by decide)).1 a3
        simp at a4
        refine ⟨by omega, by omega, fun f hf r hr x hx => ?_⟩
        obtain ⟨k, hk⟩ := List.mem_iff_getElem?.1 hf
        have b1 := eachS_ok _ n.fs 0 h2 k f hk
        exact idxErr_ok ((waysE_ok f.ws _ b1).2 r hr) x hx
      · rename_i h2
        exact absurd h h2
    · rename_i h1
      exact absurd h h1
  · rename_i h0
    exact absurd h h0
end Go.Proofs.YtbdgblnccjpahaaGreatDoor
namespace Go.Proofs.YtbdgblnccjpahaaGreatDoor
/-- The messages that wait (when sent, how many frames are left), the worst responses. -/
structure Ss where
  q : Nat → List (Int × Int)
  wo : Nat → Int
def ss0 : Ss := ⟨fun _ => [], fun _ => 0⟩
def lenAt (l : List Sm) (i : Nat) : Int := match l[i]? with
  | some s => s.len
  | none => 0
/-- A stream's response: the least number at which the demand is met. -/
def respTo (f : Int → Int) : Nat → Int → Option Int
  | 0, _ => none
  | n + 1, r => if f r = r then some r else respTo f n (r + 1)
def respS (before : List Sm) (s : Sm) : Option Int := respTo (respF before s.len) 10000 1
def respV : Option Int → Int × Bool
  | some r => (r, true)
  | none => (0, false)
end Go.Proofs.YtbdgblnccjpahaaGreatDoor
namespace Go.Proofs.YtbdgblnccjpahaaGreatDoor
open Go.RowKit Go.Shelf
set_option maxRecDepth 20000
def cMg (i : Nat) (x : Int × Int) : List Value := [.int .i64 i, .int .i64 x.1, .int .i64 x.2]
def blA : Option Addr → List Nat
  | none => []
  | some a => [a.block]
abbrev tMg : TypeId := 225
def Qu (w : World) (b i : Nat) (A : Option Addr) (c : Nat) (L : List (Int × Int)) : Prop :=
  (A = none ∧ c = 0 ∧ L = []) ∨ ∃ g off cs, A = some ⟨g, off, none⟩ ∧ b ≤ g ∧ Blk w g tMg cs ∧ L.length ≤ c ∧ off + c * 3 ≤ cs.size ∧ ∀ j u, (L.flatMap (cMg i))[j]? = some u → cs[off + j]? = some u
theorem Qu.nil (w : World) (b i : Nat) : Qu w b i none 0 [] := .inl ⟨rfl, rfl, rfl⟩
theorem Qu.keep {w w' : World} {b i c : Nat} {A : Option Addr} {L : List (Int × Int)} {X : List Nat} (h : Qu w b i A c L) (hb : BX X w w') (hX : ∀ g ∈ blA A, g ∉ X) : Qu w' b i A c L := by
  rcases h with h | ⟨g, off, cs, rfl, h1, h2, h3, h4, h5⟩
  · exact .inl h
  · exact .inr ⟨g, off, cs, rfl, h1, h2.keep (hX g (by simp [blA])) hb, h3, h4, h5⟩
theorem Qu.below {w w' : World} {b i c : Nat} {A : Option Addr} {L : List (Int × Int)} (h : Qu w b i A c L) (hb : Below w.heap.size w w') : Qu w' b i A c L := h.keep (bx_bl [] hb) (by simp)
theorem Qu.ge {w : World} {b i c : Nat} {A : Option Addr} {L : List (Int × Int)} (h : Qu w b i A c L) : ∀ g ∈ blA A, b ≤ g ∧ g < w.heap.size := by
  rcases h with ⟨rfl, _⟩ | ⟨g, off, cs, rfl, h1, h2, _⟩
  · simp [blA]
  · intro g' hg'
    simp [blA] at hg'
    subst hg'
    exact ⟨h1, h2.lt⟩
theorem Qu.of {w : World} {b b' i c : Nat} {A : Option Addr} {L : List (Int × Int)} (h : w.ownsRow b' tMg 3 (.slice A L.length c) L.length (L.flatMap (cMg i))) (hb : b ≤ b') : Qu w b i A c L := by
  rcases h.2 with ⟨e, e0⟩ | ⟨g, cap, cur, e1, e2, e3, e4, e5, e6, e7⟩
  · injection e with e1 e2 e3
    subst e1 e3
    exact .inl ⟨rfl, rfl, List.eq_nil_of_length_eq_zero e0⟩
  · injection e1 with e1 _ e8
    subst e1 e8
    refine .inr ⟨g, 0, cur, rfl, by omega, e3, e4, by omega, fun j u hj => ?_⟩
    rw [Nat.zero_add]
    rw [← e7, List.getElem?_take] at hj
    split at hj
    · simpa using hj
    · cases hj
end Go.Proofs.YtbdgblnccjpahaaGreatDoor
namespace Go.Proofs.YtbdgblnccjpahaaGreatDoor
open Go.RowKit Go.Shelf
attribute [local go_sem] bl_al bl_drew bl_drewN bl_refl bx_al bx_drew bx_drewN bx_refl
set_option maxRecDepth 20000
theorem bx_sub {X Y : List Nat} {w W : World} (h : BX X w W) (hs : ∀ g ∈ X, g ∈ Y) : BX Y w W :=
  ⟨h.os, h.tape, h.output, h.size, fun i hi hY => h.block i hi fun hX => hY (hs i hX), fun g hg t cs hk => by
    by_cases hX : g ∈ X
    · exact h.shape g hX t cs hk
    · exact ⟨cs, hk.keep hX h, rfl⟩⟩
/-- Where the queues lie. -/
structure QS where
  A : Nat → Option Addr
  c : Nat → Nat
def vQ (Q : QS) (q : Nat → List (Int × Int)) (i : Nat) : Value := .slice (Q.A i) (q i).length (Q.c i)
abbrev tSnd : TypeId := 125
def cSnd (vl vs : Value) (q : Nat → Value) (vw : Value) : Array Value := #[vl, vs, q 0, q 1, q 2, q 3, q 4, q 5, vw]
/-- A sender lies in the world: its block, its queues, its worst responses. -/
structure Snd (b S Bw : Nat) (vl vs : Value) (n : Nat) (Q : QS) (s : Ss) (w : World) : Prop where
  blk : Blk w S tSnd (cSnd vl vs (vQ Q s.q) (.slice (some ⟨Bw, 0, none⟩) n n))
  wor : Blk w Bw 3 ((List.range n).map fun i => Value.int .i64 (s.wo i)).toArray
  que : ∀ i, i < 6 → Qu w b i (Q.A i) (Q.c i) (s.q i)
  bS : b ≤ S
  bW : b ≤ Bw
  SW : S ≠ Bw
  dis : ∀ i j, i < 6 → j < 6 → i ≠ j → ∀ g ∈ blA (Q.A i), g ∉ blA (Q.A j)
  dS : ∀ i, i < 6 → S ∉ blA (Q.A i)
  dW : ∀ i, i < 6 → Bw ∉ blA (Q.A i)
theorem Snd.below {b S Bw n : Nat} {vl vs : Value} {Q : QS} {s : Ss} {w w' : World} (h : Snd b S Bw vl vs n Q s w) (hb : Below w.heap.size w w') : Snd b S Bw vl vs n Q s w' :=
  ⟨h.blk.below hb, h.wor.below hb, fun i hi => (h.que i hi).below hb, h.bS, h.bW, h.SW, h.dis, h.dS, h.dW⟩
/-- The blocks of a sender that change. -/
def foot (S Bw : Nat) (Q : QS) : List Nat := S :: Bw :: (List.range 6).flatMap fun i => blA (Q.A i)
theorem foot_q {S Bw : Nat} {Q : QS} {i g : Nat} (hi : i < 6) (h : g ∈ blA (Q.A i)) : g ∈ foot S Bw Q := by
  simp only [foot, List.mem_cons, List.mem_flatMap, List.mem_range]
  exact .inr (.inr ⟨i, hi, h⟩)
end Go.Proofs.YtbdgblnccjpahaaGreatDoor
namespace Go.Proofs.YtbdgblnccjpahaaGreatDoor
open Go.RowKit Go.Shelf
attribute [local go_sem] bl_al bl_drew bl_drewN bl_refl bx_al bx_drew bx_drewN bx_refl Oper.semAt_some
set_option maxRecDepth 20000
theorem ownL_blk {w : World} {base n size : Nat} {e : TypeId} {v : Value} {xs : List Value} (h : w.ownsRow base e size v n xs) : ∀ g ∈ ownL v, ∃ t cs, Blk w g t cs := fun g hg => by
  rcases h.2 with ⟨rfl, _⟩ | ⟨k, cap, cur, rfl, _, hk, _⟩
  · simp [ownL, Value.ownBlock] at hg
  · obtain rfl : g = k := by simpa [ownL, Value.ownBlock] using hg
    exact ⟨_, _, hk⟩
end Go.Proofs.YtbdgblnccjpahaaGreatDoor
namespace Go.Proofs.YtbdgblnccjpahaaGreatDoor
def wt (m : Nat → Int) : Nat → Int
  | 0 => 0
  | k + 1 => wt m k + m k
theorem wt_le {f g : Nat → Int} : ∀ {n : Nat}, (∀ k, k < n → f k ≤ g k) → wt f n ≤ wt g n
  | 0, _ => Int.le_refl _
  | n + 1, h => by
    rw [wt, wt]
    have := wt_le (n := n) fun k hk => h k (by omega)
    have := h n (by omega)
    omega
/-- Streams as they are asked for. -/
def OkSm (s : Sm) : Prop := 1 ≤ s.per ∧ s.per ≤ 60 ∧ 1 ≤ s.dl ∧ s.dl ≤ s.per ∧ 1 ≤ s.len ∧ s.len ≤ 20
theorem lenAt_nonneg {l : List Sm} (hl : ∀ s ∈ l, OkSm s) (i : Nat) : 0 ≤ lenAt l i := by
  unfold lenAt
  cases e : l[i]? with
  | none => exact Int.le_refl _
  | some s =>
    have := (hl s (List.mem_of_getElem? e)).2.2.2.2.1
    show 0 ≤ s.len
    omega
def perAt (l : List Sm) (i : Nat) : Int := match l[i]? with
  | some s => s.per
  | none => 1
end Go.Proofs.YtbdgblnccjpahaaGreatDoor
namespace Go.Proofs.YtbdgblnccjpahaaGreatDoor
theorem foldl_wt (l : List Sm) (r b : Int) : ∀ n : Nat, n ≤ l.length → ((l.take n).map fun o => o.len * ((r + o.per - 1) / o.per)).foldl (· + ·) b = b + wt (fun k => lenAt l k * ((r + perAt l k - 1) / perAt l k)) n
  | 0, _ => by simp [wt]
  | n + 1, h => by
    have e : l[n]? = some (l[n]'(by omega)) := List.getElem?_eq_getElem _
    rw [List.take_add_one, e, List.map_append, List.foldl_append, foldl_wt l r b n (by omega), wt]
    unfold lenAt perAt
    rw [e]
    simp
    omega
theorem ceil_mono {p a b : Int} (hp : 1 ≤ p) (h : a ≤ b) : (a + p - 1) / p ≤ (b + p - 1) / p := Int.ediv_le_ediv (by omega) (by omega)
theorem perAt_ok {l : List Sm} (hl : ∀ s ∈ l, OkSm s) (k : Nat) : 1 ≤ perAt l k := by
  unfold perAt
  cases e : l[k]? with
  | none => exact Int.le_refl _
  | some s => exact (hl s (List.mem_of_getElem? e)).1
end Go.Proofs.YtbdgblnccjpahaaGreatDoor
namespace Go.Proofs.YtbdgblnccjpahaaGreatDoor
theorem respTo_skip {f : Int → Int} : ∀ (n : Nat) (r : Int) (d : Nat), d ≤ n → (∀ x, r ≤ x → x < r + d → f x ≠ x) → respTo f n r = respTo f (n - d) (r + d)
  | n, r, 0, _, _ => by simp
  | 0, r, d + 1, h, _ => by omega
  | n + 1, r, d + 1, h, hx => by
    rw [respTo, if_neg (hx r (Int.le_refl _) (by omega)), respTo_skip n (r + 1) d (by omega) fun x h1 h2 => hx x (by omega) (by omega)]
    congr 1
    · omega
    · omega
theorem respTo_none {f : Int → Int} : ∀ (n : Nat) (r : Int), (∀ x, r ≤ x → x < r + n → f x ≠ x) → respTo f n r = none
  | 0, _, _ => rfl
  | n + 1, r, h => by
    rw [respTo, if_neg (h r (Int.le_refl _) (by omega))]
    exact respTo_none n (r + 1) fun x h1 h2 => h x (by omega) (by omega)
/-- One step of the iteration. -/
theorem resp_step {f : Int → Int} (hm : ∀ a b, a ≤ b → f a ≤ f b) {r : Int} (h1 : 1 ≤ r) (h2 : r ≤ 10000) (hr : r ≤ f r) (hne : f r ≠ r) (hb : f r ≤ 1000000000) :
    respTo f (10001 - r).toNat r = respTo f (10001 - f r).toNat (f r) ∧ f r ≤ f (f r) := by
  have hno : ∀ x, r ≤ x → x < f r → f x ≠ x := fun x h3 h4 e => by
    have := hm r x h3
    omega
  refine ⟨?_, hm _ _ hr⟩
  by_cases h : f r ≤ 10000
  · rw [respTo_skip (10001 - r).toNat r (f r - r).toNat (by omega) fun x h3 h4 => hno x h3 (by omega)]
    congr 1
    · omega
    · omega
  · rw [respTo_none _ r fun x h3 h4 => hno x h3 (by omega), show (10001 - f r).toNat = 0 by omega]
    rfl
theorem resp_hit {f : Int → Int} {r : Int} (h2 : r ≤ 10000) (h : f r = r) : respTo f (10001 - r).toNat r = some r := by
  obtain ⟨n, hn⟩ : ∃ n, (10001 - r).toNat = n + 1 := ⟨(10001 - r).toNat - 1, by omega⟩
  rw [hn, respTo, if_pos h]
theorem resp_end {f : Int → Int} {r : Int} (h2 : 10000 < r) : respTo f (10001 - r).toNat r = none := by
  rw [show (10001 - r).toNat = 0 by omega]
  rfl
def gF (l : List Sm) (b r : Int) (j : Nat) : Int := ((l.take j).map fun o => o.len * ((r + o.per - 1) / o.per)).foldl (· + ·) b
theorem gF_eq (l : List Sm) (b r : Int) {j : Nat} (h : j ≤ l.length) : gF l b r j = b + wt (fun k => lenAt l k * ((r + perAt l k - 1) / perAt l k)) j := foldl_wt l r b j h
theorem gF_next {l : List Sm} {b r : Int} {j : Nat} {x : Sm} (h : l[j]? = some x) : gF l b r (j + 1) = gF l b r j + x.len * ((r + x.per - 1) / x.per) := by
  have hj := (List.getElem?_eq_some_iff.1 h).1
  rw [gF_eq l b r (by omega), gF_eq l b r (by omega), wt]
  unfold lenAt perAt
  rw [h]
  dsimp only
  omega
theorem gF_all (l : List Sm) (b r : Int) : gF l b r l.length = respF l b r := by
  unfold gF respF
  rw [List.take_length]
theorem ceil_bd {p r : Int} (hp : 1 ≤ p) (h0 : 0 ≤ r) : 0 ≤ (r + p - 1) / p ∧ (r + p - 1) / p ≤ r + p - 1 := by
  refine ⟨Int.ediv_nonneg (by omega) (by omega), ?_⟩
  exact Int.ediv_le_self _ (by omega)
theorem term_bd {x : Sm} (hx : OkSm x) {r : Int} (h0 : 0 ≤ r) (h1 : r ≤ 10000) : 0 ≤ x.len * ((r + x.per - 1) / x.per) ∧ x.len * ((r + x.per - 1) / x.per) ≤ 300000 := by
  obtain ⟨h2, h3, h4, h5, h6, h7⟩ := hx
  have := ceil_bd h2 h0
  have ha := Int.mul_le_mul_of_nonneg_right h7 this.1
  have hb := Int.mul_nonneg (show 0 ≤ x.len by omega) this.1
  omega
theorem gF_bd {l : List Sm} (hl : ∀ o ∈ l, OkSm o) {b r : Int} (hb : 1 ≤ b) (hb2 : b ≤ 20) (h0 : 0 ≤ r) (h1 : r ≤ 10000) : ∀ j : Nat, j ≤ l.length → 1 ≤ gF l b r j ∧ gF l b r j ≤ 20 + j * 300000
  | 0, _ => by
    unfold gF
    simp
    omega
  | j + 1, h => by
    have e : l[j]? = some (l[j]'(by omega)) := List.getElem?_eq_getElem _
    rw [gF_next e]
    have := gF_bd hl hb hb2 h0 h1 j (by omega)
    have := term_bd (hl _ (List.getElem_mem (by omega : j < l.length))) h0 h1
    omega
theorem respF_mono {l : List Sm} (hl : ∀ o ∈ l, OkSm o) (b : Int) {x y : Int} (h : x ≤ y) : respF l b x ≤ respF l b y := by
  rw [← gF_all, ← gF_all, gF_eq l b x (Nat.le_refl _), gF_eq l b y (Nat.le_refl _)]
  have := wt_le (f := fun k => lenAt l k * ((x + perAt l k - 1) / perAt l k)) (g := fun k => lenAt l k * ((y + perAt l k - 1) / perAt l k)) (n := l.length) fun k _ =>
    Int.mul_le_mul_of_nonneg_left (ceil_mono (perAt_ok hl k) h) (lenAt_nonneg hl k)
  omega
end Go.Proofs.YtbdgblnccjpahaaGreatDoor
