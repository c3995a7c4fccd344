/-
  Walks: which nets are valid.
  Walks: which nets are valid, continued.
  Walks: the library's comparison of numbers, and of lists of numbers.
  Walks: sets of numbers as bits: the lowest one, how many, the list, the set of a list. The table of the library's that is read: Tab.
  Walks: which failures stop a function, the smallest of them.
  What a sender computes: messages that wait, by streams; which stream's frame is carried at each tick; the worst responses.
  The queues of a sender: messages at some place in a block of the call's own; one more of them.
  Walks: a sender's tick: what is sent.
-/
import Derived.Test.YtdlmkblmljhbfaaDoorU2
import Derived.Lib.TrailingZeros
import Derived.Laws.Bits64b
import Derived.Deep.AppendLies
import Derived.ArgAppend
namespace Go.Proofs.YtdlmkblmljhbfaaDoor
set_option linter.unusedSimpArgs false
set_option linter.unusedVariables false
open Go.RowKit Go.Shelf
attribute [local go_sem] bl_al bl_drew bl_drewN bl_refl bx_al bx_drew bx_drewN bx_refl
set_option maxRecDepth 20000
structure RwIn (r : Rw) (w : World) : Prop where
  len : r.l.length ≤ 1000
  cap : r.l.length ≤ r.c
  sl : Sl cI 1 w r.A r.l
structure FuIn (f : Fu) (w : World) : Prop where
  nm : f.name.size ≤ maxLen
  len : f.ws.length ≤ 1000
  cap : f.ws.length ≤ f.c
  sl : Sl cRw 1 w f.A f.ws
  rows : ∀ r ∈ f.ws, RwIn r w
structure MdIn (m : Md) (w : World) : Prop where
  nm : m.name.size ≤ maxLen
  row : RwIn m.r w
/-- A net lies where the headers of its slices say. -/
structure NtIn (n : Nt) (Ap Af Am : Option Addr) (cp cf cm : Nat) (w : World) : Prop where
  plen : n.ps.length ≤ 1000
  flen : n.fs.length ≤ 1000
  mlen : n.ms.length ≤ 1000
  pcap : n.ps.length ≤ cp
  fcap : n.fs.length ≤ cf
  mcap : n.ms.length ≤ cm
  psl : Sl cS 1 w Ap n.ps
  fsl : Sl cFu 2 w Af n.fs
  msl : Sl cMd 2 w Am n.ms
  pnm : ∀ s ∈ n.ps, s.size ≤ maxLen
  fin : ∀ f ∈ n.fs, FuIn f w
  min : ∀ m ∈ n.ms, MdIn m w
theorem RwIn.below {r : Rw} {w w' : World} (h : RwIn r w) (hb : Below w.heap.size w w') : RwIn r w' := ⟨h.len, h.cap, h.sl.below hb⟩
theorem FuIn.below {f : Fu} {w w' : World} (h : FuIn f w) (hb : Below w.heap.size w w') : FuIn f w' := ⟨h.nm, h.len, h.cap, h.sl.below hb, fun r hr => (h.rows r hr).below hb⟩
theorem MdIn.below {m : Md} {w w' : World} (h : MdIn m w) (hb : Below w.heap.size w w') : MdIn m w' := ⟨h.nm, h.row.below hb⟩
theorem NtIn.below {n : Nt} {Ap Af Am : Option Addr} {cp cf cm : Nat} {w w' : World} (h : NtIn n Ap Af Am cp cf cm w) (hb : Below w.heap.size w w') : NtIn n Ap Af Am cp cf cm w' :=
  ⟨h.plen, h.flen, h.mlen, h.pcap, h.fcap, h.mcap, h.psl.below hb, h.fsl.below hb, h.msl.below hb, h.pnm, fun f hf => (h.fin f hf).below hb, fun m hm => (h.min m hm).below hb⟩
theorem RwIn.map {r : Rw} {L : List ByteArray} {g m : Nat} {w w' : World} (h : RwIn r w) (hs : Seen L g m w) (hb : BX [m] w w') : RwIn r w' := ⟨h.len, h.cap, sl_map h.sl hs hb⟩
theorem FuIn.map {f : Fu} {L : List ByteArray} {g m : Nat} {w w' : World} (h : FuIn f w) (hs : Seen L g m w) (hb : BX [m] w w') : FuIn f w' := ⟨h.nm, h.len, h.cap, sl_map h.sl hs hb, fun r hr => (h.rows r hr).map hs hb⟩
theorem MdIn.map {d : Md} {L : List ByteArray} {g m : Nat} {w w' : World} (h : MdIn d w) (hs : Seen L g m w) (hb : BX [m] w w') : MdIn d w' := ⟨h.nm, h.row.map hs hb⟩
theorem ways_snoc (parts e : Int) (ws : List Rw) (r : Rw) : waysE parts e (ws ++ [r]) = fstE [waysE parts e ws, unl (decide (0 < r.l.length)) 10, idxErr r.l parts] := by simp [waysE, List.foldl_append]
abbrev vName (g : Nat) : Value := .func (.func 136) #[] #[.pointer (some ⟨g, 0, none⟩)]
abbrev tName : TypeId := 151
theorem c_net1 (i : Int) (L : List ByteArray) (s : ByteArray) (Bn g m : Nat) (w : World) (kn : Blk w Bn tName #[vName g]) (hs : Seen L g m w) (hn : s.size ≤ maxLen) (hL : L.length ≤ 1000) :
    Calls Tryd.prog 103 #[.int .i64 i, .string s, .pointer (some ⟨Bn, 0, none⟩)] w
      (fun e w' => e = .returned (.int .i64 (fstE [unl (nameB s) 4, unl (!knownB L s) 5])) ∧ BX [m] w w' ∧ Seen (L ++ [s]) g m w') := by
  have hcall := Lib.hid (c_names1 L s g m w hs hn hL)
  have L0 := kn.cell
  clear hs
  go_enter Tryd.func103, Tryd.ntmps103
  go_wp2_with fail
  refine hcall.out.mono ?_
  rintro e w3 ⟨rfl, hb3, hs3⟩
  go_wp2
  go_ret
  exact ⟨rfl, hb3, hs3⟩
set_option maxHeartbeats 4000000 in
theorem c_net2 (i parts : Int) (L : List ByteArray) (f : Fu) (Bn Bp g m : Nat) (w : World) (kn : Blk w Bn tName #[vName g]) (kp : Blk w Bp 3 #[.int .i64 parts]) (hs : Seen L g m w) (hf : FuIn f w) (hL : L.length ≤ 1000) (hpt : 0 ≤ parts ∧ parts ≤ 1000000)
    (hnm : m ≠ Bn) (hpm : m ≠ Bp) :
    Calls Tryd.prog 105 #[.int .i64 i, vFu f, .pointer (some ⟨Bn, 0, none⟩), .pointer (some ⟨Bp, 0, none⟩)] w
      (fun e w' => e = .returned (.int .i64 (waysE parts (fstE [fstE [unl (nameB f.name) 4, unl (!knownB L f.name) 5], unl (decide (0 < f.ws.length)) 10, unl (decide ((f.ws.length : Int) ≤ 6)) 8]) f.ws)) ∧ BX [m] w w' ∧ Seen (L ++ [f.name]) g m w') := by
  have hcall := Lib.hid fun (W : World) (h : Seen L g m W) => c_names1 L f.name g m W h hf.nm hL
  obtain ⟨nm, A, c, ws⟩ := f
  have hf' := Lib.hid hf
  have hlen := hf.len
  dsimp only at *
  change Calls Tryd.prog 105 #[.int .i64 i, .agg #[.string nm, .slice A ws.length c], .pointer (some ⟨Bn, 0, none⟩), .pointer (some ⟨Bp, 0, none⟩)] w _
  generalize hwl : ws.length = nw at *
  replace hwl := Lib.hid hwl
  clear hf
  go_enter Tryd.func105, Tryd.ntmps105
  go_upto_region 1 with fail
  have hsn := hs.below (bl_al (.cells #[.string nm, .slice A nw c] 129) (bl_refl w))
  replace kn := kn.alloc (.cells #[.string nm, .slice A nw c] 129)
  replace kp := kp.alloc (.cells #[.string nm, .slice A nw c] 129)
  have k0 := Blk.new w 129 #[.string nm, .slice A nw c]
  have hbx : BX [m] w (w.alloc (.cells #[.string nm, .slice A nw c] 129)) := bx_al _ (bx_refl _ _)
  have hmw : m ≠ w.heap.size := fun e => by
    subst e
    obtain ⟨es, clock, h1, _⟩ := hsn.map
    unfold Blk at k0
    rw [h1] at k0
    cases k0
  generalize w.alloc (.cells #[.string nm, .slice A nw c] 129) = wa at *
  have hmx : w.heap.size ∉ [m] := by simpa using fun e => hmw e.symm
  have hnx : Bn ∉ [m] := by simpa using fun e => hnm e.symm
  have hpx : Bp ∉ [m] := by simpa using fun e => hpm e.symm
  have hml : ∀ x ∈ [m], x < wa.heap.size := by
    obtain ⟨es, clock, h1, _⟩ := hsn.map
    have := (Array.getElem?_eq_some_iff.1 h1).1
    simpa using this
  have L0 := k0.laterX hmx
  have Ln := kn.laterX hnx
  replace hsn := Lib.hid hsn
  have hb0 : Hid (BX [m] w wa) := Lib.hid hbx
  replace hf' := Lib.hid (hf'.out.map hs hbx)
  clear hbx hs
  refine wp_anyM (w0 := wa) 3 [m] ⟨[], [], [some 10, some 11, some 12, some 13, some 14, some 15, some 16, some 17, some 18, some 19, some 20, some 21, some 22, some 23, some 24, some 25, some 7], [[], [], [1], [0, 1, 2], [], [4], [4, 5], [4, 5, 6], [0, 1, 2, 3, 4, 5, 6, 7], [], [9], [9, 10], [9, 10, 11], [0, 1, 2, 3, 4, 5, 6, 7, 8, 9, 10, 11, 12], [0, 1, 2, 3, 4, 5, 6, 7, 8, 9, 10, 11, 12, 13], [0, 1, 2, 3, 4, 5, 6, 7, 8, 9, 10, 11, 12, 13, 14], [0, 1, 2, 3, 4, 5, 6, 7, 8, 9, 10, 11, 12, 13, 14, 15]], [[], [], [1], [0, 2], [], [4], [5], [6], [7], [], [9], [10], [11], [12], [3, 8, 13], [3, 14], [3, 14, 15]]⟩ (by kernel_rfl) (by kernel_rfl) rfl (by (with_reducible (repeat' (first | assumption | apply jA | apply jB | apply jC | apply jD | apply jE | apply jF | apply hb3 | omega | (simp; done) | (simp; omega) | (dsimp only; omega))))) (fun u => by simp only [putD, Act.put, List.setIfInBounds_toArray, List.set_cons_zero, List.set_cons_succ, Nat.zero_add, Nat.reduceAdd]; rfl) ?_
  apply RGM.on (i := 0) rfl (by decide)
  · (simp only [gA, gB, gC] <;> rfl)
  · intro γ u W hcur hd
    clear hd
    (try dsimp only)
    refine ⟨rfl, ?_⟩
    go_simp <;> (try go_bits) <;> with_reducible rfl
  · exact fun _ _ _ => rfl
  dsimp only [nA, cA]
  apply RGM.on (i := 1) rfl (by decide)
  · (simp only [gA, gB, gC] <;> rfl)
  · intro γ u W hcur hd
    clear hd
    (try dsimp only)
    refine ⟨rfl, ?_⟩
    go_simp <;> (try go_bits) <;> with_reducible rfl
  · exact fun _ _ _ => rfl
  dsimp only [nA, cA]
  apply RGM.on (i := 2) rfl (by decide)
  · (simp only [gA, gB, gC] <;> rfl)
  · intro γ u W hcur hd
    obtain ⟨⟨h1, -, -⟩, -⟩ := hd
    dsimp only at h1
    (try simp only [h1])
    refine ⟨rfl, ?_⟩
    go_simp <;> (try go_bits) <;> with_reducible rfl
  · exact fun _ _ _ => rfl
  dsimp only [nA, cA]
  apply RGM.mut (⟨fun _ => .int .i64 (fstE [unl (nameB nm) 4, unl (!knownB L nm) 5]), fun _ W => Seen (L ++ [nm]) g m W, fun _ => []⟩) (i := 3) rfl rfl
  · (simp only [gA, gB, gC] <;> rfl)
  · intro γ u W hcur hd
    obtain ⟨⟨h0, -, -⟩, ⟨h2, -, -⟩, -⟩ := hd
    dsimp only at h0 h2
    (try simp only [h0, h2])
    refine ⟨rfl, fun K hK => ?_⟩
    go_simp
    (go_at_call 136; (with_reducible refine (hcall.out _ (hsn.out.below hcur)).mono ?_); rintro e w3 ⟨rfl, hb3, hs3⟩; dsimp only; exact hK.out ⟨0, undef, none, 0⟩ _ _ rfl hb3 hs3 (by simp))
  · exact fun _ _ _ => ⟨rfl, fun _ h => h⟩
  · intro γ W W' hbl hR
    exact hR.below hbl
  dsimp only [nA, cA]
  apply RGM.on (i := 4) rfl (by decide)
  · (simp only [gA, gB, gC] <;> rfl)
  · intro γ u W hcur hd
    clear hd
    (try dsimp only)
    refine ⟨rfl, ?_⟩
    go_simp <;> (try go_bits) <;> with_reducible rfl
  · exact fun _ _ _ => rfl
  dsimp only [nA, cA]
  apply RGM.on (i := 5) rfl (by decide)
  · (simp only [gA, gB, gC] <;> rfl)
  · intro γ u W hcur hd
    obtain ⟨⟨h4, -, -⟩, -⟩ := hd
    dsimp only at h4
    (try simp only [h4])
    refine ⟨rfl, ?_⟩
    go_simp <;> (try go_bits) <;> with_reducible rfl
  · exact fun _ _ _ => rfl
  dsimp only [nA, cA]
  apply RGM.on (i := 6) rfl (by decide)
  · (simp only [gA, gB, gC] <;> rfl)
  · intro γ u W hcur hd
    obtain ⟨⟨h5, -, -⟩, -⟩ := hd
    dsimp only at h5
    (try simp only [h5])
    refine ⟨rfl, ?_⟩
    go_simp <;> (try go_bits) <;> with_reducible rfl
  · exact fun _ _ _ => rfl
  dsimp only [nA, cA]
  apply RGM.on (i := 7) rfl (by decide)
  · (simp only [gA, gB, gC] <;> rfl)
  · intro γ u W hcur hd
    obtain ⟨⟨h6, -, -⟩, -⟩ := hd
    dsimp only at h6
    (try simp only [h6])
    refine ⟨rfl, ?_⟩
    go_simp <;> (try go_bits) <;> with_reducible rfl
  · exact fun _ _ _ => rfl
  dsimp only [nA, cA]
  apply RGM.call (i := 8) rfl (by decide)
  · (simp only [gA, gB, gC] <;> rfl)
  · intro γ u W hcur hd
    obtain ⟨⟨h7, -, -⟩, -⟩ := hd
    dsimp only at h7
    (try simp only [h7])
    refine ⟨rfl, fun K hK => ?_⟩
    go_simp
    first
    | (go_at_call 78; (with_reducible refine (c_unless _ _ _).mono ?_); rintro e w3 ⟨rfl, rfl⟩)
    | (go_at_call 77; (with_reducible refine (c_first3 (by (with_reducible (repeat' (first | assumption | (apply jL; first | (simp; done) | rfl) | apply jM | apply jN | apply jO | apply jP | apply jQ | apply jR | apply jS | apply jT (hb := hb3 _ (jA _)) | omega | (simp; done) | (simp; omega) | (dsimp only; omega)))))).mono ?_); rintro e w3 ⟨rfl, rfl⟩)
    (try dsimp only)
    exact hK.out _ _ rfl (by (with_reducible (repeat' (first | assumption | apply jA | apply jB | apply jC | apply jD | apply jE | apply jF | apply hb3 | omega | (simp; done) | (simp; omega) | (dsimp only; omega)))))
  · exact fun _ _ _ => rfl
  dsimp only [nA, cA]
  apply RGM.on (i := 9) rfl (by decide)
  · (simp only [gA, gB, gC] <;> rfl)
  · intro γ u W hcur hd
    clear hd
    (try dsimp only)
    refine ⟨rfl, ?_⟩
    go_simp <;> (try go_bits) <;> with_reducible rfl
  · exact fun _ _ _ => rfl
  dsimp only [nA, cA]
  apply RGM.on (i := 10) rfl (by decide)
  · (simp only [gA, gB, gC] <;> rfl)
  · intro γ u W hcur hd
    obtain ⟨⟨h9, -, -⟩, -⟩ := hd
    dsimp only at h9
    (try simp only [h9])
    refine ⟨rfl, ?_⟩
    go_simp <;> (try go_bits) <;> with_reducible rfl
  · exact fun _ _ _ => rfl
  dsimp only [nA, cA]
  apply RGM.on (i := 11) rfl (by decide)
  · (simp only [gA, gB, gC] <;> rfl)
  · intro γ u W hcur hd
    obtain ⟨⟨h10, -, -⟩, -⟩ := hd
    dsimp only at h10
    (try simp only [h10])
    refine ⟨rfl, ?_⟩
    go_simp <;> (try go_bits) <;> with_reducible rfl
  · exact fun _ _ _ => rfl
  dsimp only [nA, cA]
  apply RGM.on (i := 12) rfl (by decide)
  · (simp only [gA, gB, gC] <;> rfl)
  · intro γ u W hcur hd
    obtain ⟨⟨h11, -, -⟩, -⟩ := hd
    dsimp only at h11
    (try simp only [h11])
    refine ⟨rfl, ?_⟩
    go_simp <;> (try go_bits) <;> with_reducible rfl
  · exact fun _ _ _ => rfl
  dsimp only [nA, cA]
  apply RGM.call (i := 13) rfl (by decide)
  · (simp only [gA, gB, gC] <;> rfl)
  · intro γ u W hcur hd
    obtain ⟨⟨h12, -, -⟩, -⟩ := hd
    dsimp only at h12
    (try simp only [h12])
    refine ⟨rfl, fun K hK => ?_⟩
    go_simp
    first
    | (go_at_call 78; (with_reducible refine (c_unless _ _ _).mono ?_); rintro e w3 ⟨rfl, rfl⟩)
    | (go_at_call 77; (with_reducible refine (c_first3 (by (with_reducible (repeat' (first | assumption | (apply jL; first | (simp; done) | rfl) | apply jM | apply jN | apply jO | apply jP | apply jQ | apply jR | apply jS | apply jT (hb := hb3 _ (jA _)) | omega | (simp; done) | (simp; omega) | (dsimp only; omega)))))).mono ?_); rintro e w3 ⟨rfl, rfl⟩)
    (try dsimp only)
    exact hK.out _ _ rfl (by (with_reducible (repeat' (first | assumption | apply jA | apply jB | apply jC | apply jD | apply jE | apply jF | apply hb3 | omega | (simp; done) | (simp; omega) | (dsimp only; omega)))))
  · exact fun _ _ _ => rfl
  dsimp only [nA, cA]
  apply RGM.bslice (i := 14) rfl (by decide) hml
  · (simp only [gA, gB, gC] <;> rfl)
  · intro γ u W hcur hd
    obtain ⟨⟨h3, r3, -⟩, ⟨h8, -, -⟩, ⟨h13, -, -⟩, -⟩ := hd
    dsimp only at h3 h8 h13 r3
    (try simp only [h3, h8, h13])
    refine ⟨rfl, fun K hK => ?_⟩
    go_simp
    exact hK.out _ _ rfl rfl
  · exact fun _ _ _ => rfl
  · rfl
  dsimp only [nA, cA]
  apply RGM.call (i := 15) rfl (by decide)
  · (simp only [gA, gB, gC] <;> rfl)
  · intro γ u W hcur hd
    obtain ⟨⟨h3, r3, -⟩, ⟨h14, r14, -⟩, -⟩ := hd
    dsimp only at h3 h14 r3 r14
    (try simp only [h3, h14])
    refine ⟨rfl, fun K hK => ?_⟩
    go_simp
    first
    | (go_at_call 78; (with_reducible refine (c_unless _ _ _).mono ?_); rintro e w3 ⟨rfl, rfl⟩)
    | (go_at_call 77; (with_reducible refine (c_first3 (by (with_reducible (repeat' (first | assumption | (apply jL; first | (simp; done) | rfl) | apply jM | apply jN | apply jO | apply jP | apply jQ | apply jR | apply jS | apply jT (hb := hb3 _ (jA _)) | omega | (simp; done) | (simp; omega) | (dsimp only; omega)))))).mono ?_); rintro e w3 ⟨rfl, rfl⟩)
    (try dsimp only)
    exact hK.out _ _ rfl (by (with_reducible (repeat' (first | assumption | apply jA | apply jB | apply jC | apply jD | apply jE | apply jF | apply hb3 | omega | (simp; done) | (simp; omega) | (dsimp only; omega)))))
  · first
    | exact fun _ _ _ => rfl
    | intro γ γ' hg
      try dsimp only
      have e14 := hg 14 (by decide)
      simp only [e14]
  dsimp only [nA, cA]
  apply RGM.on (i := 16) rfl (by decide)
  · (simp only [gA, gB, gC] <;> rfl)
  · intro γ u W hcur hd
    obtain ⟨⟨h3, r3, -⟩, ⟨h14, r14, -⟩, ⟨h15, -, -⟩, -⟩ := hd
    dsimp only at h3 h14 h15 r3 r14
    (try simp only [h3, h14, h15])
    refine ⟨rfl, ?_⟩
    go_simp <;> (try go_bits) <;> with_reducible rfl
  · first
    | exact fun _ _ _ => rfl
    | intro γ γ' hg
      try dsimp only
      have e14 := hg 14 (by decide)
      simp only [e14]
  dsimp only [nA, cA]
  refine RGM.fin (fun γ u wb hwb hd => ?_)
  obtain ⟨⟨h0, -, -⟩, ⟨h1, -, -⟩, ⟨h2, -, -⟩, ⟨h3, r3, -⟩, ⟨h4, -, -⟩, ⟨h5, -, -⟩, ⟨h6, -, -⟩, ⟨h7, -, -⟩, ⟨h8, -, -⟩, ⟨h9, -, -⟩, ⟨h10, -, -⟩, ⟨h11, -, -⟩, ⟨h12, -, -⟩, ⟨h13, -, -⟩, ⟨h14, r14, b14⟩, ⟨h15, -, -⟩, ⟨h16, -, -⟩, -⟩ := hd
  dsimp only at h0 h1 h2 h3 h4 h5 h6 h7 h8 h9 h10 h11 h12 h13 h14 h15 h16 r3 r14 b14
  simp only [h0, h1, h2, h3, h4, h5, h6, h7, h8, h9, h10, h11, h12, h13, h14, h15, h16]
  clear h16 h15 h14 h13 h12 h11 h10 h9 h8 h7 h6 h5 h4 h3 h2 h1 h0
  replace b14 := b14 _ (List.mem_singleton.2 rfl)
  generalize hγ14 : (γ 14).n = g14 at *
  clear hγ14
  clear u
  have hs2 := r3
  have hbx := hb0.out.trans hwb
  replace kp := kp.keep hpx hwb
  have hfb := Lib.hid (hf'.out.map hsn.out hwb)
  replace hs2 := Lib.hid hs2
  replace hbx := Lib.hid hbx
  replace k0 := k0.keep hmx hwb
  have hlp := kp.later
  have hl0 := k0.later
  clear hwb hb0 hf' hsn r3 r14 b14 kn Ln L0 hcall hml
  generalize hE : fstE [fstE [unl (nameB nm) 4, unl (!knownB L nm) 5], unl (decide (0 < nw)) 10, unl (decide ((nw : Int) ≤ 6)) 8] = E at *
  replace hE := Lib.hid hE
  have hst := Lib.hid fun (j : Nat) (r : Rw) (h : ws[j]? = some r) => (show waysE parts E (ws.take (j + 1)) = fstE [waysE parts E (ws.take j), unl (decide (0 < r.l.length)) 10, idxErr r.l parts] by rw [List.take_add_one, h]; exact ways_snoc parts E _ r)
  have hs0 : Hid (waysE parts E (ws.take 0) = E) := rfl
  have hse : Hid (waysE parts E (ws.take nw) = waysE parts E ws) := Lib.hid (by rw [List.take_of_length_le (by have := hwl.out; omega)])
  obtain ⟨f, hf⟩ : ∃ f : Nat → Int, ∀ j, waysE parts E (ws.take j) = f j := ⟨_, fun _ => rfl⟩
  simp only [hf] at hst hs0 hse
  clear hf
  go_wp2
  go_loopw [7, 29] (fun v i wr => ∃ j : Nat, j ≤ nw ∧ i = .int .i64 j ∧ v = .int .i64 (f j) ∧ Below wb.heap.size wb wr) (fun _ i _ => nw - (intOf i).toNat)
  case atStart => exact ⟨0, Nat.zero_le _, rfl, by rw [hs0.out], Below.refl _ _⟩
  case round =>
    obtain ⟨j, hj, rfl, rfl, hb0⟩ := hrel
    by_cases hlt : j < nw
    · have hx : ws[j]? = some (ws[j]'(by rw [hwl.out]; exact hlt)) := List.getElem?_eq_getElem _
      generalize ws[j]'(by rw [hwl.out]; exact hlt) = r at hx
      have hr := (hfb.out.below hb0).rows r (List.mem_of_getElem? hx)
      obtain ⟨b, off, hA, hc⟩ := (hfb.out.below hb0).sl j r hx
      have hn := Lib.hid (hst.out j r hx)
      obtain ⟨rA, rc, rl⟩ := r
      dsimp only at hA
      subst hA
      have c0 : wr.cell? ⟨b, off + j, none⟩ = some (.slice rA rl.length rc) := by simpa using hc 0 _ rfl
      have hie := Lib.hid fun (W : World) (hb : Below wr.heap.size wr W) => c_indexesErr rl parts rA rc W (hr.sl.below hb) hr.len hpt
      have hrl := hr.len
      dsimp only at hrl hn
      clear hc hx hr
      generalize rl.length = n at *
      go_upto_region 5 with fail
      have hlp' := fun W (h : Below wr.heap.size wr W) => hlp W (bl_tr hb0 h)
      refine wp_any (w0 := wr) ⟨[10], [], [some 33, some 34, some 35, some 36, some 37, some 38, some 39, some 40, some 41, some 42, none], [[], [], [1], [1, 2], [1, 2, 3], [], [], [1, 2, 3, 4, 5, 6], [0, 1, 2, 3, 4, 5, 6, 7], [0, 1, 2, 3, 4, 5, 6, 7, 8], [0, 1, 2, 3, 4, 5, 6, 7, 8, 9]], [[], [], [1], [2], [3], [], [], [5, 6], [0, 4, 7], [8], []]⟩ (fun _ => []) (by kernel_rfl) (by kernel_rfl) (by (with_reducible (repeat' (first | assumption | apply jA | apply jB | apply jC | apply jD | apply jE | apply jF | apply hb3 | omega | (simp; done) | (simp; omega) | (dsimp only; omega))))) (fun u => by simp only [putD, Act.put, List.setIfInBounds_toArray, List.set_cons_zero, List.set_cons_succ, Nat.zero_add, Nat.reduceAdd]; rfl) ?_
      apply RGW.on (i := 0) rfl
      · (simp only [gA, gB, gC] <;> rfl)
      · intro γ u W hcur hd
        clear hd
        (try dsimp only)
        refine ⟨rfl, ?_⟩
        go_simp <;> (try go_bits) <;> with_reducible rfl
      · exact fun _ _ _ => rfl
      · rfl
      dsimp only [nA, cA]
      apply RGW.on (i := 1) rfl
      · (simp only [gA, gB, gC] <;> rfl)
      · intro γ u W hcur hd
        clear hd
        (try dsimp only)
        refine ⟨rfl, ?_⟩
        go_simp <;> (try go_bits) <;> with_reducible rfl
      · exact fun _ _ _ => rfl
      · rfl
      dsimp only [nA, cA]
      apply RGW.on (i := 2) rfl
      · (simp only [gA, gB, gC] <;> rfl)
      · intro γ u W hcur hd
        obtain ⟨⟨h1, -, -⟩, -⟩ := hd
        dsimp only at h1
        (try simp only [h1])
        refine ⟨rfl, ?_⟩
        go_simp <;> (try go_bits) <;> with_reducible rfl
      · exact fun _ _ _ => rfl
      · rfl
      dsimp only [nA, cA]
      apply RGW.on (i := 3) rfl
      · (simp only [gA, gB, gC] <;> rfl)
      · intro γ u W hcur hd
        obtain ⟨⟨h2, -, -⟩, -⟩ := hd
        dsimp only at h2
        (try simp only [h2])
        refine ⟨rfl, ?_⟩
        go_simp <;> (try go_bits) <;> with_reducible rfl
      · exact fun _ _ _ => rfl
      · rfl
      dsimp only [nA, cA]
      apply RGW.call (i := 4) rfl
      · (simp only [gA, gB, gC] <;> rfl)
      · intro γ u W hcur hd
        obtain ⟨⟨h3, -, -⟩, -⟩ := hd
        dsimp only at h3
        (try simp only [h3])
        refine ⟨rfl, fun K hK => ?_⟩
        go_simp
        first
        | (go_at_call 78; (with_reducible refine (c_unless _ _ _).mono ?_); rintro e w3 ⟨rfl, rfl⟩)
        | (go_at_call 106; (with_reducible refine (hie.out _ (by (with_reducible (repeat' (first | assumption | apply jA | apply jB | apply jC | apply jD | apply jE | apply jF | apply hb3 | omega | (simp; done) | (simp; omega) | (dsimp only; omega)))))).mono ?_); rintro e w3 ⟨rfl, hb3⟩; replace hb3 := bl_tt hb3)
        | (go_at_call 77; (with_reducible refine (c_first3 (by (with_reducible (repeat' (first | assumption | (apply jL; first | (simp; done) | rfl) | apply jM | apply jN | apply jO | apply jP | apply jQ | apply jR | apply jS | apply jT (hb := hb3 _ (jA _)) | omega | (simp; done) | (simp; omega) | (dsimp only; omega)))))).mono ?_); rintro e w3 ⟨rfl, rfl⟩)
        (try dsimp only)
        exact hK.out _ _ rfl (by (with_reducible (repeat' (first | assumption | apply jA | apply jB | apply jC | apply jD | apply jE | apply jF | apply hb3 | omega | (simp; done) | (simp; omega) | (dsimp only; omega)))))
      · exact fun _ _ _ => rfl
      · rfl
      dsimp only [nA, cA]
      apply RGW.on (i := 5) rfl
      · (simp only [gA, gB, gC] <;> rfl)
      · intro γ u W hcur hd
        clear hd
        (try dsimp only)
        refine ⟨rfl, ?_⟩
        go_simp <;> (try go_bits) <;> with_reducible rfl
      · exact fun _ _ _ => rfl
      · rfl
      dsimp only [nA, cA]
      apply RGW.on (i := 6) rfl
      · (simp only [gA, gB, gC] <;> rfl)
      · intro γ u W hcur hd
        clear hd
        (try dsimp only)
        refine ⟨rfl, ?_⟩
        go_simp <;> (try go_bits) <;> with_reducible rfl
      · exact fun _ _ _ => rfl
      · rfl
      dsimp only [nA, cA]
      apply RGW.call (i := 7) rfl
      · (simp only [gA, gB, gC] <;> rfl)
      · intro γ u W hcur hd
        obtain ⟨⟨h5, -, -⟩, ⟨h6, -, -⟩, -⟩ := hd
        dsimp only at h5 h6
        (try simp only [h5, h6])
        refine ⟨rfl, fun K hK => ?_⟩
        go_simp
        first
        | (go_at_call 78; (with_reducible refine (c_unless _ _ _).mono ?_); rintro e w3 ⟨rfl, rfl⟩)
        | (go_at_call 106; (with_reducible refine (hie.out _ (by (with_reducible (repeat' (first | assumption | apply jA | apply jB | apply jC | apply jD | apply jE | apply jF | apply hb3 | omega | (simp; done) | (simp; omega) | (dsimp only; omega)))))).mono ?_); rintro e w3 ⟨rfl, hb3⟩; replace hb3 := bl_tt hb3)
        | (go_at_call 77; (with_reducible refine (c_first3 (by (with_reducible (repeat' (first | assumption | (apply jL; first | (simp; done) | rfl) | apply jM | apply jN | apply jO | apply jP | apply jQ | apply jR | apply jS | apply jT (hb := hb3 _ (jA _)) | omega | (simp; done) | (simp; omega) | (dsimp only; omega)))))).mono ?_); rintro e w3 ⟨rfl, rfl⟩)
        (try dsimp only)
        exact hK.out _ _ rfl (by (with_reducible (repeat' (first | assumption | apply jA | apply jB | apply jC | apply jD | apply jE | apply jF | apply hb3 | omega | (simp; done) | (simp; omega) | (dsimp only; omega)))))
      · exact fun _ _ _ => rfl
      · rfl
      dsimp only [nA, cA]
      apply RGW.bslice (i := 8) rfl
      · (simp only [gA, gB, gC] <;> rfl)
      · intro γ u W hcur hd
        obtain ⟨⟨h0, -, -⟩, ⟨h4, -, -⟩, ⟨h7, -, -⟩, -⟩ := hd
        dsimp only at h0 h4 h7
        (try simp only [h0, h4, h7])
        refine ⟨rfl, fun K hK => ?_⟩
        go_simp
        exact hK.out _ _ rfl rfl
      · exact fun _ _ _ => rfl
      · rfl
      · rfl
      dsimp only [nA, cA]
      apply RGW.call (i := 9) rfl
      · (simp only [gA, gB, gC] <;> rfl)
      · intro γ u W hcur hd
        obtain ⟨⟨h8, r8, -⟩, -⟩ := hd
        dsimp only at h8 r8
        have L8 := r8.cell
        (try simp only [h8])
        refine ⟨rfl, fun K hK => ?_⟩
        go_simp
        first
        | (go_at_call 78; (with_reducible refine (c_unless _ _ _).mono ?_); rintro e w3 ⟨rfl, rfl⟩)
        | (go_at_call 106; (with_reducible refine (hie.out _ (by (with_reducible (repeat' (first | assumption | apply jA | apply jB | apply jC | apply jD | apply jE | apply jF | apply hb3 | omega | (simp; done) | (simp; omega) | (dsimp only; omega)))))).mono ?_); rintro e w3 ⟨rfl, hb3⟩; replace hb3 := bl_tt hb3)
        | (go_at_call 77; (with_reducible refine (c_first3 (by (with_reducible (repeat' (first | assumption | (apply jL; first | (simp; done) | rfl) | apply jM | apply jN | apply jO | apply jP | apply jQ | apply jR | apply jS | apply jT (hb := hb3 _ (jA _)) | omega | (simp; done) | (simp; omega) | (dsimp only; omega)))))).mono ?_); rintro e w3 ⟨rfl, rfl⟩)
        (try dsimp only)
        exact hK.out _ _ rfl (by (with_reducible (repeat' (first | assumption | apply jA | apply jB | apply jC | apply jD | apply jE | apply jF | apply hb3 | omega | (simp; done) | (simp; omega) | (dsimp only; omega)))))
      · first
        | exact fun _ _ _ => rfl
        | intro γ γ' hg
          try dsimp only
          have e8 := hg 8 (by decide)
          simp only [e8]
      · rfl
      dsimp only [nA, cA]
      refine RGW.skip (i := 10) rfl rfl ?_
      dsimp only [nA, cA]
      refine RGW.fin (fun γ u wc hwc hd hdis => ?_)
      obtain ⟨⟨h0, -, -⟩, ⟨h1, -, -⟩, ⟨h2, -, -⟩, ⟨h3, -, -⟩, ⟨h4, -, -⟩, ⟨h5, -, -⟩, ⟨h6, -, -⟩, ⟨h7, -, -⟩, ⟨h8, r8, b8⟩, ⟨h9, -, -⟩, -⟩ := hd
      dsimp only at h0 h1 h2 h3 h4 h5 h6 h7 h8 h9 r8 b8
      clear hdis
      simp only [h0, h1, h2, h3, h4, h5, h6, h7, h8, h9]
      clear h9 h8 h7 h6 h5 h4 h3 h2 h1 h0
      replace b8 := b8 _ (List.mem_singleton.2 rfl)
      generalize hγ8 : (γ 8).n = g8 at *
      clear hγ8
      clear u
      simp only [List.map_cons, List.map_nil]
      apply PlanW.step
      · (simp only [gA, gB, gC] <;> rfl)
      · rfl
      intro K hK
      go_simp
      refine hK.out _ _ (by with_reducible first | assumption | exact bx_refl _ _) (fun hcur => ?_)
      clear hK K
      try simp only [Act.put, List.setIfInBounds_toArray, List.set_cons_zero, List.set_cons_succ]
      refine PlanW.done ?_
      have hb3 := bl_tt hwc
      have hbw := hb3 _ hb0
      go_wp2
      go_roundw
      case rel => exact ⟨j + 1, by omega, by go_num, by rw [hn.out], hbw⟩
      case measure => simp [intOf]; omega
    · have : j = nw := by omega
      subst this
      rw [hse.out]
      go_wp2
      go_ret
      exact ⟨by rw [hE.out] <;> rfl, hbx.out.step hb0, hs2.out.below hb0⟩
set_option maxHeartbeats 4000000 in
theorem c_net3 (i funs : Int) (L : List ByteArray) (d : Md) (Bn Bp g m : Nat) (w : World) (kn : Blk w Bn tName #[vName g]) (kp : Blk w Bp 3 #[.int .i64 funs]) (hs : Seen L g m w) (hf : MdIn d w) (hL : L.length ≤ 1000) (hpt : 0 ≤ funs ∧ funs ≤ 1000000)
    (hnm : m ≠ Bn) (hpm : m ≠ Bp) :
    Calls Tryd.prog 108 #[.int .i64 i, vMd d, .pointer (some ⟨Bn, 0, none⟩), .pointer (some ⟨Bp, 0, none⟩)] w
      (fun e w' => e = .returned (.int .i64 (fstE [fstE [unl (nameB d.name) 4, unl (!knownB L d.name) 5], idxErr d.r.l funs])) ∧ BX [m] w w' ∧ Seen (L ++ [d.name]) g m w') := by
  have hcall := Lib.hid fun (W : World) (h : Seen L g m W) => c_names1 L d.name g m W h hf.nm hL
  obtain ⟨nm, rA, rc, rl⟩ := d
  have hf' := Lib.hid hf.row
  have hlen := hf.row.len
  dsimp only at *
  change Calls Tryd.prog 108 #[.int .i64 i, .agg #[.string nm, .slice rA rl.length rc], .pointer (some ⟨Bn, 0, none⟩), .pointer (some ⟨Bp, 0, none⟩)] w _
  have hie := Lib.hid fun (W : World) (h : RwIn ⟨rA, rc, rl⟩ W) => c_indexesErr rl funs rA rc W h.sl h.len hpt
  (try dsimp only at hie)
  generalize rl.length = n at *
  clear hf
  go_enter Tryd.func108, Tryd.ntmps108
  go_upto_region 1 with fail
  have hsn := hs.below (bl_al (.cells #[.string nm, .slice rA n rc] 71) (bl_refl w))
  replace kn := kn.alloc (.cells #[.string nm, .slice rA n rc] 71)
  replace kp := kp.alloc (.cells #[.string nm, .slice rA n rc] 71)
  have k0 := Blk.new w 71 #[.string nm, .slice rA n rc]
  have hbx : BX [m] w (w.alloc (.cells #[.string nm, .slice rA n rc] 71)) := bx_al _ (bx_refl _ _)
  have hmw : m ≠ w.heap.size := fun e => by
    have := hs.lt
    omega
  generalize w.alloc (.cells #[.string nm, .slice rA n rc] 71) = wa at *
  have hmx : w.heap.size ∉ [m] := by simpa using fun e => hmw e.symm
  have hnx : Bn ∉ [m] := by simpa using fun e => hnm e.symm
  have hpx : Bp ∉ [m] := by simpa using fun e => hpm e.symm
  have hml : ∀ x ∈ [m], x < wa.heap.size := by
    have := hsn.lt
    simpa using this
  have L0 := k0.laterX hmx
  have Ln := kn.laterX hnx
  have Lp := kp.laterX hpx
  have hrw := Lib.hid fun (W : World) (h : BX [m] wa W) => hie.out W ((hf'.out.map hs hbx).map hsn h)
  replace hsn := Lib.hid hsn
  replace hbx := Lib.hid hbx
  clear hs hie
  refine wp_anyM (w0 := wa) 3 [m] ⟨[], [], [some 7, some 8, some 9, some 10, some 11, some 12, some 13, some 14, some 15, some 16, some 6], [[], [], [1], [0, 1, 2], [], [4], [], [0, 1, 2, 3, 4, 5, 6], [0, 1, 2, 3, 4, 5, 6, 7], [0, 1, 2, 3, 4, 5, 6, 7, 8], [0, 1, 2, 3, 4, 5, 6, 7, 8, 9]], [[], [], [1], [0, 2], [], [4], [], [5, 6], [3, 7], [3, 8], [3, 8, 9]]⟩ (by kernel_rfl) (by kernel_rfl) rfl (by (with_reducible (repeat' (first | assumption | apply jA | apply jB | apply jC | apply jD | apply jE | apply jF | apply hb3 | omega | (simp; done) | (simp; omega) | (dsimp only; omega))))) (fun u => by simp only [putD, Act.put, List.setIfInBounds_toArray, List.set_cons_zero, List.set_cons_succ, Nat.zero_add, Nat.reduceAdd]; rfl) ?_
  apply RGM.on (i := 0) rfl (by decide)
  · (simp only [gA, gB, gC] <;> rfl)
  · intro γ u W hcur hd
    clear hd
    (try dsimp only)
    refine ⟨rfl, ?_⟩
    go_simp <;> (try go_bits) <;> with_reducible rfl
  · exact fun _ _ _ => rfl
  dsimp only [nA, cA]
  apply RGM.on (i := 1) rfl (by decide)
  · (simp only [gA, gB, gC] <;> rfl)
  · intro γ u W hcur hd
    clear hd
    (try dsimp only)
    refine ⟨rfl, ?_⟩
    go_simp <;> (try go_bits) <;> with_reducible rfl
  · exact fun _ _ _ => rfl
  dsimp only [nA, cA]
  apply RGM.on (i := 2) rfl (by decide)
  · (simp only [gA, gB, gC] <;> rfl)
  · intro γ u W hcur hd
    obtain ⟨⟨h1, -, -⟩, -⟩ := hd
    dsimp only at h1
    (try simp only [h1])
    refine ⟨rfl, ?_⟩
    go_simp <;> (try go_bits) <;> with_reducible rfl
  · exact fun _ _ _ => rfl
  dsimp only [nA, cA]
  apply RGM.mut (⟨fun _ => .int .i64 (fstE [unl (nameB nm) 4, unl (!knownB L nm) 5]), fun _ W => Seen (L ++ [nm]) g m W, fun _ => []⟩) (i := 3) rfl rfl
  · (simp only [gA, gB, gC] <;> rfl)
  · intro γ u W hcur hd
    obtain ⟨⟨h0, -, -⟩, ⟨h2, -, -⟩, -⟩ := hd
    dsimp only at h0 h2
    (try simp only [h0, h2])
    refine ⟨rfl, fun K hK => ?_⟩
    go_simp
    (go_at_call 136; (with_reducible refine (hcall.out _ (hsn.out.below hcur)).mono ?_); rintro e w3 ⟨rfl, hb3, hs3⟩; dsimp only; exact hK.out ⟨0, undef, none, 0⟩ _ _ rfl hb3 hs3 (by simp))
  · exact fun _ _ _ => ⟨rfl, fun _ h => h⟩
  · intro γ W W' hbl hR
    exact hR.below hbl
  dsimp only [nA, cA]
  apply RGM.on (i := 4) rfl (by decide)
  · (simp only [gA, gB, gC] <;> rfl)
  · intro γ u W hcur hd
    clear hd
    (try dsimp only)
    refine ⟨rfl, ?_⟩
    go_simp <;> (try go_bits) <;> with_reducible rfl
  · exact fun _ _ _ => rfl
  dsimp only [nA, cA]
  apply RGM.on (i := 5) rfl (by decide)
  · (simp only [gA, gB, gC] <;> rfl)
  · intro γ u W hcur hd
    obtain ⟨⟨h4, -, -⟩, -⟩ := hd
    dsimp only at h4
    (try simp only [h4])
    refine ⟨rfl, ?_⟩
    go_simp <;> (try go_bits) <;> with_reducible rfl
  · exact fun _ _ _ => rfl
  dsimp only [nA, cA]
  apply RGM.on (i := 6) rfl (by decide)
  · (simp only [gA, gB, gC] <;> rfl)
  · intro γ u W hcur hd
    clear hd
    (try dsimp only)
    refine ⟨rfl, ?_⟩
    go_simp <;> (try go_bits) <;> with_reducible rfl
  · exact fun _ _ _ => rfl
  dsimp only [nA, cA]
  apply RGM.call (i := 7) rfl (by decide)
  · (simp only [gA, gB, gC] <;> rfl)
  · intro γ u W hcur hd
    obtain ⟨⟨h5, -, -⟩, ⟨h6, -, -⟩, -⟩ := hd
    dsimp only at h5 h6
    (try simp only [h5, h6])
    refine ⟨rfl, fun K hK => ?_⟩
    go_simp
    first
    | (go_at_call 106; (with_reducible refine (hrw.out _ hcur).mono ?_); rintro e w3 ⟨rfl, hb3⟩; replace hb3 := bl_tt hb3)
    | (go_at_call 77; (with_reducible refine (c_first2 (by (with_reducible (repeat' (first | assumption | (apply jL; first | (simp; done) | rfl) | apply jM | apply jN | apply jO | apply jP | apply jQ | apply jR | apply jS | apply jT (hb := hb3 _ (jA _)) | omega | (simp; done) | (simp; omega) | (dsimp only; omega)))))).mono ?_); rintro e w3 ⟨rfl, rfl⟩)
    (try dsimp only)
    exact hK.out _ _ rfl (by (with_reducible (repeat' (first | assumption | apply jA | apply jB | apply jC | apply jD | apply jE | apply jF | apply hb3 | omega | (simp; done) | (simp; omega) | (dsimp only; omega)))))
  · exact fun _ _ _ => rfl
  dsimp only [nA, cA]
  apply RGM.bslice (i := 8) rfl (by decide) hml
  · (simp only [gA, gB, gC] <;> rfl)
  · intro γ u W hcur hd
    obtain ⟨⟨h3, r3, -⟩, ⟨h7, -, -⟩, -⟩ := hd
    dsimp only at h3 h7 r3
    (try simp only [h3, h7])
    refine ⟨rfl, fun K hK => ?_⟩
    go_simp
    exact hK.out _ _ rfl rfl
  · exact fun _ _ _ => rfl
  · rfl
  dsimp only [nA, cA]
  apply RGM.call (i := 9) rfl (by decide)
  · (simp only [gA, gB, gC] <;> rfl)
  · intro γ u W hcur hd
    obtain ⟨⟨h3, r3, -⟩, ⟨h8, r8, -⟩, -⟩ := hd
    dsimp only at h3 h8 r3 r8
    (try simp only [h3, h8])
    refine ⟨rfl, fun K hK => ?_⟩
    go_simp
    first
    | (go_at_call 106; (with_reducible refine (hrw.out _ hcur).mono ?_); rintro e w3 ⟨rfl, hb3⟩; replace hb3 := bl_tt hb3)
    | (go_at_call 77; (with_reducible refine (c_first2 (by (with_reducible (repeat' (first | assumption | (apply jL; first | (simp; done) | rfl) | apply jM | apply jN | apply jO | apply jP | apply jQ | apply jR | apply jS | apply jT (hb := hb3 _ (jA _)) | omega | (simp; done) | (simp; omega) | (dsimp only; omega)))))).mono ?_); rintro e w3 ⟨rfl, rfl⟩)
    (try dsimp only)
    exact hK.out _ _ rfl (by (with_reducible (repeat' (first | assumption | apply jA | apply jB | apply jC | apply jD | apply jE | apply jF | apply hb3 | omega | (simp; done) | (simp; omega) | (dsimp only; omega)))))
  · first
    | exact fun _ _ _ => rfl
    | intro γ γ' hg
      try dsimp only
      have e8 := hg 8 (by decide)
      simp only [e8]
  dsimp only [nA, cA]
  apply RGM.on (i := 10) rfl (by decide)
  · (simp only [gA, gB, gC] <;> rfl)
  · intro γ u W hcur hd
    obtain ⟨⟨h3, r3, -⟩, ⟨h8, r8, -⟩, ⟨h9, -, -⟩, -⟩ := hd
    dsimp only at h3 h8 h9 r3 r8
    (try simp only [h3, h8, h9])
    refine ⟨rfl, ?_⟩
    go_simp <;> (try go_bits) <;> with_reducible rfl
  · first
    | exact fun _ _ _ => rfl
    | intro γ γ' hg
      try dsimp only
      have e8 := hg 8 (by decide)
      simp only [e8]
  dsimp only [nA, cA]
  refine RGM.fin (fun γ u wb hwb hd => ?_)
  obtain ⟨⟨h0, -, -⟩, ⟨h1, -, -⟩, ⟨h2, -, -⟩, ⟨h3, r3, -⟩, ⟨h4, -, -⟩, ⟨h5, -, -⟩, ⟨h6, -, -⟩, ⟨h7, -, -⟩, ⟨h8, r8, b8⟩, ⟨h9, -, -⟩, ⟨h10, -, -⟩, -⟩ := hd
  dsimp only at h0 h1 h2 h3 h4 h5 h6 h7 h8 h9 h10 r3 r8 b8
  simp only [h0, h1, h2, h3, h4, h5, h6, h7, h8, h9, h10]
  clear h10 h9 h8 h7 h6 h5 h4 h3 h2 h1 h0
  replace b8 := b8 _ (List.mem_singleton.2 rfl)
  generalize hγ8 : (γ 8).n = g8 at *
  clear hγ8
  clear u
  have hs2 := Lib.hid r3
  clear r3
  go_wp2
  go_ret
  exact ⟨rfl, hbx.out.trans hwb, hs2.out⟩
end Go.Proofs.YtdlmkblmljhbfaaDoor
namespace Go.Proofs.YtdlmkblmljhbfaaDoor
set_option linter.unusedSimpArgs false
set_option linter.unusedVariables false
open Go.RowKit Go.Shelf
attribute [local go_sem] bl_al bl_drew bl_drewN bl_refl bx_al bx_drew bx_drewN bx_refl
set_option maxRecDepth 20000
theorem take_next {α : Type} {l : List α} {k : Nat} {x : α} (h : l[k]? = some x) : l.take (k + 1) = l.take k ++ [x] := by rw [List.take_add_one, h]; rfl
theorem c_eachP (l : List ByteArray) (A : Option Addr) (c Bn g m : Nat) (w : World) (kn : Blk w Bn tName #[vName g]) (hs : Seen [] g m w) (hnm : m ≠ Bn) (hl : Sl cS 1 w A l) (hlen : l.length ≤ 1000) (hsz : ∀ s ∈ l, s.size ≤ maxLen) :
    Calls Tryd.prog 102 #[.slice A l.length c, .func (.func 103) #[] #[.pointer (some ⟨Bn, 0, none⟩)]] w
      (fun e w' => e = .returned (.tuple #[.int .i64 (eachS (nmErr l) l 0).1, .int .i64 (eachS (nmErr l) l 0).2]) ∧ BX [m] w w') :=
  (c_eachJN 103 #[.pointer (some ⟨Bn, 0, none⟩)] (nmErr l) (fun k W => Seen (l.take k) g m W) [m] A l c w (by omega) (enters_of Tryd.func103 (by kernel_rfl) rfl) (fun k X Y h hb => h.below hb)
    (fun k x hx W hb hj => (c_net1 k (l.take k) x Bn g m W (kn.keep (by simpa using fun e => hnm e.symm) hb) hj (hsz x (List.mem_of_getElem? hx)) (by rw [List.length_take]; omega)).mono fun e W' ⟨e1, e2, e3⟩ => ⟨e1, e2, fun _ => by rw [take_next hx]; exact e3⟩)
    (fun W hb => sl_map hl hs hb) hs).mono fun e W' ⟨h1, h2, _⟩ => ⟨h1, h2⟩
theorem c_eachFu (parts : Nat) (l : List Fu) (A : Option Addr) (c Bn Bp g m : Nat) (w : World) (kn : Blk w Bn tName #[vName g]) (kp : Blk w Bp 3 #[.int .i64 parts]) (hs : Seen [] g m w) (hnm : m ≠ Bn) (hpm : m ≠ Bp) (hl : Sl cFu 2 w A l) (hlen : l.length ≤ 1000) (hin : ∀ f ∈ l, FuIn f w) (hpt : parts ≤ 1000) :
    Calls Tryd.prog 104 #[.slice A l.length c, .func (.func 105) #[] #[.pointer (some ⟨Bn, 0, none⟩), .pointer (some ⟨Bp, 0, none⟩)]] w
      (fun e w' => e = .returned (.tuple #[.int .i64 (eachS (fuErr parts (l.map fun f : Fu => f.name)) l 0).1, .int .i64 (eachS (fuErr parts (l.map fun f : Fu => f.name)) l 0).2]) ∧ BX [m] w w') :=
  (c_eachJF 105 #[.pointer (some ⟨Bn, 0, none⟩), .pointer (some ⟨Bp, 0, none⟩)] (fuErr parts (l.map fun f : Fu => f.name)) (fun k W => Seen ((l.map fun f : Fu => f.name).take k) g m W) [m] A l c w (by omega) (enters_of Tryd.func105 (by kernel_rfl) rfl) (fun k X Y h hb => h.below hb)
    (fun k x hx W hb hj => (c_net2 k parts ((l.map fun f : Fu => f.name).take k) x Bn Bp g m W (kn.keep (by simpa using fun e => hnm e.symm) hb) (kp.keep (by simpa using fun e => hpm e.symm) hb) hj ((hin x (List.mem_of_getElem? hx)).map hs hb)
      (by rw [List.length_take, List.length_map]; omega) (by omega) hnm hpm).mono fun e W' ⟨e1, e2, e3⟩ => ⟨e1, e2, fun _ => by rw [take_next (x := x.name) (by rw [List.getElem?_map, hx]; rfl)]; exact e3⟩)
    (fun W hb => sl_map hl hs hb) hs).mono fun e W' ⟨h1, h2, _⟩ => ⟨h1, h2⟩
theorem c_eachMd (funs : Nat) (l : List Md) (A : Option Addr) (c Bn Bp g m : Nat) (w : World) (kn : Blk w Bn tName #[vName g]) (kp : Blk w Bp 3 #[.int .i64 funs]) (hs : Seen [] g m w) (hnm : m ≠ Bn) (hpm : m ≠ Bp) (hl : Sl cMd 2 w A l) (hlen : l.length ≤ 1000) (hin : ∀ f ∈ l, MdIn f w) (hpt : funs ≤ 1000) :
    Calls Tryd.prog 107 #[.slice A l.length c, .func (.func 108) #[] #[.pointer (some ⟨Bn, 0, none⟩), .pointer (some ⟨Bp, 0, none⟩)]] w
      (fun e w' => e = .returned (.tuple #[.int .i64 (eachS (mdErr funs (l.map fun f : Md => f.name)) l 0).1, .int .i64 (eachS (mdErr funs (l.map fun f : Md => f.name)) l 0).2]) ∧ BX [m] w w') :=
  (c_eachJM 108 #[.pointer (some ⟨Bn, 0, none⟩), .pointer (some ⟨Bp, 0, none⟩)] (mdErr funs (l.map fun f : Md => f.name)) (fun k W => Seen ((l.map fun f : Md => f.name).take k) g m W) [m] A l c w (by omega) (enters_of Tryd.func108 (by kernel_rfl) rfl) (fun k X Y h hb => h.below hb)
    (fun k x hx W hb hj => (c_net3 k funs ((l.map fun f : Md => f.name).take k) x Bn Bp g m W (kn.keep (by simpa using fun e => hnm e.symm) hb) (kp.keep (by simpa using fun e => hpm e.symm) hb) hj ((hin x (List.mem_of_getElem? hx)).map hs hb)
      (by rw [List.length_take, List.length_map]; omega) (by omega) hnm hpm).mono fun e W' ⟨e1, e2, e3⟩ => ⟨e1, e2, fun _ => by rw [take_next (x := x.name) (by rw [List.getElem?_map, hx]; rfl)]; exact e3⟩)
    (fun W hb => sl_map hl hs hb) hs).mono fun e W' ⟨h1, h2, _⟩ => ⟨h1, h2⟩
abbrev aNt (Ap Af Am : Option Addr) (np nf nm cp cf cm : Nat) : Array Value := #[.slice Ap np cp, .slice Af nf cf, .slice Am nm cm]
abbrev vNt (Ap Af Am : Option Addr) (np nf nm cp cf cm : Nat) : Value := .agg (aNt Ap Af Am np nf nm cp cf cm)
set_option maxHeartbeats 8000000 in
theorem c_CheckNet (n : Nt) (Ap Af Am : Option Addr) (cp cf cm : Nat) (w : World) (hn : NtIn n Ap Af Am cp cf cm w) :
    Calls Tryd.prog 49 #[vNt Ap Af Am n.ps.length n.fs.length n.ms.length cp cf cm] w (Ret (.tuple #[.int .i64 (netChk n).1, .int .i64 (netChk n).2]) w) := by
  have Hn := Lib.hid hn
  have h1 := hn.plen
  have h2 := hn.flen
  have h3 := hn.mlen
  have hE : Hid (n.e0 = fstE [unl (decide (0 < n.ps.length)) 10, unl (decide (max (n.ps.length : Int) n.fs.length ≤ 10) && decide ((n.ms.length : Int) ≤ 6)) 8]) := rfl
  have r0 : Hid (n.e0 ≠ 0 → netChk n = (0, n.e0)) := fun h => by rw [netChk, if_neg h]
  have r1 : Hid (n.e0 = 0 → (eachS (nmErr n.ps) n.ps 0).2 ≠ 0 → netChk n = eachS (nmErr n.ps) n.ps 0) := fun h h' => by rw [netChk, if_pos h, if_neg h']
  have r2 : Hid (n.e0 = 0 → (eachS (nmErr n.ps) n.ps 0).2 = 0 → (eachS (fuErr n.ps.length (n.fs.map fun f : Fu => f.name)) n.fs 0).2 ≠ 0 → netChk n = eachS (fuErr n.ps.length (n.fs.map fun f : Fu => f.name)) n.fs 0) := fun h h' h'' => by rw [netChk, if_pos h, if_pos h', if_neg h'']
  have r3 : Hid (n.e0 = 0 → (eachS (nmErr n.ps) n.ps 0).2 = 0 → (eachS (fuErr n.ps.length (n.fs.map fun f : Fu => f.name)) n.fs 0).2 = 0 → netChk n = eachS (mdErr n.fs.length (n.ms.map fun f : Md => f.name)) n.ms 0) := fun h h' h'' => by rw [netChk, if_pos h, if_pos h', if_pos h'']
  have hp := Lib.hid fun (Bn g m : Nat) (W : World) (hb : Below w.heap.size w W) (kn : Blk W Bn tName #[vName g]) (hs : Seen [] g m W) (hnm : m ≠ Bn) => c_eachP n.ps Ap cp Bn g m W kn hs hnm (Hn.out.psl.below hb) h1 Hn.out.pnm
  have hf := Lib.hid fun (Bn Bp g m : Nat) (W : World) (hb : Below w.heap.size w W) (kn : Blk W Bn tName #[vName g]) (kp : Blk W Bp 3 #[.int .i64 n.ps.length]) (hs : Seen [] g m W) (hnm : m ≠ Bn) (hpm : m ≠ Bp) =>
    c_eachFu n.ps.length n.fs Af cf Bn Bp g m W kn kp hs hnm hpm (Hn.out.fsl.below hb) h2 (fun f hf => (Hn.out.fin f hf).below hb) h1
  have hm := Lib.hid fun (Bn Bp g m : Nat) (W : World) (hb : Below w.heap.size w W) (kn : Blk W Bn tName #[vName g]) (kp : Blk W Bp 3 #[.int .i64 n.fs.length]) (hs : Seen [] g m W) (hnm : m ≠ Bn) (hpm : m ≠ Bp) =>
    c_eachMd n.fs.length n.ms Am cm Bn Bp g m W kn kp hs hnm hpm (Hn.out.msl.below hb) h3 (fun f hf => (Hn.out.min f hf).below hb) h2
  clear hn Hn
  generalize eachS (nmErr n.ps) n.ps 0 = P1 at *
  generalize eachS (fuErr n.ps.length (n.fs.map fun f : Fu => f.name)) n.fs 0 = P2 at *
  generalize eachS (mdErr n.fs.length (n.ms.map fun f : Md => f.name)) n.ms 0 = P3 at *
  obtain ⟨p1, q1⟩ := P1
  obtain ⟨p2, q2⟩ := P2
  obtain ⟨p3, q3⟩ := P3
  dsimp only at *
  change Calls Tryd.prog 49 #[.agg #[.slice Ap n.ps.length cp, .slice Af n.fs.length cf, .slice Am n.ms.length cm]] w _
  generalize n.ps.length = np at *
  generalize n.fs.length = nf at *
  generalize n.ms.length = nm at *
  cases hA : decide (max (np : Int) nf ≤ 10)
  all_goals
    rw [hA] at hE
    simp only [Bool.false_and, Bool.true_and] at hE
    go_enter Tryd.func49, Tryd.ntmps49
    go_upto_region 1 with fail
    first
    | apply absB1 (w0 := w) (g0 := w.heap.size)
    | apply absTB1 (w0 := w) (g0 := w.heap.size)
    | apply absIB1 (w0 := w) (g0 := w.heap.size)
    iterate 2 (focus ((with_reducible (repeat' (first | assumption | apply jA | apply jB | apply jC | apply jD | apply jE | apply jF | apply hb3 | apply jG | apply jH | apply jI | apply jJ | apply jK | apply hb3x | (apply jL; first | (simp; done) | rfl) | apply jM | apply jN | apply jO | apply jP | apply jQ | apply jR | apply jS | apply jT (hb := hb3 _ (jA _)) | omega | (simp; done) | (simp; omega) | (dsimp only; omega)))); done))
    intro wa hb0' k0'
    (try simp only [List.setIfInBounds_toArray, List.set_cons_zero, List.set_cons_succ] at k0')
    try clear hb3
    try clear hb0
    try clear k0
    have hb0 := hb0'; clear hb0'
    have k0 := k0'; clear k0'
    have Lk0 := k0.later
    have Fk0 := k0.laterF
    have Qk0 := k0.lt
    refine wp_any (w0 := wa) ⟨[8, 9], [3, 4, 5], [some 12, some 13, some 14, some 15, some 16, some 17, some 4, some 5, none, none], [[], [0], [0, 1], [], [3], [3, 4], [], [], [0, 1, 2, 6, 7], [0, 1, 2, 3, 4, 5, 6, 7, 8]], [[], [0], [1], [], [3], [4], [], [], [], []]⟩ (fun γ => frX wa [(γ 6).n, (γ 7).n]) (by kernel_rfl) (by kernel_rfl) (by (with_reducible (repeat' (first | assumption | apply jA | apply jB | apply jC | apply jD | apply jE | apply jF | apply hb3 | omega | (simp; done) | (simp; omega) | (dsimp only; omega))))) (fun u => by simp only [putD, Act.put, List.setIfInBounds_toArray, List.set_cons_zero, List.set_cons_succ, Nat.zero_add, Nat.reduceAdd]; rfl) ?_
    apply RGW.on (i := 0) rfl
    · (simp only [gA, gB, gC] <;> rfl)
    · intro γ u W hcur hd
      clear hd
      (try dsimp only)
      refine ⟨rfl, ?_⟩
      go_simp <;> (try go_bits) <;> with_reducible rfl
    · exact fun _ _ _ => rfl
    · rfl
    dsimp only [nA, cA]
    apply RGW.on (i := 1) rfl
    · (simp only [gA, gB, gC] <;> rfl)
    · intro γ u W hcur hd
      obtain ⟨⟨h0, -, -⟩, -⟩ := hd
      dsimp only at h0
      (try simp only [h0])
      refine ⟨rfl, ?_⟩
      go_simp <;> (try go_bits) <;> with_reducible rfl
    · exact fun _ _ _ => rfl
    · rfl
    dsimp only [nA, cA]
    apply RGW.on (i := 2) rfl
    · (simp only [gA, gB, gC] <;> rfl)
    · intro γ u W hcur hd
      obtain ⟨⟨h1, -, -⟩, -⟩ := hd
      dsimp only at h1
      (try simp only [h1])
      refine ⟨rfl, ?_⟩
      go_simp <;> (try go_bits) <;> with_reducible rfl
    · exact fun _ _ _ => rfl
    · rfl
    dsimp only [nA, cA]
    apply RGW.onL (i := 3) rfl
    · (simp only [gA, gB, gC] <;> rfl)
    · intro γ u Wm W hcurM hd hX; have hcur := bx_fresh hX hcurM
      clear hd
      (try dsimp only)
      refine ⟨rfl, ?_⟩
      go_simp <;> (try go_bits) <;> with_reducible rfl
    · exact fun _ _ _ => rfl
    dsimp only [nA, cA]
    apply RGW.onL (i := 4) rfl
    · (simp only [gA, gB, gC] <;> rfl)
    · intro γ u Wm W hcurM hd hX; have hcur := bx_fresh hX hcurM
      obtain ⟨⟨h3, -, -⟩, -⟩ := hd
      dsimp only at h3
      (try simp only [h3])
      refine ⟨rfl, ?_⟩
      go_simp <;> (try go_bits) <;> with_reducible rfl
    · exact fun _ _ _ => rfl
    dsimp only [nA, cA]
    apply RGW.onL (i := 5) rfl
    · (simp only [gA, gB, gC] <;> rfl)
    · intro γ u Wm W hcurM hd hX; have hcur := bx_fresh hX hcurM
      obtain ⟨⟨h4, -, -⟩, -⟩ := hd
      dsimp only at h4
      (try simp only [h4])
      refine ⟨rfl, ?_⟩
      go_simp <;> (try go_bits) <;> with_reducible rfl
    · exact fun _ _ _ => rfl
    dsimp only [nA, cA]
    apply RGW.alloc (i := 6) rfl
    · (simp only [gA, gB, gC] <;> rfl)
    · intro γ u W hcur hd
      clear hd
      (try dsimp only)
      refine ⟨rfl, fun K hK => ?_⟩
      go_simp
      exact hK.out _ _ rfl rfl
    · exact fun _ _ _ => rfl
    · rfl
    · rfl
    dsimp only [nA, cA]
    apply RGW.alloc (i := 7) rfl
    · (simp only [gA, gB, gC] <;> rfl)
    · intro γ u W hcur hd
      clear hd
      (try dsimp only)
      refine ⟨rfl, fun K hK => ?_⟩
      go_simp
      exact hK.out _ _ rfl rfl
    · exact fun _ _ _ => rfl
    · rfl
    · rfl
    dsimp only [nA, cA]
    refine RGW.skip (i := 8) rfl rfl ?_
    dsimp only [nA, cA]
    refine RGW.skip (i := 9) rfl rfl ?_
    dsimp only [nA, cA]
    refine RGW.fin (fun γ u wb hwb hd hdis => ?_)
    obtain ⟨⟨h0, -, -⟩, ⟨h1, -, -⟩, ⟨h2, -, -⟩, ⟨h3, -, -⟩, ⟨h4, -, -⟩, ⟨h5, -, -⟩, ⟨h6, r6, b6⟩, ⟨h7, r7, b7⟩, -⟩ := hd
    dsimp only at h0 h1 h2 h3 h4 h5 h6 h7 r6 r7 b6 b7
    have n6_7 := hdis 6 7 rfl rfl (Nat.lt_of_lt_of_eq (by decide : 6 < 10) (by kernel_rfl)) (Nat.lt_of_lt_of_eq (by decide : 7 < 10) (by kernel_rfl)) (by decide) _ (List.mem_singleton.2 rfl) _ (List.mem_singleton.2 rfl)
    clear hdis
    simp only [h0, h1, h2, h3, h4, h5, h6, h7]
    clear h7 h6 h5 h4 h3 h2 h1 h0
    replace b6 := b6 _ (List.mem_singleton.2 rfl)
    generalize hγ6 : (γ 6).n = g6 at *
    clear hγ6
    replace b7 := b7 _ (List.mem_singleton.2 rfl)
    generalize hγ7 : (γ 7).n = g7 at *
    clear hγ7
    clear u
    simp only [List.map_cons, List.map_nil]
    rw [frX_eq (L := [g6, g7]) (by intro x hx; simp at hx; omega)]
    apply PlanW.step
    · (simp only [gA, gB, gC] <;> rfl)
    · rfl
    intro K hK
    first
    | refine wp_store_keep (X := [g6, g7]) (w0 := wb) rfl rfl rfl (by with_reducible first | exact bx_refl _ _ | assumption) (by with_reducible first | assumption | (apply Blk.below (hb := hwb); assumption)) (by simp) (by kernel_rfl) (by rfl) (by simp [Value.oneCell']) (fun hres1 hcur => ?_)
      refine hK.out _ _ hcur (fun _ => ?_)
    | go_simp
      refine hK.out _ _ (by (with_reducible (repeat' (first | assumption | apply jG | apply jH | apply jI | apply jJ | apply jK | apply hb3x | omega | (simp; done) | (simp; omega) | (dsimp only; omega))))) (fun hcur => ?_)
    | obtain ⟨u0, v0, z0⟩ := bx_cell0 hcur (Blk.below k0 hwb) (by simp)
      go_simp
      refine hK.out _ _ (by (with_reducible (repeat' (first | assumption | apply jG | apply jH | apply jI | apply jJ | apply jK | apply hb3x | omega | (simp; done) | (simp; omega) | (dsimp only; omega))))) (fun hcur => ?_)
    | obtain ⟨u0, v0, z0⟩ := bx_cell0 (X := [g6, g7]) (w0 := wb) (by with_reducible first | assumption | exact bx_refl _ _) r6 (by simp)
      go_simp
      refine hK.out _ _ (by (with_reducible (repeat' (first | assumption | apply jG | apply jH | apply jI | apply jJ | apply jK | apply hb3x | omega | (simp; done) | (simp; omega) | (dsimp only; omega))))) (fun hcur => ?_)
    | obtain ⟨u0, v0, z0⟩ := bx_cell0 (X := [g6, g7]) (w0 := wb) (by with_reducible first | assumption | exact bx_refl _ _) r7 (by simp)
      go_simp
      refine hK.out _ _ (by (with_reducible (repeat' (first | assumption | apply jG | apply jH | apply jI | apply jJ | apply jK | apply hb3x | omega | (simp; done) | (simp; omega) | (dsimp only; omega))))) (fun hcur => ?_)
    clear hK K
    try simp only [Act.put, List.setIfInBounds_toArray, List.set_cons_zero, List.set_cons_succ]
    apply PlanW.step
    · (simp only [gA, gB, gC] <;> rfl)
    · rfl
    intro K hK
    first
    | refine wp_store_keep (X := [g6, g7]) (w0 := wb) rfl rfl rfl (by with_reducible first | exact bx_refl _ _ | assumption) (by with_reducible first | assumption | (apply Blk.below (hb := hwb); assumption)) (by simp) (by kernel_rfl) (by rfl) (by simp [Value.oneCell']) (fun hres2 hcur => ?_)
      refine hK.out _ _ hcur (fun _ => ?_)
    | go_simp
      refine hK.out _ _ (by (with_reducible (repeat' (first | assumption | apply jG | apply jH | apply jI | apply jJ | apply jK | apply hb3x | omega | (simp; done) | (simp; omega) | (dsimp only; omega))))) (fun hcur => ?_)
    | obtain ⟨u0, v0, z0⟩ := bx_cell0 hcur (Blk.below k0 hwb) (by simp)
      go_simp
      refine hK.out _ _ (by (with_reducible (repeat' (first | assumption | apply jG | apply jH | apply jI | apply jJ | apply jK | apply hb3x | omega | (simp; done) | (simp; omega) | (dsimp only; omega))))) (fun hcur => ?_)
    | obtain ⟨u0, v0, z0⟩ := bx_cell0 (X := [g6, g7]) (w0 := wb) (by with_reducible first | assumption | exact bx_refl _ _) r6 (by simp)
      go_simp
      refine hK.out _ _ (by (with_reducible (repeat' (first | assumption | apply jG | apply jH | apply jI | apply jJ | apply jK | apply hb3x | omega | (simp; done) | (simp; omega) | (dsimp only; omega))))) (fun hcur => ?_)
    | obtain ⟨u0, v0, z0⟩ := bx_cell0 (X := [g6, g7]) (w0 := wb) (by with_reducible first | assumption | exact bx_refl _ _) r7 (by simp)
      go_simp
      refine hK.out _ _ (by (with_reducible (repeat' (first | assumption | apply jG | apply jH | apply jI | apply jJ | apply jK | apply hb3x | omega | (simp; done) | (simp; omega) | (dsimp only; omega))))) (fun hcur => ?_)
    clear hK K
    try simp only [Act.put, List.setIfInBounds_toArray, List.set_cons_zero, List.set_cons_succ]
    refine PlanW.done ?_
    have hb3 := bl_tt hwb
    go_upto_region 2 with fail
    first
    | apply absB3 (w0 := w) (g0 := w.heap.size) (g1 := g6) (g2 := g7)
    | apply absTB3 (w0 := w) (g0 := w.heap.size) (g1 := g6) (g2 := g7)
    | apply absIB3 (w0 := w) (g0 := w.heap.size) (g1 := g6) (g2 := g7)
    iterate 4 (focus ((with_reducible (repeat' (first | assumption | apply jA | apply jB | apply jC | apply jD | apply jE | apply jF | apply hb3 | apply jG | apply jH | apply jI | apply jJ | apply jK | apply hb3x | (apply jL; first | (simp; done) | rfl) | apply jM | apply jN | apply jO | apply jP | apply jQ | apply jR | apply jS | apply jT (hb := hb3 _ (jA _)) | omega | (simp; done) | (simp; omega) | (dsimp only; omega)))); done))
    intro wc hb0' k0' k1' k2'
    (try simp only [List.setIfInBounds_toArray, List.set_cons_zero, List.set_cons_succ] at k0' k1' k2')
    try clear hb3
    try clear Lk0
    try clear Fk0
    try clear Qk0
    try clear hb0
    try clear k0
    try clear k1
    try clear k2
    have hb0 := hb0'; clear hb0'
    have k0 := k0'; clear k0'
    have k1 := k1'; clear k1'
    have k2 := k2'; clear k2'
    have Lk0 := k0.later
    have Fk0 := k0.laterF
    have Qk0 := k0.lt
    have Lk1 := k1.later
    have Fk1 := k1.laterF
    have Qk1 := k1.lt
    have Lk2 := k2.later
    have Fk2 := k2.laterF
    have Qk2 := k2.lt
    refine wp_any (w0 := wc) ⟨[], [], [some 18, some 19, some 20, some 21, some 22, some 23, some 24, some 25, some 26, some 27, some 28, some 29, some 30, some 31, some 32, some 33, some 6], [[], [0], [0, 1], [], [], [3, 4], [3, 4, 5], [0, 1, 2, 3, 4, 5, 6], [0, 1, 2, 3, 4, 5, 6, 7], [0, 1, 2, 3, 4, 5, 6, 7, 8], [0, 1, 2, 3, 4, 5, 6, 7, 8, 9], [0, 1, 2, 3, 4, 5, 6, 7, 8, 9, 10], [0, 1, 2, 3, 4, 5, 6, 7, 8, 9, 10, 11], [0, 1, 2, 3, 4, 5, 6, 7, 8, 9, 10, 11, 12], [0, 1, 2, 3, 4, 5, 6, 7, 8, 9, 10, 11, 12, 13], [0, 1, 2, 3, 4, 5, 6, 7, 8, 9, 10, 11, 12, 13, 14], [0, 1, 2, 3, 4, 5, 6, 7, 8, 9, 10, 11, 12, 13, 14, 15]], [[], [0], [1], [], [], [3, 4], [5], [6], [7], [7, 8], [7, 9], [7, 10], [7, 11], [12], [2, 13], [14], [14, 15]]⟩ (fun _ => []) (by kernel_rfl) (by kernel_rfl) (by (with_reducible (repeat' (first | assumption | apply jA | apply jB | apply jC | apply jD | apply jE | apply jF | apply hb3 | omega | (simp; done) | (simp; omega) | (dsimp only; omega))))) (fun u => by simp only [putD, Act.put, List.setIfInBounds_toArray, List.set_cons_zero, List.set_cons_succ, Nat.zero_add, Nat.reduceAdd]; rfl) ?_
    apply RGW.on (i := 0) rfl
    · (simp only [gA, gB, gC] <;> rfl)
    · intro γ u W hcur hd
      clear hd
      (try dsimp only)
      refine ⟨rfl, ?_⟩
      go_simp <;> (try go_bits) <;> with_reducible rfl
    · exact fun _ _ _ => rfl
    · rfl
    dsimp only [nA, cA]
    apply RGW.on (i := 1) rfl
    · (simp only [gA, gB, gC] <;> rfl)
    · intro γ u W hcur hd
      obtain ⟨⟨h0, -, -⟩, -⟩ := hd
      dsimp only at h0
      (try simp only [h0])
      refine ⟨rfl, ?_⟩
      go_simp <;> (try go_bits) <;> with_reducible rfl
    · exact fun _ _ _ => rfl
    · rfl
    dsimp only [nA, cA]
    apply RGW.call (i := 2) rfl
    · (simp only [gA, gB, gC] <;> rfl)
    · intro γ u W hcur hd
      obtain ⟨⟨h1, -, -⟩, -⟩ := hd
      dsimp only at h1
      (try simp only [h1])
      refine ⟨rfl, fun K hK => ?_⟩
      go_simp
      first
      | (go_at_call 78; (with_reducible refine (c_unless _ _ _).mono ?_); rintro e w3 ⟨rfl, rfl⟩)
      | (go_at_call 77; (with_reducible refine (c_first2 (by (with_reducible (repeat' (first | assumption | (apply jL; first | (simp; done) | rfl) | apply jM | apply jN | apply jO | apply jP | apply jQ | apply jR | apply jS | apply jT (hb := hb3 _ (jA _)) | omega | (simp; done) | (simp; omega) | (dsimp only; omega)))))).mono ?_); rintro e w3 ⟨rfl, rfl⟩)
      (try dsimp only)
      exact hK.out _ _ rfl (by (with_reducible (repeat' (first | assumption | apply jA | apply jB | apply jC | apply jD | apply jE | apply jF | apply hb3 | omega | (simp; done) | (simp; omega) | (dsimp only; omega)))))
    · exact fun _ _ _ => rfl
    · rfl
    dsimp only [nA, cA]
    apply RGW.on (i := 3) rfl
    · (simp only [gA, gB, gC] <;> rfl)
    · intro γ u W hcur hd
      clear hd
      (try dsimp only)
      refine ⟨rfl, ?_⟩
      go_simp <;> (try go_bits) <;> with_reducible rfl
    · exact fun _ _ _ => rfl
    · rfl
    dsimp only [nA, cA]
    apply RGW.on (i := 4) rfl
    · (simp only [gA, gB, gC] <;> rfl)
    · intro γ u W hcur hd
      clear hd
      (try dsimp only)
      refine ⟨rfl, ?_⟩
      go_simp <;> (try go_bits) <;> with_reducible rfl
    · exact fun _ _ _ => rfl
    · rfl
    dsimp only [nA, cA]
    apply RGW.on (i := 5) rfl
    · (simp only [gA, gB, gC] <;> rfl)
    · intro γ u W hcur hd
      obtain ⟨⟨h3, -, -⟩, ⟨h4, -, -⟩, -⟩ := hd
      dsimp only at h3 h4
      (try simp only [h3, h4])
      refine ⟨rfl, ?_⟩
      go_simp <;> (try go_bits) <;> with_reducible rfl
    · exact fun _ _ _ => rfl
    · rfl
    dsimp only [nA, cA]
    apply RGW.on (i := 6) rfl
    · (simp only [gA, gB, gC] <;> rfl)
    · intro γ u W hcur hd
      obtain ⟨⟨h5, -, -⟩, -⟩ := hd
      dsimp only at h5
      (try simp only [h5])
      refine ⟨rfl, ?_⟩
      go_simp <;> (try go_bits) <;> with_reducible rfl
    · exact fun _ _ _ => rfl
    · rfl
    dsimp only [nA, cA]
    apply RGW.on (i := 7) rfl
    · (simp only [gA, gB, gC] <;> rfl)
    · intro γ u W hcur hd
      obtain ⟨⟨h6, -, -⟩, -⟩ := hd
      dsimp only at h6
      (try simp only [h6])
      refine ⟨rfl, ?_⟩
      go_simp <;> (try go_bits) <;> with_reducible rfl
    · exact fun _ _ _ => rfl
    · rfl
    dsimp only [nA, cA]
    first
    | apply RGW.on (i := 8) rfl
      · (simp only [gA, gB, gC] <;> rfl)
      · intro γ u W hcur hd
        obtain ⟨⟨h7, -, -⟩, -⟩ := hd
        dsimp only at h7
        (try simp only [h7])
        refine ⟨?_, ?_⟩
        · (simp [Region.wanted, yielded, undef, *]; done)
        go_simp <;> (try go_bits) <;> with_reducible rfl
      · exact fun _ _ _ => rfl
      · rfl
    | apply RGW.off (i := 8) rfl
      · (simp only [gA, gB, gC] <;> rfl)
      · intro γ u W hcur hd
        obtain ⟨⟨h7, -, -⟩, -⟩ := hd
        dsimp only at h7
        (try simp only [h7])
        simp [Region.wanted, yielded, undef, *]
      · rfl
    dsimp only [nA, cA]
    first
    | apply RGW.on (i := 9) rfl
      · (simp only [gA, gB, gC] <;> rfl)
      · intro γ u W hcur hd
        obtain ⟨⟨h7, -, -⟩, ⟨h8, -, -⟩, -⟩ := hd
        dsimp only at h7 h8
        (try simp only [h7, h8])
        refine ⟨?_, ?_⟩
        · (simp [Region.wanted, yielded, undef, *]; done)
        go_simp <;> (try go_bits) <;> with_reducible rfl
      · exact fun _ _ _ => rfl
      · rfl
    | apply RGW.off (i := 9) rfl
      · (simp only [gA, gB, gC] <;> rfl)
      · intro γ u W hcur hd
        obtain ⟨⟨h7, -, -⟩, ⟨h8, -, -⟩, -⟩ := hd
        dsimp only at h7 h8
        (try simp only [h7, h8])
        simp [Region.wanted, yielded, undef, *]
      · rfl
    dsimp only [nA, cA]
    first
    | apply RGW.on (i := 10) rfl
      · (simp only [gA, gB, gC] <;> rfl)
      · intro γ u W hcur hd
        obtain ⟨⟨h7, -, -⟩, ⟨h9, -, -⟩, -⟩ := hd
        dsimp only at h7 h9
        (try simp only [h7, h9])
        refine ⟨?_, ?_⟩
        · (simp [Region.wanted, yielded, undef, *]; done)
        go_simp <;> (try go_bits) <;> with_reducible rfl
      · exact fun _ _ _ => rfl
      · rfl
    | apply RGW.off (i := 10) rfl
      · (simp only [gA, gB, gC] <;> rfl)
      · intro γ u W hcur hd
        obtain ⟨⟨h7, -, -⟩, ⟨h9, -, -⟩, -⟩ := hd
        dsimp only at h7 h9
        (try simp only [h7, h9])
        simp [Region.wanted, yielded, undef, *]
      · rfl
    dsimp only [nA, cA]
    first
    | apply RGW.on (i := 11) rfl
      · (simp only [gA, gB, gC] <;> rfl)
      · intro γ u W hcur hd
        obtain ⟨⟨h7, -, -⟩, ⟨h10, -, -⟩, -⟩ := hd
        dsimp only at h7 h10
        (try simp only [h7, h10])
        refine ⟨?_, ?_⟩
        · (simp [Region.wanted, yielded, undef, *]; done)
        go_simp <;> (try go_bits) <;> with_reducible rfl
      · exact fun _ _ _ => rfl
      · rfl
    | apply RGW.off (i := 11) rfl
      · (simp only [gA, gB, gC] <;> rfl)
      · intro γ u W hcur hd
        obtain ⟨⟨h7, -, -⟩, ⟨h10, -, -⟩, -⟩ := hd
        dsimp only at h7 h10
        (try simp only [h7, h10])
        simp [Region.wanted, yielded, undef, *]
      · rfl
    dsimp only [nA, cA]
    apply RGW.on (i := 12) rfl
    · (simp only [gA, gB, gC] <;> rfl)
    · intro γ u W hcur hd
      obtain ⟨⟨h7, -, -⟩, ⟨h11, -, -⟩, -⟩ := hd
      dsimp only at h7 h11
      (try simp only [h7, h11])
      refine ⟨rfl, ?_⟩
      go_simp <;> (try go_bits) <;> with_reducible rfl
    · exact fun _ _ _ => rfl
    · rfl
    dsimp only [nA, cA]
    apply RGW.call (i := 13) rfl
    · (simp only [gA, gB, gC] <;> rfl)
    · intro γ u W hcur hd
      obtain ⟨⟨h12, -, -⟩, -⟩ := hd
      dsimp only at h12
      (try simp only [h12])
      refine ⟨rfl, fun K hK => ?_⟩
      go_simp
      first
      | (go_at_call 78; (with_reducible refine (c_unless _ _ _).mono ?_); rintro e w3 ⟨rfl, rfl⟩)
      | (go_at_call 77; (with_reducible refine (c_first2 (by (with_reducible (repeat' (first | assumption | (apply jL; first | (simp; done) | rfl) | apply jM | apply jN | apply jO | apply jP | apply jQ | apply jR | apply jS | apply jT (hb := hb3 _ (jA _)) | omega | (simp; done) | (simp; omega) | (dsimp only; omega)))))).mono ?_); rintro e w3 ⟨rfl, rfl⟩)
      (try dsimp only)
      exact hK.out _ _ rfl (by (with_reducible (repeat' (first | assumption | apply jA | apply jB | apply jC | apply jD | apply jE | apply jF | apply hb3 | omega | (simp; done) | (simp; omega) | (dsimp only; omega)))))
    · exact fun _ _ _ => rfl
    · rfl
    dsimp only [nA, cA]
    apply RGW.bslice (i := 14) rfl
    · (simp only [gA, gB, gC] <;> rfl)
    · intro γ u W hcur hd
      obtain ⟨⟨h2, -, -⟩, ⟨h13, -, -⟩, -⟩ := hd
      dsimp only at h2 h13
      (try simp only [h2, h13])
      refine ⟨rfl, fun K hK => ?_⟩
      go_simp
      exact hK.out _ _ rfl rfl
    · exact fun _ _ _ => rfl
    · rfl
    · rfl
    dsimp only [nA, cA]
    apply RGW.call (i := 15) rfl
    · (simp only [gA, gB, gC] <;> rfl)
    · intro γ u W hcur hd
      obtain ⟨⟨h14, r14, -⟩, -⟩ := hd
      dsimp only at h14 r14
      have L14 := r14.cell
      (try simp only [h14])
      refine ⟨rfl, fun K hK => ?_⟩
      go_simp
      first
      | (go_at_call 78; (with_reducible refine (c_unless _ _ _).mono ?_); rintro e w3 ⟨rfl, rfl⟩)
      | (go_at_call 77; (with_reducible refine (c_first2 (by (with_reducible (repeat' (first | assumption | (apply jL; first | (simp; done) | rfl) | apply jM | apply jN | apply jO | apply jP | apply jQ | apply jR | apply jS | apply jT (hb := hb3 _ (jA _)) | omega | (simp; done) | (simp; omega) | (dsimp only; omega)))))).mono ?_); rintro e w3 ⟨rfl, rfl⟩)
      (try dsimp only)
      exact hK.out _ _ rfl (by (with_reducible (repeat' (first | assumption | apply jA | apply jB | apply jC | apply jD | apply jE | apply jF | apply hb3 | omega | (simp; done) | (simp; omega) | (dsimp only; omega)))))
    · first
      | exact fun _ _ _ => rfl
      | intro γ γ' hg
        try dsimp only
        have e14 := hg 14 (by decide)
        simp only [e14]
    · rfl
    dsimp only [nA, cA]
    apply RGW.on (i := 16) rfl
    · (simp only [gA, gB, gC] <;> rfl)
    · intro γ u W hcur hd
      obtain ⟨⟨h14, r14, -⟩, ⟨h15, -, -⟩, -⟩ := hd
      dsimp only at h14 h15 r14
      have L14 := r14.cell
      (try simp only [h14, h15])
      refine ⟨rfl, ?_⟩
      go_simp <;> (try go_bits) <;> with_reducible rfl
    · first
      | exact fun _ _ _ => rfl
      | intro γ γ' hg
        try dsimp only
        have e14 := hg 14 (by decide)
        simp only [e14]
    · rfl
    dsimp only [nA, cA]
    refine RGW.fin (fun γ u wd hwd hd hdis => ?_)
    obtain ⟨⟨h0, -, -⟩, ⟨h1, -, -⟩, ⟨h2, -, -⟩, ⟨h3, -, -⟩, ⟨h4, -, -⟩, ⟨h5, -, -⟩, ⟨h6, -, -⟩, ⟨h7, -, -⟩, ⟨h8, -, -⟩, ⟨h9, -, -⟩, ⟨h10, -, -⟩, ⟨h11, -, -⟩, ⟨h12, -, -⟩, ⟨h13, -, -⟩, ⟨h14, r14, b14⟩, ⟨h15, -, -⟩, ⟨h16, -, -⟩, -⟩ := hd
    dsimp only at h0 h1 h2 h3 h4 h5 h6 h7 h8 h9 h10 h11 h12 h13 h14 h15 h16 r14 b14
    clear hdis
    simp only [h0, h1, h2, h3, h4, h5, h6, h7, h8, h9, h10, h11, h12, h13, h14, h15, h16]
    clear h16 h15 h14 h13 h12 h11 h10 h9 h8 h7 h6 h5 h4 h3 h2 h1 h0
    replace b14 := b14 _ (List.mem_singleton.2 rfl)
    generalize hγ14 : (γ 14).n = g14 at *
    clear hγ14
    clear u
    simp only [List.map_nil]
    refine PlanW.done ?_
    have hb3 := bl_tt hwd
    rw [← hE.out]
    first
    | apply absB3 (w0 := w) (g0 := w.heap.size) (g1 := g6) (g2 := g7)
    | apply absTB3 (w0 := w) (g0 := w.heap.size) (g1 := g6) (g2 := g7)
    | apply absIB3 (w0 := w) (g0 := w.heap.size) (g1 := g6) (g2 := g7)
    iterate 4 (focus ((with_reducible (repeat' (first | assumption | apply jA | apply jB | apply jC | apply jD | apply jE | apply jF | apply hb3 | apply jG | apply jH | apply jI | apply jJ | apply jK | apply hb3x | (apply jL; first | (simp; done) | rfl) | apply jM | apply jN | apply jO | apply jP | apply jQ | apply jR | apply jS | apply jT (hb := hb3 _ (jA _)) | omega | (simp; done) | (simp; omega) | (dsimp only; omega)))); done))
    intro we hb0' k0' k1' k2'
    (try simp only [List.setIfInBounds_toArray, List.set_cons_zero, List.set_cons_succ] at k0' k1' k2')
    try clear hb3
    try clear Lk0
    try clear Fk0
    try clear Qk0
    try clear Lk1
    try clear Fk1
    try clear Qk1
    try clear Lk2
    try clear Fk2
    try clear Qk2
    try clear hb0
    try clear k0
    try clear k1
    try clear k2
    have hb0 := hb0'; clear hb0'
    have k0 := k0'; clear k0'
    have k1 := k1'; clear k1'
    have k2 := k2'; clear k2'
    clear hE hA
    by_cases he0 : n.e0 = 0
    rotate_left
    · go_wp2
      go_ret2
      exact ⟨by rw [r0.out he0] <;> rfl, by (with_reducible (repeat' (first | assumption | apply jA | apply jB | apply jC | apply jD | apply jE | apply jF | apply hb3 | omega | (simp; done) | (simp; omega) | (dsimp only; omega))))⟩
    go_wp2_with fail
    refine (c_names we).mono ?_
    rintro e w1a ⟨rfl, hbn, hs⟩
    have hw3 : Below w.heap.size w w1a := bl_tr hb0 hbn
    have hle := hb0.size
    have hl0 := k0.lt
    have hl1 := k1.lt
    have hl2 := k2.lt
    replace k0 := k0.below hbn
    replace k1 := k1.below hbn
    replace k2 := k2.below hbn
    have hsl := hs.lt
    clear hb0
    go_upto_region 6 with fail
    first
    | apply absB4 (w0 := w1a) (g0 := w.heap.size) (g1 := g6) (g2 := g7) (g3 := w1a.heap.size)
    | apply absTB4 (w0 := w1a) (g0 := w.heap.size) (g1 := g6) (g2 := g7) (g3 := w1a.heap.size)
    | apply absIB4 (w0 := w1a) (g0 := w.heap.size) (g1 := g6) (g2 := g7) (g3 := w1a.heap.size)
    iterate 5 (focus ((with_reducible (repeat' (first | assumption | apply jA | apply jB | apply jC | apply jD | apply jE | apply jF | apply hb3 | apply jG | apply jH | apply jI | apply jJ | apply jK | apply hb3x | (apply jL; first | (simp; done) | rfl) | apply jM | apply jN | apply jO | apply jP | apply jQ | apply jR | apply jS | apply jT (hb := hb3 _ (jA _)) | omega | (simp; done) | (simp; omega) | (dsimp only; omega)))); done))
    intro w1b hb0' k0' k1' k2' k3'
    (try simp only [List.setIfInBounds_toArray, List.set_cons_zero, List.set_cons_succ] at k0' k1' k2' k3')
    try clear hb3
    try clear hb0
    try clear k0
    try clear k1
    try clear k2
    try clear k3
    have hb0 := hb0'; clear hb0'
    have k0 := k0'; clear k0'
    have k1 := k1'; clear k1'
    have k2 := k2'; clear k2'
    have k3 := k3'; clear k3'
    have L0 := k0.cell
    go_wp2_with fail
    clear L0
    refine (hp.out w1a.heap.size (we.heap.size + 1) we.heap.size w1b (bl_tr hw3 hb0) k3 (hs.below hb0) (by omega)).mono ?_
    rintro e w1c ⟨rfl, hx⟩
    have hb3 : Hid (w.heap.size ≤ w1a.heap.size ∧ w.heap.size < w1a.heap.size ∧ g6 < w1a.heap.size ∧ g7 < w1a.heap.size) := ⟨hw3.size, by omega, by omega, by omega⟩
    replace hb0 := bx_below (bl_tr hw3 hb0) hx (by simpa using hle)
    replace k0 := k0.keep (by simp; omega) hx
    replace k1 := k1.keep (by simp; omega) hx
    replace k2 := k2.keep (by simp; omega) hx
    replace k3 := k3.keep (by simp; omega) hx
    clear hx hs hsl hle hl0 hl1 hl2 hw3
    by_cases hq1 : q1 = 0
    rotate_left
    · go_wp2
      go_ret2
      exact ⟨by rw [r1.out he0 hq1] <;> rfl, by (with_reducible (repeat' (first | assumption | apply jA | apply jB | apply jC | apply jD | apply jE | apply jF | apply hb3 | omega | (simp; done) | (simp; omega) | (dsimp only; omega))))⟩
    go_wp2_with fail
    refine (c_names w1c).mono ?_
    rintro e w2a ⟨rfl, hbn, hs⟩
    have hw3 : Below w.heap.size w w2a := bl_tr hb0 hbn
    have hle := hb0.size
    have hl0 := k0.lt
    have hl1 := k1.lt
    have hl2 := k2.lt
    have hl3 := k3.lt
    have hg3 := hb3.out
    replace k0 := k0.below hbn
    replace k1 := k1.below hbn
    replace k2 := k2.below hbn
    replace k3 := k3.below hbn
    have hsl := hs.lt
    clear hb0
    have L3 := k3.cell
    have F3 := k3.frozen
    go_upto_region 10 with fail
    clear L3 F3
    have hx : BX [w1a.heap.size] w2a (w2a.setCell ⟨w1a.heap.size, 0, none⟩ (vName (w1c.heap.size + 1))) := bx_set (.inl (by simp)) _ (bx_refl _ _)
    replace hs := hs.bx hx (by simp; omega) (by simp; omega)
    replace k0 := k0.keep (by simp; omega) hx
    replace k1 := k1.keep (by simp; omega) hx
    replace k2 := k2.keep (by simp; omega) hx
    replace k3 : Blk (w2a.setCell ⟨w1a.heap.size, 0, none⟩ (vName (w1c.heap.size + 1))) w1a.heap.size tName #[vName (w1c.heap.size + 1)] := k3.set1 (by simp)
    have hb0 := bx_below hw3 hx (by simpa using hg3.1)
    clear hx hw3 hbn
    generalize hW : w2a.setCell ⟨w1a.heap.size, 0, none⟩ (vName (w1c.heap.size + 1)) = w2b at *
    clear hW
    have L0 := k0.cell
    go_wp2_with fail
    clear L0
    refine (hf.out w1a.heap.size g6 (w1c.heap.size + 1) w1c.heap.size w2b hb0 k3 k1 hs (by omega) (by omega)).mono ?_
    rintro e w2c ⟨rfl, hx⟩
    replace hb0 := bx_below hb0 hx (by simpa using hle)
    replace k0 := k0.keep (by simp; omega) hx
    replace k1 := k1.keep (by simp; omega) hx
    replace k2 := k2.keep (by simp; omega) hx
    replace k3 := k3.keep (by simp; omega) hx
    clear hx hs hsl hle hl0 hl1 hl2 hl3 hg3
    by_cases hq2 : q2 = 0
    rotate_left
    · go_wp2
      go_ret2
      exact ⟨by rw [r2.out he0 hq1 hq2] <;> rfl, hb0⟩
    go_wp2_with fail
    refine (c_names w2c).mono ?_
    rintro e w3a ⟨rfl, hbn, hs⟩
    have hw3 : Below w.heap.size w w3a := bl_tr hb0 hbn
    have hle := hb0.size
    have hl0 := k0.lt
    have hl1 := k1.lt
    have hl2 := k2.lt
    have hl3 := k3.lt
    have hg3 := hb3.out
    replace k0 := k0.below hbn
    replace k1 := k1.below hbn
    replace k2 := k2.below hbn
    replace k3 := k3.below hbn
    have hsl := hs.lt
    clear hb0
    have L3 := k3.cell
    have F3 := k3.frozen
    go_upto_region 14 with fail
    clear L3 F3
    have hx : BX [w1a.heap.size] w3a (w3a.setCell ⟨w1a.heap.size, 0, none⟩ (vName (w2c.heap.size + 1))) := bx_set (.inl (by simp)) _ (bx_refl _ _)
    replace hs := hs.bx hx (by simp; omega) (by simp; omega)
    replace k0 := k0.keep (by simp; omega) hx
    replace k1 := k1.keep (by simp; omega) hx
    replace k2 := k2.keep (by simp; omega) hx
    replace k3 : Blk (w3a.setCell ⟨w1a.heap.size, 0, none⟩ (vName (w2c.heap.size + 1))) w1a.heap.size tName #[vName (w2c.heap.size + 1)] := k3.set1 (by simp)
    have hb0 := bx_below hw3 hx (by simpa using hg3.1)
    clear hx hw3 hbn
    generalize hW : w3a.setCell ⟨w1a.heap.size, 0, none⟩ (vName (w2c.heap.size + 1)) = w3b at *
    clear hW
    have L0 := k0.cell
    go_wp2_with fail
    clear L0
    refine (hm.out w1a.heap.size g7 (w2c.heap.size + 1) w2c.heap.size w3b hb0 k3 k2 hs (by omega) (by omega)).mono ?_
    rintro e w3c ⟨rfl, hx⟩
    replace hb0 := bx_below hb0 hx (by simpa using hle)
    go_wp2
    go_ret2
    exact ⟨by rw [r3.out he0 hq1 hq2] <;> rfl, hb0⟩
end Go.Proofs.YtdlmkblmljhbfaaDoor
namespace Go.Proofs.YtdlmkblmljhbfaaDoor
set_option linter.unusedSimpArgs false
set_option linter.unusedVariables false
open Go.RowKit
attribute [local go_sem] bl_al bl_drew bl_drewN bl_refl
set_option maxRecDepth 20000
def cmpI (x y : Int) : Int := if x < y then -1 else if y < x then 1 else 0
def cmpL : List Int → List Int → Int
  | [], [] => 0
  | [], _ :: _ => -1
  | _ :: _, [] => 1
  | x :: a, y :: b => if x = y then cmpL a b else cmpI x y
theorem cmpL_lt : ∀ a b : List Int, decide (cmpL a b < 0) = lexB a b
  | [], [] => rfl
  | [], _ :: _ => rfl
  | _ :: _, [] => rfl
  | x :: a, y :: b => by
    unfold cmpL lexB
    by_cases h : x = y
    · rw [if_pos h, if_pos h]; exact cmpL_lt a b
    · rw [if_neg h, if_neg h]
      unfold cmpI
      by_cases h1 : x < y
      · simp [h1]
      · have h2 : y < x := by omega
        simp [h1, h2]
theorem c_isNaN (x : Int) (w : World) : Calls Tryd.prog 156 #[.int .i64 x] w (Same (.bool false) w) := by
  go_enter Tryd.func156, Tryd.ntmps156
  go_wp2
  go_ret
  exact ⟨by simp, rfl⟩
theorem c_cmp (x y : Int) (w : World) : Calls Tryd.prog 143 #[.int .i64 x, .int .i64 y] w (Same (.int .i64 (cmpI x y)) w) := by
  by_cases h1 : x < y
  · have e : cmpI x y = -1 := by rw [cmpI, if_pos h1]
    have e1 : decide (x < y) = true := by simp [h1]
    rw [e]
    clear h1
    go_enter Tryd.func143, Tryd.ntmps143
    go_wp2_with (go_at_call 156; (with_reducible refine (c_isNaN _ _).mono ?_); rintro e w3 ⟨rfl, rfl⟩)
    go_ret
    exact ⟨rfl, rfl⟩
  · have e1 : decide (x < y) = false := by simp [h1]
    by_cases h2 : y < x
    · have e : cmpI x y = 1 := by rw [cmpI, if_neg h1, if_pos h2]
      have e2 : decide (y < x) = true := by simp [h2]
      rw [e]
      clear h1 h2
      go_enter Tryd.func143, Tryd.ntmps143
      go_wp2_with (go_at_call 156; (with_reducible refine (c_isNaN _ _).mono ?_); rintro e w3 ⟨rfl, rfl⟩)
      go_ret
      exact ⟨rfl, rfl⟩
    · have e : cmpI x y = 0 := by rw [cmpI, if_neg h1, if_neg h2]
      have e2 : decide (y < x) = false := by simp [h2]
      rw [e]
      clear h1 h2
      go_enter Tryd.func143, Tryd.ntmps143
      go_wp2_with (go_at_call 156; (with_reducible refine (c_isNaN _ _).mono ?_); rintro e w3 ⟨rfl, rfl⟩)
      go_ret
      exact ⟨rfl, rfl⟩
theorem cmpL_drop {a b : List Int} {k : Nat} {x y : Int} (hx : a[k]? = some x) (hy : b[k]? = some y) : cmpL (a.drop k) (b.drop k) = if x = y then cmpL (a.drop (k + 1)) (b.drop (k + 1)) else cmpI x y := by
  have h1 := (List.getElem?_eq_some_iff.1 hx).1
  have h2 := (List.getElem?_eq_some_iff.1 hy).1
  rw [List.drop_eq_getElem_cons h1, List.drop_eq_getElem_cons h2, (List.getElem?_eq_some_iff.1 hx).2, (List.getElem?_eq_some_iff.1 hy).2, cmpL]
theorem cmpL_end {a b : List Int} {k : Nat} (hk1 : k ≤ a.length) (hk2 : k ≤ b.length) (h : a.length ≤ k) : cmpL (a.drop k) (b.drop k) = if a.length < b.length then -1 else 0 := by
  rw [List.drop_of_length_le h]
  by_cases h2 : b.length ≤ k
  · rw [List.drop_of_length_le h2, cmpL, if_neg (by omega)]
  · rw [List.drop_eq_getElem_cons (by omega : k < b.length), cmpL, if_pos (by omega)]
theorem cmpL_long {a b : List Int} {k : Nat} {x : Int} (hx : a[k]? = some x) (h : b.length ≤ k) : cmpL (a.drop k) (b.drop k) = 1 := by
  rw [List.drop_of_length_le h, List.drop_eq_getElem_cons (List.getElem?_eq_some_iff.1 hx).1, cmpL]
set_option maxHeartbeats 4000000 in
theorem c_Compare (a b : List Int) (A B : Option Addr) (c d : Nat) (w : World) (ha : Sl cI 1 w A a) (hb : Sl cI 1 w B b) (h1 : a.length ≤ 1000) (h2 : b.length ≤ 1000) :
    Calls Tryd.prog 126 #[.slice A a.length c, .slice B b.length d] w (Ret (.int .i64 (cmpL a b)) w) := by
  have Ha := Lib.hid ha
  have Hb := Lib.hid hb
  clear ha hb
  have hend := Lib.hid (fun k => cmpL_end (a := a) (b := b) (k := k))
  have hlong := Lib.hid (fun k x => cmpL_long (a := a) (b := b) (k := k) (x := x))
  obtain ⟨n, Hn⟩ : ∃ n, Hid (a.length = n) := ⟨_, rfl⟩
  obtain ⟨m, Hm⟩ : ∃ n, Hid (b.length = n) := ⟨_, rfl⟩
  rw [Hn.out] at h1 hend ⊢
  rw [Hm.out] at h2 hend hlong ⊢
  go_enter Tryd.func126, Tryd.ntmps126
  go_wp2
  go_loopw [11] (fun i wr => ∃ k : Nat, k ≤ n ∧ k ≤ m ∧ i = .int .i64 k ∧ Below w.heap.size w wr ∧ cmpL a b = cmpL (a.drop k) (b.drop k)) (fun i _ => n - (intOf i).toNat)
  case atStart => exact ⟨0, Nat.zero_le _, Nat.zero_le _, rfl, Below.refl _ _, rfl⟩
  case round =>
    obtain ⟨k, hk, hk2, rfl, hbw, hi⟩ := hrel
    replace hi := Lib.hid hi
    by_cases hlt : k < n
    · have hx : a[k]? = some (a[k]'(by rw [Hn.out]; exact hlt)) := List.getElem?_eq_getElem _
      generalize a[k]'(by rw [Hn.out]; exact hlt) = x at hx
      obtain ⟨ba, oa, hA, hca⟩ := Ha.out k x hx
      have c0 : wr.cell? ⟨ba, oa + k, none⟩ = some (.int .i64 x) := by have := kcell hbw (hca 0 _ rfl); simpa using this
      clear hca
      subst hA
      by_cases hlt2 : k < m
      · have hy : b[k]? = some (b[k]'(by rw [Hm.out]; exact hlt2)) := List.getElem?_eq_getElem _
        generalize b[k]'(by rw [Hm.out]; exact hlt2) = y at hy
        obtain ⟨bb, ob, hB, hcb⟩ := Hb.out k y hy
        have c1 : wr.cell? ⟨bb, ob + k, none⟩ = some (.int .i64 y) := by have := kcell hbw (hcb 0 _ rfl); simpa using this
        have hd := Lib.hid (cmpL_drop hx hy)
        clear hcb hx hy hend hlong
        subst hB
        by_cases hxy : x = y
        · have h' : Hid (cmpL a b = cmpL (a.drop (k + 1)) (b.drop (k + 1))) := Lib.hid (by rw [hi.out, hd.out, if_pos hxy])
          have e : cmpI x y = 0 := by rw [hxy, cmpI, if_neg (Int.lt_irrefl y), if_neg (Int.lt_irrefl y)]
          have hc := Lib.hid fun W : World => e ▸ c_cmp x y W
          clear hxy hd hi e
          go_wp2_with (go_at_call 143; (with_reducible refine (hc.out _).mono ?_); rintro e w3 ⟨rfl, rfl⟩)
          go_roundw
          case rel => exact ⟨k + 1, by omega, by omega, by go_num, hbw, h'.out⟩
          case measure => simp [intOf]; omega
        · have h' : Hid (cmpL a b = cmpI x y) := Lib.hid (by rw [hi.out, hd.out, if_neg hxy])
          have e : (cmpI x y != 0) = true := by
            unfold cmpI
            by_cases h : x < y
            · simp [h]
            · have : y < x := by omega
              simp [h, this]
          have hc := Lib.hid fun W : World => c_cmp x y W
          generalize cmpI x y = z at *
          clear hxy hd hi
          go_wp2_with (go_at_call 143; (with_reducible refine (hc.out _).mono ?_); rintro e w3 ⟨rfl, rfl⟩)
          go_ret
          exact ⟨by rw [h'.out] <;> rfl, hbw⟩
      · have h' : Hid (cmpL a b = 1) := Lib.hid (by rw [hi.out]; exact hlong.out k x hx (by omega))
        clear hend hlong hi hx
        go_wp2
        go_ret
        exact ⟨by rw [h'.out] <;> rfl, hbw⟩
    · have h' : Hid (cmpL a b = if n < m then -1 else 0) := Lib.hid (by rw [hi.out]; exact hend.out k (by omega) (by omega) (by omega))
      clear hend hlong hi
      by_cases hnm : n < m
      · have h2' : Hid (cmpL a b = -1) := Lib.hid (by rw [h'.out, if_pos hnm])
        have e : decide (n < m) = true := by simp [hnm]
        clear h' hnm
        go_wp2
        go_ret
        exact ⟨by rw [h2'.out] <;> rfl, hbw⟩
      · have h2' : Hid (cmpL a b = 0) := Lib.hid (by rw [h'.out, if_neg hnm])
        have e : decide (n < m) = false := by simp; omega
        clear h' hnm
        go_wp2
        go_ret
        exact ⟨by rw [h2'.out] <;> rfl, hbw⟩
end Go.Proofs.YtdlmkblmljhbfaaDoor
namespace Go.Proofs.YtdlmkblmljhbfaaDoor
set_option linter.unusedSimpArgs false
set_option linter.unusedVariables false
open Go.RowKit Go.Shelf
attribute [local go_sem] bl_al bl_drew bl_drewN bl_refl
set_option maxRecDepth 20000
/-- math/bits.deBruijn64tab as its initialiser lays it. -/
def Tab (w : World) : Prop := ∀ j, j < 64 → w.cell? ⟨1, j, none⟩ = some (.int .u8 ((Lib.deBruijn64tab.getD j 0 : Nat) : Int))
theorem Tab.below {w w' : World} (h : Tab w) (hb : Below w.heap.size w w') : Tab w' := fun j hj => kcell hb (h j hj)
theorem Tab.bx {X : List Nat} {w w' : World} (h : Tab w) (hb : BX X w w') (hX : 1 ∉ X) : Tab w' := fun j hj => by
  have h1 := h j hj
  have hlt := World.block_lt_of_cell? w _ h1
  have : w'.heap[1]? = w.heap[1]? := hb.block 1 hlt hX
  simp only [World.cell?] at h1 ⊢
  rw [this]
  exact h1
theorem tz_key (x a : Nat) (hx : x < 18446744073709551616) (hx0 : x ≠ 0) (hlow : x &&& (18446744073709551616 - x) = a) :
    IntKind.u64.wrap (bits BinOp.and IntKind.u64 (x : Int) (IntKind.u64.wrap (-(x : Int))) * 285870213051353865) / 288230376151711744 = ((a * 285870213051353865 % 18446744073709551616 / 288230376151711744 : Nat) : Int) := by
  have e1 : IntKind.u64.wrap (-(x : Int)) = ((18446744073709551616 - x : Nat) : Int) := by rw [IntKind.wrap_u64]; omega
  rw [e1, bits_and_u64_nat x _ hx (by omega), hlow, IntKind.wrap_u64]
  omega
set_option maxHeartbeats 1000000 in
theorem tz_core (x k idx : Nat) (w : World) (hx0 : ((x : Int) == 0) = false)
    (key : IntKind.u64.wrap (bits BinOp.and IntKind.u64 (x : Int) (IntKind.u64.wrap (-(x : Int))) * 285870213051353865) / 288230376151711744 = (idx : Int))
    (hi : idx < 64) (hk : k < 64) (hcell : w.cell? ⟨1, idx, none⟩ = some (.int .u8 k)) :
    Calls Tryd.prog 147 #[.int .u64 x] w (Same (.int .i64 k) w) := by
  go_enter Tryd.func147, Tryd.ntmps147
  go_wp2_with (simp only [key])
  go_ret
  exact ⟨rfl, rfl⟩
theorem c_tz (x : Nat) (w : World) (hx0 : x ≠ 0) (hx : x < 1024) (hT : Tab w) : Calls Tryd.prog 128 #[.int .u64 x] w (Same (.int .i64 (Lib.ctz 64 x)) w) := by
  obtain ⟨hlow, hk⟩ := Lib.lowest_bit 64 x hx0 (by omega)
  obtain ⟨hi, htab⟩ := Lib.deBruijn64_at _ hk
  have hcell := hT _ hi
  rw [htab] at hcell
  have hc := Lib.hid (tz_core x _ _ w (by simp; omega) (tz_key x _ (by omega) hx0 hlow) hi hk hcell)
  clear hcell hi htab hlow hk
  generalize Lib.ctz 64 x = k at *
  go_enter Tryd.func128, Tryd.ntmps128
  go_wp2_with (go_at_call 147; (with_reducible refine hc.out.mono ?_); rintro e w3 ⟨rfl, rfl⟩)
  go_ret
  exact ⟨rfl, rfl⟩
theorem c_Ones64 : ∃ f : Nat → Int, (∀ (s : Nat) (w : World), Calls Tryd.prog 149 #[.int .u64 (s : Nat)] w (Same (.int .i64 (f s)) w)) ∧ ∀ s, s < 1024 → f s = (sizeS s : Nat) := by
  apply Exists.intro
  apply And.intro
  · intro s w
    go_enter Tryd.func149, Tryd.ntmps149
    go_wp2
    go_ret
    exact ⟨rfl, rfl⟩
  · decide +kernel
theorem c_Ones (s : Nat) (w : World) (hs : s < 1024) : Calls Tryd.prog 129 #[.int .u64 (s : Nat)] w (Same (.int .i64 (sizeS s : Nat)) w) := by
  obtain ⟨f, h1, h2⟩ := c_Ones64
  have hc := Lib.hid fun W : World => h1 s W
  have e := h2 s hs
  rw [e] at hc
  clear h1 h2 e hs
  go_enter Tryd.func129, Tryd.ntmps129
  go_wp2_with (go_at_call 149; (with_reducible refine (hc.out _).mono ?_); rintro e w3 ⟨rfl, rfl⟩)
  go_ret
  exact ⟨rfl, rfl⟩
theorem c_size (s : Nat) (w : World) (hs : s < 1024) : Calls Tryd.prog 90 #[.int .u64 (s : Nat)] w (Same (.int .i64 (sizeS s : Nat)) w) := by
  have hc := Lib.hid fun W : World => c_Ones s W hs
  go_enter Tryd.func90, Tryd.ntmps90
  go_wp2_with (go_at_call 129; (with_reducible refine (hc.out _).mono ?_); rintro e w3 ⟨rfl, rfl⟩)
  go_ret
  exact ⟨rfl, rfl⟩
/-- The list of a set begins with the lowest number, and goes on with the others. -/
theorem list_step : ∀ s : Nat, s < 1024 → s ≠ 0 → listS s = ((Lib.ctz 64 s : Nat) : Int) :: listS (s &&& (s - 1)) ∧ s &&& (s - 1) < s := by decide +kernel
theorem list_zero : listS 0 = [] := by decide
theorem setL_len (s : Nat) : ∀ k, (setL s k).length ≤ k
  | 0 => Nat.le_refl 0
  | k + 1 => by
    have := setL_len s k
    rw [setL, List.length_append]
    split <;> simp <;> omega
theorem listS_len (s : Nat) : (listS s).length ≤ 10 := setL_len s 10
set_option maxHeartbeats 4000000 in
theorem c_list (s : Nat) (w : World) (hs : s < 1024) (hT : Tab w) : Calls Tryd.prog 87 #[.int .u64 (s : Nat)] w (RetI (listS s) w) := by
  obtain ⟨i0, hi, hz0, hz1, hz2⟩ := info_parts infoI
  have HT := Lib.hid hT
  clear hT
  have htot := listS_len s
  have hst := Lib.hid list_step
  have hs0 := Lib.hid hs
  go_enter Tryd.func87, Tryd.ntmps87
  go_wp2
  go_loopw [0, 3] (fun x v wr => ∃ (r : Nat) (d : List Int), x = .int .u64 (r : Nat) ∧ r < 1024 ∧ d ++ listS r = listS s ∧ Below w.heap.size w wr ∧ wr.ownsRow w.heap.size 3 1 v d.length (d.map (.int .i64))) (fun x _ _ => (intOf x).toNat)
  case atStart => exact ⟨s, [], rfl, hs0.out, rfl, Below.refl _ _, World.ownsRow_nil _ _ _ _⟩
  case round =>
    obtain ⟨r, d, rfl, hr, hd, hb, hown⟩ := hrel
    by_cases h0 : r = 0
    · subst h0
      have hd' : Hid (d = listS s) := Lib.hid (by rw [← hd, list_zero, List.append_nil])
      clear hd
      replace hown := Lib.hid hown
      go_wp2
      go_ret
      exact RetI.of hb (by rw [← hd'.out]; exact hown.out)
    · have h0' : ((r : Int) != 0) = true := by simp; omega
      obtain ⟨h1, h2⟩ := hst.out r hr h0
      have hdl : d.length ≤ 10 := by
        have := congrArg List.length hd
        rw [List.length_append] at this
        omega
      have hand := u64_and_nat r (r - 1) (by omega) (by omega)
      rw [show ((r - 1 : Nat) : Int) = (r : Int) - 1 by omega] at hand
      have htz := Lib.hid fun W (hb : Below w.heap.size w W) => c_tz r W h0 hr (HT.out.below hb)
      rw [h1] at hd
      generalize Lib.ctz 64 r = z at *
      generalize r &&& (r - 1) = r' at *
      replace hand := Lib.hid hand
      replace hd : Hid ((d ++ [(z : Int)]) ++ listS r' = listS s) := Lib.hid (by rw [← hd]; simp)
      clear h1
      replace hown := Lib.hid hown
      have hsz := hb.size
      go_wp2_with (first | (go_at_call 128; (with_reducible refine (htz.out _ hb).mono ?_); rintro e w3 ⟨rfl, rfl⟩) | (at_builtin; refine wpList_append_own _ rfl _ _ 22 rfl w.heap.size 3 i0 (.int .i64 0) 1 8 Tryd.underlying22 hi hz0 hz1 hz2 rfl (by decide) _ _ _ rfl (hown.out.alloc _) ⟨wr.heap.size, 0, none⟩ 1 1 [.int .i64 z] rfl rfl ?c1 ?c2 ?c3 ?c4 ?c5 ?_))
      case c1 =>
        intro j u hj
        match j, hj with
        | 0, hj => simp at hj; subst hj; simp [Addr.add]
      case c2 => intro u hu; simp at hu; subst hu; rfl
      case c3 => unfold maxLen; omega
      case c4 => omega
      case c5 => simp; omega
      intro v' w1 hown' hgrow _
      have hb1 : Below w.heap.size w w1 := (bl_al _ hb).grown hgrow (by simp; omega) (own_ge hown.out)
      clear hgrow hown
      replace hown' := Lib.hid hown'
      go_wp2_with (simp only [hand.out])
      go_roundw
      case rel => exact ⟨r', d ++ [(z : Int)], rfl, by omega, hd.out, hb1, by simpa using hown'.out⟩
      case measure => simp [intOf]; omega
theorem or_step (m k : Nat) (hm : m < 1024) (hk : k ≤ 62) : bits .or .u64 (m : Int) (IntKind.u64.wrap (2 ^ k)) = ((m ||| 2 ^ k : Nat) : Int) := by
  have h1 : (2 : Nat) ^ k ≤ 2 ^ 62 := Nat.pow_le_pow_right (by decide) hk
  have e : ((2 : Int) ^ k) = ((2 ^ k : Nat) : Int) := by simp
  have h2 : (2 : Nat) ^ 62 = 4611686018427387904 := by decide
  have h3 := Nat.two_pow_pos k
  rw [e, IntWalk.u64_in _ (by omega)]
  exact u64_or_nat m (2 ^ k) (by omega) (by omega)
theorem or_bd {m k : Nat} (hm : m < 1024) (hk : k < 10) : m ||| 2 ^ k < 1024 := Nat.or_lt_two_pow (n := 10) hm (Nat.pow_lt_pow_right (by decide) hk)
theorem setN_snoc (l : List Int) (n : Int) : setN (l ++ [n]) = setN l ||| 2 ^ n.toNat := by simp [setN, List.foldl_append]
theorem setN_lt {l : List Int} (h : ∀ n ∈ l, 0 ≤ n ∧ n < 10) : setN l < 1024 := by
  suffices H : ∀ (l : List Int) (s : Nat), s < 1024 → (∀ n ∈ l, 0 ≤ n ∧ n < 10) → l.foldl (fun s n => s ||| 2 ^ n.toNat) s < 1024 from H l 0 (by decide) h
  intro l
  induction l with
  | nil => exact fun s hs _ => hs
  | cons x l ih =>
    intro s hs hl
    have := hl x (by simp)
    exact ih _ (or_bd hs (by omega)) fun n hn => hl n (by simp [hn])
set_option maxHeartbeats 2000000 in
theorem c_setOf (l : List Int) (A : Option Addr) (c : Nat) (w : World) (hr : Sl cI 1 w A l) (hl : l.length ≤ 1000000) (hb : ∀ n ∈ l, 0 ≤ n ∧ n < 10) : Calls Tryd.prog 111 #[.slice A l.length c] w (Same (.int .u64 (setN l : Nat)) w) := by
  have Hr := Lib.hid hr
  clear hr
  have hlt := Lib.hid fun k => setN_lt (l := l.take k) fun n hn => hb n (List.mem_of_mem_take hn)
  have hst := Lib.hid fun k (n : Nat) (h : l[k]? = some (n : Int)) => (show setN (l.take (k + 1)) = setN (l.take k) ||| 2 ^ n by rw [List.take_add_one, h]; exact setN_snoc _ _)
  have h0 : Hid (setN (l.take 0) = 0) := rfl
  have hend : Hid (setN (l.take l.length) = setN l) := Lib.hid (by rw [List.take_length])
  have hbd := Lib.hid fun k x (hx : l[k]? = some x) => hb x (List.mem_of_getElem? hx)
  obtain ⟨g, hg⟩ : ∃ g : Nat → Nat, ∀ k, setN (l.take k) = g k := ⟨_, fun _ => rfl⟩
  simp only [hg] at hlt hst h0 hend
  clear hg hb
  obtain ⟨n, Hn⟩ : ∃ n, Hid (l.length = n) := ⟨_, rfl⟩
  rw [Hn.out] at hl hend ⊢
  go_enter Tryd.func111, Tryd.ntmps111
  go_wp2
  go_loop [3, 8] (fun o i => ∃ k : Nat, k ≤ n ∧ i = .int .i64 k ∧ o = .int .u64 (g k : Nat)) (fun _ i => n - (intOf i).toNat)
  case atStart => exact ⟨0, Nat.zero_le _, rfl, by rw [h0.out]; rfl⟩
  case round =>
    obtain ⟨k, hk, rfl, rfl⟩ := hrel
    by_cases hltn : k < n
    · have hx : l[k]? = some (l[k]'(by rw [Hn.out]; exact hltn)) := List.getElem?_eq_getElem _
      generalize l[k]'(by rw [Hn.out]; exact hltn) = x at hx
      have hxb := hbd.out k x hx
      obtain ⟨m, rfl⟩ : ∃ m : Nat, x = m := ⟨x.toNat, by omega⟩
      obtain ⟨b, off, rfl, hc⟩ := Hr.out k _ hx
      have c0 : w.cell? ⟨b, off + k, none⟩ = some (.int .i64 m) := by simpa using hc 0 _ rfl
      have hs := Lib.hid (hst.out k m hx)
      have hor := Lib.hid (or_step (g k) m (hlt.out k) (by omega))
      clear hc hx
      go_wp2_with (simp only [hor.out])
      go_round
      case rel => exact ⟨k + 1, by omega, by go_num, by rw [hs.out]⟩
      case measure => simp [intOf]; omega
    · go_wp2
      go_ret
      have : k = n := by omega
      exact ⟨by rw [this, hend.out] <;> rfl, rfl⟩
end Go.Proofs.YtdlmkblmljhbfaaDoor
namespace Go.Proofs.YtdlmkblmljhbfaaDoor
set_option linter.unusedSimpArgs false
set_option linter.unusedVariables false
open Go.RowKit Go.Shelf
attribute [local go_sem] bl_al bl_drew bl_drewN bl_refl bx_al bx_drew bx_drewN bx_refl
set_option maxRecDepth 20000
theorem c_netErr (n : Nt) (Ap Af Am : Option Addr) (cp cf cm : Nat) (w : World) (hn : NtIn n Ap Af Am cp cf cm w) :
    Calls Tryd.prog 85 #[vNt Ap Af Am n.ps.length n.fs.length n.ms.length cp cf cm] w (Ret (.int .i64 (netErr n)) w) := by
  have hc := Lib.hid fun W (hb : Below w.heap.size w W) => c_CheckNet n Ap Af Am cp cf cm W (hn.below hb)
  have he : Hid ((netChk n).2 = netErr n) := rfl
  clear hn
  change Calls Tryd.prog 85 #[.agg #[.slice Ap n.ps.length cp, .slice Af n.fs.length cf, .slice Am n.ms.length cm]] w _
  dsimp only [vNt, aNt] at hc
  generalize netChk n = P at *
  obtain ⟨p, q⟩ := P
  dsimp only at *
  rw [← he.out]
  clear he
  generalize n.ps.length = np at *
  generalize n.fs.length = nf at *
  generalize n.ms.length = nm at *
  go_enter Tryd.func85, Tryd.ntmps85
  go_upto_region 1 with fail
  first
  | apply absB1 (w0 := w) (g0 := w.heap.size)
  | apply absTB1 (w0 := w) (g0 := w.heap.size)
  | apply absIB1 (w0 := w) (g0 := w.heap.size)
  iterate 2 (focus ((with_reducible (repeat' (first | assumption | apply jA | apply jB | apply jC | apply jD | apply jE | apply jF | apply hb3 | apply jG | apply jH | apply jI | apply jJ | apply jK | apply hb3x | (apply jL; first | (simp; done) | rfl) | apply jM | apply jN | apply jO | apply jP | apply jQ | apply jR | apply jS | apply jT (hb := hb3 _ (jA _)) | omega | (simp; done) | (simp; omega) | (dsimp only; omega)))); done))
  intro wa hb0' k0'
  (try simp only [List.setIfInBounds_toArray, List.set_cons_zero, List.set_cons_succ] at k0')
  try clear hb3
  try clear hb0
  try clear k0
  have hb0 := hb0'; clear hb0'
  have k0 := k0'; clear k0'
  have L0 := k0.cell
  go_wp2_with fail
  refine (hc.out wa hb0).mono ?_
  rintro e w3 ⟨rfl, hb3⟩
  replace hb0 := bl_tr hb0 hb3
  go_wp2
  go_ret
  exact ⟨rfl, hb0⟩
theorem c_works1 (r : Rw) (failed : Nat) (B : Nat) (w : World) (hr : RwIn r w) (hb : ∀ n ∈ r.l, 0 ≤ n ∧ n < 10) (hf : failed < 1024) (kb : Blk w B 132 #[.int .u64 failed]) :
    Calls Tryd.prog 145 #[vRw r, .pointer (some ⟨B, 0, none⟩)] w (Ret (.bool (setN r.l &&& failed == 0)) w) := by
  have hc := Lib.hid fun W (hb' : Below w.heap.size w W) => c_setOf r.l r.A r.c W (hr.sl.below hb') (Nat.le_trans hr.len (by decide)) hb
  have hlt := setN_lt hb
  clear hr hb
  change Calls Tryd.prog 145 #[.slice r.A r.l.length r.c, .pointer (some ⟨B, 0, none⟩)] w _
  generalize setN r.l = s at *
  have hand := u64_and_nat s failed (by omega) (by omega)
  generalize r.l.length = n at *
  go_enter Tryd.func145, Tryd.ntmps145
  go_upto_region 1 with fail
  first
  | apply absB1 (w0 := w) (g0 := B)
  | apply absTB1 (w0 := w) (g0 := B)
  | apply absIB1 (w0 := w) (g0 := B)
  iterate 2 (focus ((with_reducible (repeat' (first | assumption | apply jA | apply jB | apply jC | apply jD | apply jE | apply jF | apply hb3 | apply jG | apply jH | apply jI | apply jJ | apply jK | apply hb3x | (apply jL; first | (simp; done) | rfl) | apply jM | apply jN | apply jO | apply jP | apply jQ | apply jR | apply jS | apply jT (hb := hb3 _ (jA _)) | omega | (simp; done) | (simp; omega) | (dsimp only; omega)))); done))
  intro wa hb0' kb'
  (try simp only [List.setIfInBounds_toArray, List.set_cons_zero, List.set_cons_succ] at kb')
  try clear hb3
  try clear hb0
  try clear kb
  have hb0 := hb0'; clear hb0'
  have kb := kb'; clear kb'
  have Lkb := kb.later
  have Fkb := kb.laterF
  have Qkb := kb.lt
  refine wp_any (w0 := wa) ⟨[], [], [some 4, some 5, some 6, some 7, some 8, some 3], [[], [0], [], [0, 1, 2], [0, 1, 2, 3], [0, 1, 2, 3, 4]], [[], [0], [], [1, 2], [3], [4]]⟩ (fun _ => []) (by kernel_rfl) (by kernel_rfl) (by (with_reducible (repeat' (first | assumption | apply jA | apply jB | apply jC | apply jD | apply jE | apply jF | apply hb3 | omega | (simp; done) | (simp; omega) | (dsimp only; omega))))) (fun u => by simp only [putD, Act.put, List.setIfInBounds_toArray, List.set_cons_zero, List.set_cons_succ, Nat.zero_add, Nat.reduceAdd]; rfl) ?_
  apply RGW.on (i := 0) rfl
  · (simp only [gA, gB, gC] <;> rfl)
  · intro γ u W hcur hd
    clear hd
    (try dsimp only)
    refine ⟨rfl, ?_⟩
    go_simp <;> (try go_bits) <;> with_reducible rfl
  · exact fun _ _ _ => rfl
  · rfl
  dsimp only [nA, cA]
  apply RGW.call (i := 1) rfl
  · (simp only [gA, gB, gC] <;> rfl)
  · intro γ u W hcur hd
    obtain ⟨⟨h0, -, -⟩, -⟩ := hd
    dsimp only at h0
    (try simp only [h0])
    refine ⟨rfl, fun K hK => ?_⟩
    go_simp
    (go_at_call 111; (with_reducible refine (hc.out _ (bl_tr hb0 hcur)).mono ?_); rintro e w3 ⟨rfl, rfl⟩)
    (try dsimp only)
    exact hK.out _ _ rfl (by (with_reducible (repeat' (first | assumption | apply jA | apply jB | apply jC | apply jD | apply jE | apply jF | apply hb3 | omega | (simp; done) | (simp; omega) | (dsimp only; omega)))))
  · exact fun _ _ _ => rfl
  · rfl
  dsimp only [nA, cA]
  apply RGW.on (i := 2) rfl
  · (simp only [gA, gB, gC] <;> rfl)
  · intro γ u W hcur hd
    clear hd
    (try dsimp only)
    refine ⟨rfl, ?_⟩
    go_simp <;> (try go_bits) <;> with_reducible rfl
  · exact fun _ _ _ => rfl
  · rfl
  dsimp only [nA, cA]
  apply RGW.on (i := 3) rfl
  · (simp only [gA, gB, gC] <;> rfl)
  · intro γ u W hcur hd
    obtain ⟨⟨h1, -, -⟩, ⟨h2, -, -⟩, -⟩ := hd
    dsimp only at h1 h2
    (try simp only [h1, h2])
    refine ⟨rfl, ?_⟩
    go_simp <;> (try go_bits) <;> with_reducible rfl
  · exact fun _ _ _ => rfl
  · rfl
  dsimp only [nA, cA]
  apply RGW.on (i := 4) rfl
  · (simp only [gA, gB, gC] <;> rfl)
  · intro γ u W hcur hd
    obtain ⟨⟨h3, -, -⟩, -⟩ := hd
    dsimp only at h3
    (try simp only [h3])
    refine ⟨rfl, ?_⟩
    go_simp <;> (try go_bits) <;> with_reducible rfl
  · exact fun _ _ _ => rfl
  · rfl
  dsimp only [nA, cA]
  apply RGW.on (i := 5) rfl
  · (simp only [gA, gB, gC] <;> rfl)
  · intro γ u W hcur hd
    obtain ⟨⟨h4, -, -⟩, -⟩ := hd
    dsimp only at h4
    (try simp only [h4])
    refine ⟨rfl, ?_⟩
    go_simp <;> (try go_bits) <;> with_reducible rfl
  · exact fun _ _ _ => rfl
  · rfl
  dsimp only [nA, cA]
  refine RGW.fin (fun γ u wb hwb hd hdis => ?_)
  obtain ⟨⟨h0, -, -⟩, ⟨h1, -, -⟩, ⟨h2, -, -⟩, ⟨h3, -, -⟩, ⟨h4, -, -⟩, ⟨h5, -, -⟩, -⟩ := hd
  dsimp only at h0 h1 h2 h3 h4 h5
  clear hdis
  simp only [h0, h1, h2, h3, h4, h5]
  clear h5 h4 h3 h2 h1 h0
  clear u
  simp only [List.map_nil]
  refine PlanW.done ?_
  have hb3 := bl_tt hwb
  go_wp2
  go_ret
  refine ⟨?_, by (with_reducible (repeat' (first | assumption | apply jA | apply jB | apply jC | apply jD | apply jE | apply jF | apply hb3 | omega | (simp; done) | (simp; omega) | (dsimp only; omega))))⟩
  generalize s &&& failed = q
  cases q <;> rfl
/-- The ways of a function name parts below ten. -/
def FuOk (f : Fu) : Prop := ∀ r ∈ f.ws, ∀ n ∈ r.l, 0 ≤ n ∧ n < 10
theorem c_works (f : Fu) (failed : Nat) (w : World) (hf : FuIn f w) (hok : FuOk f) (hlt : failed < 1024) :
    Calls Tryd.prog 127 #[vFu f, .int .u64 failed] w (Ret (.bool (worksB f failed)) w) := by
  have hc := Lib.hid fun (B : Nat) (W : World) (hb : Below w.heap.size w W) (kb : Blk W B 132 #[.int .u64 failed]) =>
    c_ContainsFuncW 145 #[.pointer (some ⟨B, 0, none⟩)] (fun r => setN r.l &&& failed == 0) f.A f.ws f.c W (Nat.le_trans hf.len (by decide)) (enters_of Tryd.func145 (by kernel_rfl) rfl)
      (fun r hr W' hb' => c_works1 r failed B W' (((hf.rows r hr).below hb).below hb') (hok r hr) hlt (kb.below hb')) (hf.sl.below hb)
  have he : Hid ((f.ws.any fun r => setN r.l &&& failed == 0) = worksB f failed) := rfl
  clear hf hok
  change Calls Tryd.prog 127 #[.agg #[.string f.name, .slice f.A f.ws.length f.c], .int .u64 failed] w _
  rw [he.out] at hc
  generalize f.ws.length = n at *
  go_enter Tryd.func127, Tryd.ntmps127
  go_upto_region 1 with fail
  first
  | apply absB2 (w0 := w) (g0 := w.heap.size) (g1 := w.heap.size + 1)
  | apply absTB2 (w0 := w) (g0 := w.heap.size) (g1 := w.heap.size + 1)
  | apply absIB2 (w0 := w) (g0 := w.heap.size) (g1 := w.heap.size + 1)
  iterate 3 (focus ((with_reducible (repeat' (first | assumption | apply jA | apply jB | apply jC | apply jD | apply jE | apply jF | apply hb3 | apply jG | apply jH | apply jI | apply jJ | apply jK | apply hb3x | (apply jL; first | (simp; done) | rfl) | apply jM | apply jN | apply jO | apply jP | apply jQ | apply jR | apply jS | apply jT (hb := hb3 _ (jA _)) | omega | (simp; done) | (simp; omega) | (dsimp only; omega)))); done))
  intro wa hb0' k0' k1'
  (try simp only [List.setIfInBounds_toArray, List.set_cons_zero, List.set_cons_succ] at k0' k1')
  try clear hb3
  try clear hb0
  try clear k0
  try clear k1
  have hb0 := hb0'; clear hb0'
  have k0 := k0'; clear k0'
  have k1 := k1'; clear k1'
  have L0 := k0.cell
  go_wp2_with fail
  refine (hc.out (w.heap.size + 1) wa hb0 k1).mono ?_
  rintro e w3 ⟨rfl, hb3⟩
  replace hb0 := bl_tr hb0 hb3
  go_wp2
  go_ret
  exact ⟨rfl, hb0⟩
theorem cutTo_lt (f : Fu) (b : Nat) : ∀ k, b < 1024 → k ≤ 1024 → cutTo f b k < 1024
  | 0, h, _ => h
  | k + 1, h, hk => by
    rw [cutTo]
    split
    · omega
    · exact cutTo_lt f b k h (by omega)
set_option maxHeartbeats 4000000 in
theorem c_cut (f : Fu) (parts : Nat) (w : World) (hf : FuIn f w) (hok : FuOk f) (hp : parts ≤ 10) (hT : Tab w) :
    Calls Tryd.prog 86 #[vFu f, .int .i64 parts] w (Ret (.int .u64 (cutS f parts : Nat)) w) := by
  have hw := Lib.hid fun (k : Nat) (hk : k < 1024) W (hb : Below w.heap.size w W) => c_works f k W (hf.below hb) hok hk
  have hl := Lib.hid fun (k : Nat) (hk : k < 1024) W (hb : Below w.heap.size w W) => c_list k W hk (hT.below hb)
  have hN : 2 ^ parts ≤ 1024 := Nat.le_trans (Nat.pow_le_pow_right (by decide) hp) (by decide)
  have h1 := Nat.two_pow_pos parts
  have hlt := Lib.hid fun k (hk : k ≤ 1024) => cutTo_lt f (2 ^ parts - 1) k (by omega) hk
  have hend : Hid (cutTo f (2 ^ parts - 1) (2 ^ parts) = cutS f parts) := rfl
  have h0 : Hid (cutTo f (2 ^ parts - 1) 0 = 2 ^ parts - 1) := rfl
  have hst := Lib.hid fun k => (show cutTo f (2 ^ parts - 1) (k + 1) = if smallB k (cutTo f (2 ^ parts - 1) k) && !worksB f k then k else cutTo f (2 ^ parts - 1) k from rfl)
  have hsh : IntKind.u64.wrap (2 ^ parts) = ((2 ^ parts : Nat) : Int) := by
    have : ((2 : Int) ^ parts) = ((2 ^ parts : Nat) : Int) := by simp
    rw [this, IntWalk.u64_in _ (by omega)]
  generalize worksB f = wk at *
  clear hf hok hT
  obtain ⟨g, hg⟩ : ∃ g : Nat → Nat, ∀ k, cutTo f (2 ^ parts - 1) k = g k := ⟨_, fun _ => rfl⟩
  simp only [hg] at hlt hst h0 hend
  clear hg
  change Calls Tryd.prog 86 #[.agg #[.string f.name, .slice f.A f.ws.length f.c], .int .i64 parts] w _
  dsimp only [vFu] at hw
  generalize f.ws.length = n at *
  generalize cutS f parts = cs at *
  go_enter Tryd.func86, Tryd.ntmps86
  go_upto_region 1 with fail
  first
  | apply absB1 (w0 := w) (g0 := w.heap.size)
  | apply absTB1 (w0 := w) (g0 := w.heap.size)
  | apply absIB1 (w0 := w) (g0 := w.heap.size)
  iterate 2 (focus ((with_reducible (repeat' (first | assumption | apply jA | apply jB | apply jC | apply jD | apply jE | apply jF | apply hb3 | apply jG | apply jH | apply jI | apply jJ | apply jK | apply hb3x | (apply jL; first | (simp; done) | rfl) | apply jM | apply jN | apply jO | apply jP | apply jQ | apply jR | apply jS | apply jT (hb := hb3 _ (jA _)) | omega | (simp; done) | (simp; omega) | (dsimp only; omega)))); done))
  intro wa hb0' k0'
  (try simp only [List.setIfInBounds_toArray, List.set_cons_zero, List.set_cons_succ] at k0')
  try clear hb3
  try clear hb0
  try clear k0
  have hb0 := hb0'; clear hb0'
  have k0 := k0'; clear k0'
  go_wp2
  have e1 : ((2 : Int) ^ parts) = ((2 ^ parts : Nat) : Int) := by simp
  simp only [e1]
  clear e1 hsh
  generalize 2 ^ parts = N at *
  have e2 : IntKind.u64.wrap ((N : Int) - 1) = ((N - 1 : Nat) : Int) := by rw [IntWalk.u64_in _ (by omega)]; omega
  simp only [e2]
  go_loopw [5, 13] (fun o i wr => ∃ k : Nat, k ≤ N ∧ i = .int .u64 k ∧ o = .int .u64 (g k : Nat) ∧ Below w.heap.size w wr ∧ Blk wr w.heap.size 129 #[.string f.name, .slice f.A n f.c]) (fun _ i _ => N - (intOf i).toNat)
  case atStart => exact ⟨0, Nat.zero_le _, rfl, by rw [h0.out], hb0, k0⟩
  case round =>
    clear e2 h0
    clear hb0 k0
    obtain ⟨k, hk, rfl, rfl, hb0, k0⟩ := hrel
    have hbk := hlt.out k (by omega)
    by_cases hkN : k < N
    rotate_left
    · go_wp2
      go_ret
      have : k = N := by omega
      exact ⟨by rw [this, hend.out] <;> rfl, hb0⟩
    have hs := hst.out k
    generalize g k = b at *
    have hk2 : k < 1024 := by omega
    have hS1 : sizeS k < sizeS b → smallB k b = true := fun c1 => by simp [smallB, c1]
    have hS2 : ¬ sizeS k < sizeS b → ¬ sizeS k = sizeS b → smallB k b = false := fun c1 c2 => by simp [smallB, c1, c2]
    have hS3 : ¬ sizeS k < sizeS b → sizeS k = sizeS b → smallB k b = decide (cmpL (listS k) (listS b) < 0) := fun c1 c2 => by simp [smallB, c2, cmpL_lt]
    have hll := Lib.hid fun s => listS_len s
    cases hwk : wk k
    all_goals
      have hwc := Lib.hid fun W hb => hw.out k hk2 W hb
      rw [hwk] at hs hwc
      clear hwk
      by_cases c1 : sizeS k < sizeS b
      · rw [hS1 c1] at hs
        simp only [Bool.and_true, Bool.and_false, Bool.not_true, Bool.not_false, Bool.true_and, Bool.false_and, if_true, if_false, Bool.false_eq_true] at hs
        clear hS1 hS2 hS3
        have hb9 := hb0
        have L0 := k0.cell
        go_wp2_with (first | (go_at_call 90; (with_reducible refine (c_size _ _ (by omega)).mono ?_); rintro e w3 ⟨rfl, rfl⟩) | (go_at_call 127; (with_reducible refine (hwc.out _ hb0).mono ?_); rintro e w3 ⟨rfl, hb3⟩))
        all_goals
          try (exfalso; omega)
          try replace hb0 := bl_tr hb0 hb3
          try replace k0 := k0.below hb3
          go_roundw
          case rel => exact ⟨k + 1, by omega, by go_num, by rw [hs] <;> rfl, hb0, k0⟩
          case measure => simp [intOf]; omega
      · by_cases c2 : sizeS k = sizeS b
        · rw [hS3 c1 c2] at hs
          clear hS1 hS2 hS3
          go_wp2_with ((go_at_call 90; (with_reducible refine (c_size _ _ (by omega)).mono ?_); rintro e w3 ⟨rfl, rfl⟩))
          refine (hl.out k hk2 wr hb0).mono ?_
          rintro e w4 ⟨A1, n1, rfl, hb4, ho1⟩
          replace hb0 := bl_tr hb0 hb4
          replace k0 := k0.below hb4
          go_wp2_with fail
          refine (hl.out b hbk w4 hb0).mono ?_
          rintro e w5 ⟨A2, n2, rfl, hb5, ho2⟩
          replace hb0 := bl_tr hb0 hb5
          replace k0 := k0.below hb5
          go_wp2_with fail
          refine (c_Compare (listS k) (listS b) A1 A2 n1 n2 w5 ((own_sl ho1).below hb5) (own_sl ho2) (Nat.le_trans (hll.out k) (by decide)) (Nat.le_trans (hll.out b) (by decide))).mono ?_
          rintro e w6 ⟨rfl, hb6⟩
          replace hb0 := bl_tr hb0 hb6
          replace k0 := k0.below hb6
          clear hb4 hb5 hb6 ho1 ho2 hl hll
          generalize cmpL (listS k) (listS b) = cm at *
          generalize (listS k).length = lk at *
          generalize (listS b).length = lb at *
          by_cases c3 : cm < 0
          all_goals
            simp only [c3, decide_true, decide_false, Bool.and_true, Bool.and_false, Bool.not_true, Bool.not_false, Bool.true_and, Bool.false_and, if_true, if_false, Bool.false_eq_true] at hs
            have L0 := k0.cell
            go_wp2_with ((go_at_call 127; (with_reducible refine (hwc.out _ hb0).mono ?_); rintro e w3 ⟨rfl, hb3⟩))
            all_goals
              try (exfalso; omega)
              try replace hb0 := bl_tr hb0 hb3
              try replace k0 := k0.below hb3
              go_roundw
              case rel => exact ⟨k + 1, by omega, by go_num, by rw [hs] <;> rfl, hb0, k0⟩
              case measure => simp [intOf]; omega
        · rw [hS2 c1 c2] at hs
          simp only [Bool.and_true, Bool.and_false, Bool.not_true, Bool.not_false, Bool.true_and, Bool.false_and, if_true, if_false, Bool.false_eq_true] at hs
          clear hS1 hS2 hS3
          have L0 := k0.cell
          go_wp2_with (first | (go_at_call 90; (with_reducible refine (c_size _ _ (by omega)).mono ?_); rintro e w3 ⟨rfl, rfl⟩) | (go_at_call 127; (with_reducible refine (hwc.out _ hb0).mono ?_); rintro e w3 ⟨rfl, hb3⟩))
          all_goals
            try (exfalso; omega)
            try replace hb0 := bl_tr hb0 hb3
            try replace k0 := k0.below hb3
            go_roundw
            case rel => exact ⟨k + 1, by omega, by go_num, by rw [hs] <;> rfl, hb0, k0⟩
            case measure => simp [intOf]; omega
theorem idxErr_ok {l : List Int} {count : Int} (h : idxErr l count = 0) : ∀ x ∈ l, 0 ≤ x ∧ x < count := fun x hx => by
  obtain ⟨k, hk⟩ := List.mem_iff_getElem?.1 hx
  have := eachS_ok _ l 0 h k x hk
  have h1 := ((fst_cons _ _).1 this).1
  have h2 := (unl_zero (by decide)).1 h1
  simp [inR] at h2
  omega
theorem waysE_ok {parts : Int} : ∀ (ws : List Rw) (e : Int), waysE parts e ws = 0 → e = 0 ∧ ∀ r ∈ ws, idxErr r.l parts = 0
  | [], e, h => ⟨h, by simp⟩
  | r :: ws, e, h => by
    obtain ⟨h1, h2⟩ := waysE_ok ws _ h
    obtain ⟨h3, h4⟩ := (fst_cons _ _).1 h1
    obtain ⟨h5, h6⟩ := (fst_cons _ _).1 h4
    obtain ⟨h7, -⟩ := (fst_cons _ _).1 h6
    refine ⟨h3, fun r' hr => ?_⟩
    rcases List.mem_cons.1 hr with rfl | hr
    · exact h7
    · exact h2 r' hr
theorem netErr_ok {n : Nt} (h : netErr n = 0) : n.ps.length ≤ 10 ∧ n.fs.length ≤ 10 ∧ ∀ f ∈ n.fs, ∀ r ∈ f.ws, ∀ x ∈ r.l, 0 ≤ x ∧ x < n.ps.length := by
  unfold netErr netChk at h
  split at h
  · rename_i h0
    split at h
    · split at h
      · rename_i h2
        obtain ⟨a1, a2⟩ := (fst_cons _ _).1 h0
        obtain ⟨a3, -⟩ := (fst_cons _ _).1 a2
        have a4 := (unl_zero (by decide)).1 a3
        simp at a4
        refine ⟨by omega, by omega, fun f hf r hr x hx => ?_⟩
        obtain ⟨k, hk⟩ := List.mem_iff_getElem?.1 hf
        have b1 := eachS_ok _ n.fs 0 h2 k f hk
        exact idxErr_ok ((waysE_ok f.ws _ b1).2 r hr) x hx
      · rename_i h2
        exact absurd h h2
    · rename_i h1
      exact absurd h h1
  · rename_i h0
    exact absurd h h0
end Go.Proofs.YtdlmkblmljhbfaaDoor
namespace Go.Proofs.YtdlmkblmljhbfaaDoor
set_option linter.unusedSimpArgs false
set_option linter.unusedVariables false
def upF {α : Type} (f : Nat → α) (i : Nat) (v : α) : Nat → α := fun j => if j = i then v else f j
/-- The messages that wait (when sent, how many frames are left), the worst responses. -/
structure Ss where
  q : Nat → List (Int × Int)
  wo : Nat → Int
def ss0 : Ss := ⟨fun _ => [], fun _ => 0⟩
/-- Whether a stream sends a message at a tick. -/
def relB (l : List Sm) (st : List Int) (t : Int) (i : Nat) : Bool :=
  match l[i]?, st[i]? with
  | some s, some a => decide (a ≤ t) && decide ((t - a) % s.per = 0)
  | _, _ => false
def lenAt (l : List Sm) (i : Nat) : Int := match l[i]? with
  | some s => s.len
  | none => 0
def dlAt (l : List Sm) (i : Nat) : Int := match l[i]? with
  | some s => s.dl
  | none => 0
def sendS (l : List Sm) (st : List Int) (t : Int) (q : Nat → List (Int × Int)) : Nat → List (Int × Int) := fun i => if relB l st t i then q i ++ [(t, lenAt l i)] else q i
/-- The first of so many streams that has frames left, from a number on. -/
def prioFrom (q : Nat → List (Int × Int)) : Nat → Nat → Int
  | 0, _ => -1
  | n + 1, i => if (q i).isEmpty then prioFrom q n (i + 1) else (i : Int)
def prioS (q : Nat → List (Int × Int)) : Int := prioFrom q 6 0
/-- The stream with the earliest deadline among the first ones, and this deadline. -/
def dlTo (l : List Sm) (q : Nat → List (Int × Int)) : Nat → Int × Int
  | 0 => (-1, 0)
  | k + 1 => match q k with
    | [] => dlTo l q k
    | (a, _) :: _ => if (dlTo l q k).1 = -1 ∨ a + dlAt l k < (dlTo l q k).2 then ((k : Int), a + dlAt l k) else dlTo l q k
def dlS (l : List Sm) (q : Nat → List (Int × Int)) : Int := (dlTo l q 6).1
/-- One tick: what is sent, and what is carried. -/
def carS (ch : (Nat → List (Int × Int)) → Int) (l : List Sm) (st : List Int) (t : Int) (s : Ss) : Ss × Int :=
  if ch (sendS l st t s.q) = -1 then (⟨sendS l st t s.q, s.wo⟩, -1) else
    match sendS l st t s.q (ch (sendS l st t s.q)).toNat with
    | [] => (⟨sendS l st t s.q, s.wo⟩, ch (sendS l st t s.q))
    | (a, k) :: r =>
      if k - 1 = 0 then (⟨upF (sendS l st t s.q) (ch (sendS l st t s.q)).toNat r, upF s.wo (ch (sendS l st t s.q)).toNat (max (s.wo (ch (sendS l st t s.q)).toNat) (t - a + 1))⟩, ch (sendS l st t s.q))
      else (⟨upF (sendS l st t s.q) (ch (sendS l st t s.q)).toNat ((a, k - 1) :: r), s.wo⟩, ch (sendS l st t s.q))
def runS (ch : (Nat → List (Int × Int)) → Int) (l : List Sm) (st : List Int) : Nat → Ss × List Int
  | 0 => (ss0, [])
  | t + 1 => ((carS ch l st t (runS ch l st t).1).1, (runS ch l st t).2 ++ [(carS ch l st t (runS ch l st t).1).2])
/-- The error of starts and ticks. -/
def stE (l : List Sm) (st : List Int) (t : Int) : Int :=
  fstE [(if fstE [smsErr l, unl (decide ((st.length : Int) = l.length)) 10] = 0 then (eachS (fun _ n => unl (inR n 0 400) 2) st 0).2 else fstE [smsErr l, unl (decide ((st.length : Int) = l.length)) 10]), unl (inR t 0 400) 2]
/-- A stream's response: the least number at which the demand is met. -/
def respTo (f : Int → Int) : Nat → Int → Option Int
  | 0, _ => none
  | n + 1, r => if f r = r then some r else respTo f n (r + 1)
def respS (before : List Sm) (s : Sm) : Option Int := respTo (respF before s.len) 10000 1
def respV : Option Int → Int × Bool
  | some r => (r, true)
  | none => (0, false)
end Go.Proofs.YtdlmkblmljhbfaaDoor
namespace Go.Proofs.YtdlmkblmljhbfaaDoor
set_option linter.unusedSimpArgs false
set_option linter.unusedVariables false
open Go.RowKit Go.Shelf
set_option maxRecDepth 20000
def cMg (i : Nat) (x : Int × Int) : List Value := [.int .i64 i, .int .i64 x.1, .int .i64 x.2]
def blA : Option Addr → List Nat
  | none => []
  | some a => [a.block]
abbrev tMg : TypeId := 189
abbrev tMgs : TypeId := 144
def Qu (w : World) (b i : Nat) (A : Option Addr) (c : Nat) (L : List (Int × Int)) : Prop :=
  (A = none ∧ c = 0 ∧ L = []) ∨ ∃ g off cs, A = some ⟨g, off, none⟩ ∧ b ≤ g ∧ Blk w g tMg cs ∧ L.length ≤ c ∧ off + c * 3 ≤ cs.size ∧ ∀ j u, (L.flatMap (cMg i))[j]? = some u → cs[off + j]? = some u
theorem flat_len3 (i : Nat) (L : List (Int × Int)) : (L.flatMap (cMg i)).length = L.length * 3 := flat_len (cMg i) 3 (fun _ => rfl) L
theorem Qu.nil (w : World) (b i : Nat) : Qu w b i none 0 [] := .inl ⟨rfl, rfl, rfl⟩
theorem Qu.keep {w w' : World} {b i c : Nat} {A : Option Addr} {L : List (Int × Int)} {X : List Nat} (h : Qu w b i A c L) (hb : BX X w w') (hX : ∀ g ∈ blA A, g ∉ X) : Qu w' b i A c L := by
  rcases h with h | ⟨g, off, cs, rfl, h1, h2, h3, h4, h5⟩
  · exact .inl h
  · exact .inr ⟨g, off, cs, rfl, h1, h2.keep (hX g (by simp [blA])) hb, h3, h4, h5⟩
theorem Qu.below {w w' : World} {b i c : Nat} {A : Option Addr} {L : List (Int × Int)} (h : Qu w b i A c L) (hb : Below w.heap.size w w') : Qu w' b i A c L := h.keep (bx_bl [] hb) (by simp)
theorem Qu.ge {w : World} {b i c : Nat} {A : Option Addr} {L : List (Int × Int)} (h : Qu w b i A c L) : ∀ g ∈ blA A, b ≤ g ∧ g < w.heap.size := by
  rcases h with ⟨rfl, _⟩ | ⟨g, off, cs, rfl, h1, h2, _⟩
  · simp [blA]
  · intro g' hg'
    simp [blA] at hg'
    subst hg'
    exact ⟨h1, h2.lt⟩
theorem Qu.of {w : World} {b b' i c : Nat} {A : Option Addr} {L : List (Int × Int)} (h : w.ownsRow b' tMg 3 (.slice A L.length c) L.length (L.flatMap (cMg i))) (hb : b ≤ b') : Qu w b i A c L := by
  rcases h.2 with ⟨e, e0⟩ | ⟨g, cap, cur, e1, e2, e3, e4, e5, e6, e7⟩
  · injection e with e1 e2 e3
    subst e1 e3
    exact .inl ⟨rfl, rfl, List.eq_nil_of_length_eq_zero e0⟩
  · injection e1 with e1 _ e8
    subst e1 e8
    refine .inr ⟨g, 0, cur, rfl, by omega, e3, e4, by omega, fun j u hj => ?_⟩
    rw [Nat.zero_add]
    rw [← e7, List.getElem?_take] at hj
    split at hj
    · simpa using hj
    · cases hj
theorem infoMg : (Tryd.prog.info? tMg).map (fun i => (i.zero, i.size, i.bytes)) = some (some (.agg #[.int .i64 0, .int .i64 0, .int .i64 0]), 3, 24) := by kernel_rfl
theorem qu_append {w : World} {b i c : Nat} {A : Option Addr} {L : List (Int × Int)} (h : Qu w b i A c L) (hb : b ≤ w.heap.size) (t n : Int) {ag : Nat}
    (ka : Blk w ag tMg #[.int .i64 i, .int .i64 t, .int .i64 n]) (hL : L.length ≤ 1000) :
    ∃ A' c' w', (Builtin.append_ #[tMgs, tMgs] tMgs #[.slice A L.length c, .slice (some ⟨ag, 0, none⟩) 1 1]).run Tryd.prog w = .ok (.slice A' (L.length + 1) c') w' ∧ Qu w' b i A' c' (L ++ [(t, n)]) ∧ BX (blA A) w w' ∧
      (blA A' = blA A ∨ ∃ g, blA A' = [g] ∧ w.heap.size ≤ g) := by
  obtain ⟨i0, hi, hz0, hz1, hz2⟩ := info_parts infoMg
  have hnews : ∀ j u, (cMg i (t, n))[j]? = some u → w.cell? ((⟨ag, 0, none⟩ : Addr).add j) = some u := by
    intro j u hj
    have hadd : (⟨ag, 0, none⟩ : Addr).add j = ⟨ag, j, none⟩ := by unfold Addr.add; split <;> simp_all
    rw [hadd, ka.cell]
    simpa [cMg] using hj
  have h1 : ∀ u ∈ cMg i (t, n), u.oneCell' = true := by
    intro u hu
    simp [cMg] at hu
    rcases hu with rfl | rfl | rfl <;> rfl
  have hflat : (L ++ [(t, n)]).flatMap (cMg i) = L.flatMap (cMg i) ++ cMg i (t, n) := by simp
  have hlen : (L ++ [(t, n)]).length = L.length + 1 := by simp
  rcases h with ⟨rfl, rfl, rfl⟩ | ⟨g, off, cs, rfl, q1, q2, q3, q4, q5⟩
  · obtain ⟨g, cap, w', r1, r2, r3, r4, r5⟩ := run_append_lies (P := Tryd.prog) w tMgs tMgs b tMg i0 _ 3 24 Tryd.underlying144 hi hz0 hz1 hz2 rfl (by decide) (.slice none 0 0) 0 [] (World.ownsRow_nil w b tMg 3)
      ⟨ag, 0, none⟩ 1 1 (cMg i (t, n)) rfl hnews h1 (by decide) (by unfold maxLen; omega) (by decide) hb _ rfl
    refine ⟨_, _, w', by simpa using r1, ?_, ⟨r3.os, r3.tape, r3.output, r3.size, fun k hk _ => r3.block k hk (by simp [Value.ownBlock]), fun g hg => by simp [blA] at hg⟩, .inr ⟨g, rfl, ?_⟩⟩
    · exact Qu.of (by simpa [hflat] using r2) (Nat.le_refl _)
    · rcases r4 with r4 | r4
      · simp [Value.ownBlock] at r4
      · omega
  · by_cases hroom : L.length + 1 ≤ c
    · have hcell : ∀ j, j < 3 → (w.cell? ⟨g, off + L.length * 3 + j, none⟩).isSome = true := fun j hj => by
        rw [q2.cell]
        have : off + L.length * 3 + j < cs.size := by omega
        simp [this]
      have hr := run_append_room_cells (P := Tryd.prog) w tMgs tMgs tMg i0 Tryd.underlying144 hi g off L.length c ⟨ag, 0, none⟩ 1 1 (cMg i (t, n)) (by rw [hz1]; rfl) hnews h1 hroom
        (fun j hj => by rw [hz1]; exact hcell j hj) (fun j hj => q2.frozen _)
      rw [hz1] at hr
      refine ⟨_, _, _, hr, .inr ⟨g, off, ((cs.setIfInBounds (off + L.length * 3) (.int .i64 i)).setIfInBounds (off + L.length * 3 + 1) (.int .i64 t)).setIfInBounds (off + L.length * 3 + 1 + 1) (.int .i64 n), rfl, q1, ?_, by omega, by simpa using q4, ?_⟩, ?_, .inl rfl⟩
      · exact ((q2.set _ _).set _ _).set _ _
      · intro j u hj
        rw [hflat] at hj
        by_cases hlt : j < L.length * 3
        · rw [List.getElem?_append_left (by rw [flat_len3]; exact hlt)] at hj
          rw [Array.getElem?_setIfInBounds_ne (by omega), Array.getElem?_setIfInBounds_ne (by omega), Array.getElem?_setIfInBounds_ne (by omega)]
          exact q5 j u hj
        · rw [List.getElem?_append_right (by rw [flat_len3]; omega), flat_len3] at hj
          obtain ⟨k, rfl⟩ : ∃ k, j = L.length * 3 + k := ⟨j - L.length * 3, by omega⟩
          rw [Nat.add_sub_cancel_left] at hj
          have hk : k < 3 := (List.getElem?_eq_some_iff.1 hj).1
          have hs : off + L.length * 3 + k < cs.size := by omega
          match k, hk, hj with
          | 0, _, hj => simp [cMg] at hj; subst hj; rw [Array.getElem?_setIfInBounds_ne (by omega), Array.getElem?_setIfInBounds_ne (by omega)]; rw [← Nat.add_assoc, Nat.add_zero, Array.getElem?_setIfInBounds_self_of_lt (by omega)]
          | 1, _, hj => simp [cMg] at hj; subst hj; rw [Array.getElem?_setIfInBounds_ne (by omega)]; rw [← Nat.add_assoc, Array.getElem?_setIfInBounds_self_of_lt (by simp; omega)]
          | 2, _, hj => simp [cMg] at hj; subst hj; rw [← Nat.add_assoc]; exact Array.getElem?_setIfInBounds_self_of_lt (by simp; omega)
      · exact bx_set (.inl (by simp [blA])) _ (bx_set (.inl (by simp [blA])) _ (bx_set (.inl (by simp [blA])) _ (bx_refl _ _)))
    · obtain ⟨v', w', r1, r2, r3⟩ := run_append_arg_grows (P := Tryd.prog) w tMgs tMgs tMg i0 _ 3 24 Tryd.underlying144 hi hz0 hz1 hz2 rfl (by decide) ⟨g, off, none⟩ L.length c (L.flatMap (cMg i)) (flat_len3 i L)
        (fun j u hj => by
          have hadd : (⟨g, off, none⟩ : Addr).add j = ⟨g, off + j, none⟩ := by unfold Addr.add; split <;> simp_all
          rw [hadd, q2.cell]
          exact q5 j u hj) ⟨ag, 0, none⟩ 1 1 (cMg i (t, n)) rfl hnews (by omega) (by unfold maxLen; omega) (by omega)
      obtain ⟨g2, cap, rfl, e2, e3⟩ := r2.form (by omega)
      refine ⟨_, _, w', r1, Qu.of (by simpa [hflat] using r2) hb, bx_bl _ ⟨r3.os, r3.tape, r3.output, r3.size, fun k hk => r3.block k hk (by simp)⟩, .inr ⟨g2, rfl, e2⟩⟩
end Go.Proofs.YtdlmkblmljhbfaaDoor
namespace Go.Proofs.YtdlmkblmljhbfaaDoor
set_option linter.unusedSimpArgs false
set_option linter.unusedVariables false
open Go.RowKit Go.Shelf
attribute [local go_sem] bl_al bl_drew bl_drewN bl_refl bx_al bx_drew bx_drewN bx_refl
set_option maxRecDepth 20000
theorem bx_sub {X Y : List Nat} {w W : World} (h : BX X w W) (hs : ∀ g ∈ X, g ∈ Y) : BX Y w W :=
  ⟨h.os, h.tape, h.output, h.size, fun i hi hY => h.block i hi fun hX => hY (hs i hX), fun g hg t cs hk => by
    by_cases hX : g ∈ X
    · exact h.shape g hX t cs hk
    · exact ⟨cs, hk.keep hX h, rfl⟩⟩
theorem wp_qu {o : Oper} {a : Act} {K : Act → World → Prop} {Q : Exit → Act → World → Prop} {w : World} {b i c : Nat} {A : Option Addr} {L : List (Int × Int)} {t n : Int} {ag : Nat} (s x : Operand)
    (ho : o.op = .call { callee := .builtin .append, args := #[s, x], argTypes := #[tMgs, tMgs] }) (hty : o.type = tMgs) (hs : a.eval s = .slice A L.length c) (hx : a.eval x = .slice (some ⟨ag, 0, none⟩) 1 1)
    (h : Qu w b i A c L) (hb : b ≤ w.heap.size) (ka : Blk w ag tMg #[.int .i64 i, .int .i64 t, .int .i64 n]) (hL : L.length ≤ 1000)
    (H : ∀ A' c' w', Qu w' b i A' c' (L ++ [(t, n)]) → BX (blA A) w w' → (blA A' = blA A ∨ ∃ g, blA A' = [g] ∧ w.heap.size ≤ g) → K (a.put o.dst (.slice A' (L.length + 1) c')) w') : o.wp Tryd.prog a w K Q := by
  obtain ⟨A', c', w', hr, h2, h3, h4⟩ := qu_append h hb t n ka hL
  unfold Oper.wp execOp
  simp only [ho, hty, resolve, invoke, builtin, Sem.run_bind, Sem.run_pure, Result.andThen_ok, List.map_toArray, List.map_cons, List.map_nil, hs, hx, hr]
  exact H _ _ _ h2 h3 h4
/-- Where the queues lie. -/
structure QS where
  A : Nat → Option Addr
  c : Nat → Nat
def vQ (Q : QS) (q : Nat → List (Int × Int)) (i : Nat) : Value := .slice (Q.A i) (q i).length (Q.c i)
abbrev tSnd : TypeId := 147
def cSnd (vl vs : Value) (q : Nat → Value) (vw : Value) : Array Value := #[vl, vs, q 0, q 1, q 2, q 3, q 4, q 5, vw]
theorem cSnd_at (vl vs vw : Value) (q : Nat → Value) (i : Nat) (hi : i < 6) : (cSnd vl vs q vw)[2 + i]? = some (q i) := by
  match i, hi with
  | 0, _ => rfl
  | 1, _ => rfl
  | 2, _ => rfl
  | 3, _ => rfl
  | 4, _ => rfl
  | 5, _ => rfl
theorem cSnd_set (vl vs vw v : Value) (q : Nat → Value) (i : Nat) (hi : i < 6) : (cSnd vl vs q vw).setIfInBounds (2 + i) v = cSnd vl vs (upF q i v) vw := by
  match i, hi with
  | 0, _ => rfl
  | 1, _ => rfl
  | 2, _ => rfl
  | 3, _ => rfl
  | 4, _ => rfl
  | 5, _ => rfl
/-- A sender lies in the world: its block, its queues, its worst responses. -/
structure Snd (b S Bw : Nat) (vl vs : Value) (n : Nat) (Q : QS) (s : Ss) (w : World) : Prop where
  blk : Blk w S tSnd (cSnd vl vs (vQ Q s.q) (.slice (some ⟨Bw, 0, none⟩) n n))
  wor : Blk w Bw 3 ((List.range n).map fun i => Value.int .i64 (s.wo i)).toArray
  que : ∀ i, i < 6 → Qu w b i (Q.A i) (Q.c i) (s.q i)
  bS : b ≤ S
  bW : b ≤ Bw
  SW : S ≠ Bw
  dis : ∀ i j, i < 6 → j < 6 → i ≠ j → ∀ g ∈ blA (Q.A i), g ∉ blA (Q.A j)
  dS : ∀ i, i < 6 → S ∉ blA (Q.A i)
  dW : ∀ i, i < 6 → Bw ∉ blA (Q.A i)
theorem Snd.below {b S Bw n : Nat} {vl vs : Value} {Q : QS} {s : Ss} {w w' : World} (h : Snd b S Bw vl vs n Q s w) (hb : Below w.heap.size w w') : Snd b S Bw vl vs n Q s w' :=
  ⟨h.blk.below hb, h.wor.below hb, fun i hi => (h.que i hi).below hb, h.bS, h.bW, h.SW, h.dis, h.dS, h.dW⟩
/-- The blocks of a sender that change. -/
def foot (S Bw : Nat) (Q : QS) : List Nat := S :: Bw :: (List.range 6).flatMap fun i => blA (Q.A i)
theorem foot_q {S Bw : Nat} {Q : QS} {i g : Nat} (hi : i < 6) (h : g ∈ blA (Q.A i)) : g ∈ foot S Bw Q := by
  simp only [foot, List.mem_cons, List.mem_flatMap, List.mem_range]
  exact .inr (.inr ⟨i, hi, h⟩)
/-- A queue that took one message more, and the sender's block that names it. -/
theorem Snd.put {b S Bw n : Nat} {vl vs : Value} {Q : QS} {s : Ss} {w w1 w2 : World} (h : Snd b S Bw vl vs n Q s w) {i : Nat} (hi : i < 6) {A' : Option Addr} {c' : Nat} {L : List (Int × Int)}
    (hq : Qu w1 b i A' c' L) (hb1 : BX (blA (Q.A i)) w w1) (hA : blA A' = blA (Q.A i) ∨ ∃ g, blA A' = [g] ∧ w.heap.size ≤ g) (hw2 : w2 = w1.setCell ⟨S, 2 + i, none⟩ (.slice A' L.length c')) :
    Snd b S Bw vl vs n ⟨upF Q.A i A', upF Q.c i c'⟩ ⟨upF s.q i L, s.wo⟩ w2 ∧ BX (S :: blA (Q.A i)) w w2 := by
  subst hw2
  have hSl := h.blk.lt
  have hWl := h.wor.lt
  have hnew : ∀ g ∈ blA A', g ∈ blA (Q.A i) ∨ w.heap.size ≤ g := fun g hg => by
    rcases hA with e | ⟨g', e, hg'⟩
    · rw [e] at hg; exact .inl hg
    · rw [e] at hg; simp at hg; subst hg; exact .inr hg'
  have hx : BX [S] w1 (w1.setCell ⟨S, 2 + i, none⟩ (.slice A' L.length c')) := bx_set (.inl (by simp)) _ (bx_refl _ _)
  have kS := h.blk.keep (h.dS i hi) hb1
  have hSA' : S ∉ blA A' := fun hm => by
    rcases hnew S hm with hm | hm
    · exact h.dS i hi hm
    · omega
  have hWA' : Bw ∉ blA A' := fun hm => by
    rcases hnew Bw hm with hm | hm
    · exact h.dW i hi hm
    · omega
  refine ⟨⟨?_, (h.wor.keep (h.dW i hi) hb1).keep (by simpa using fun e => h.SW e.symm) hx, fun j hj => ?_, h.bS, h.bW, h.SW, fun j k hj hk hjk g hg => ?_, fun j hj => ?_, fun j hj => ?_⟩, ?_⟩
  · have := kS.set (2 + i) (.slice A' L.length c')
    rw [cSnd_set _ _ _ _ _ i hi] at this
    have e : upF (vQ Q s.q) i (.slice A' L.length c') = vQ ⟨upF Q.A i A', upF Q.c i c'⟩ (upF s.q i L) := by
      funext j
      unfold upF vQ
      split <;> simp_all
    rw [e] at this
    exact this
  · by_cases hji : j = i
    · subst hji
      simp only [upF, if_true]
      exact hq.keep hx (fun g hg => by simp only [List.mem_singleton]; exact fun e => hSA' (e ▸ hg))
    · simp only [upF, if_neg hji]
      exact ((h.que j hj).keep hb1 (fun g hg => h.dis j i hj hi hji g hg)).keep hx (fun g hg => by simp only [List.mem_singleton]; exact fun e => h.dS j hj (e ▸ hg))
  · simp only [upF] at hg ⊢
    have hlt := fun m (hm : m < 6) g hg => ((h.que m hm).ge g hg).2
    by_cases e1 : j = i
    · subst e1
      rw [if_pos rfl] at hg
      rw [if_neg (Ne.symm hjk)]
      intro hm
      rcases hnew g hg with h' | h'
      · exact h.dis _ _ hj hk hjk g h' hm
      · have := hlt k hk g hm; omega
    · rw [if_neg e1] at hg
      by_cases e2 : k = i
      · subst e2
        rw [if_pos rfl]
        intro hm
        rcases hnew g hm with h' | h'
        · exact h.dis _ _ hj hk hjk g hg h'
        · have := hlt j hj g hg; omega
      · rw [if_neg e2]
        exact h.dis j k hj hk hjk g hg
  · simp only [upF]
    split
    · exact hSA'
    · exact h.dS j hj
  · simp only [upF]
    split
    · exact hWA'
    · exact h.dW j hj
  · exact (bx_sub hb1 (fun g hg => by simp [hg])).trans (bx_sub hx (by simp))
end Go.Proofs.YtdlmkblmljhbfaaDoor
