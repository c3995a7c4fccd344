/-
  Walks: which nets are valid.
-/
import Derived.Test.YtdlmkblmljhbfaaDoorNames
import Derived.Test.YtdlmkblmljhbfaaDoorAnyM
namespace Go.Proofs.YtdlmkblmljhbfaaDoor
set_option linter.unusedSimpArgs false
set_option linter.unusedVariables false
open Go.RowKit Go.Shelf
attribute [local go_sem] bl_al bl_drew bl_drewN bl_refl bx_al bx_drew bx_drewN bx_refl
set_option maxRecDepth 20000
structure RwIn (r : Rw) (w : World) : Prop where
  len : r.l.length ≤ 1000
  cap : r.l.length ≤ r.c
  sl : Sl cI 1 w r.A r.l
structure FuIn (f : Fu) (w : World) : Prop where
  nm : f.name.size ≤ maxLen
  len : f.ws.length ≤ 1000
  cap : f.ws.length ≤ f.c
  sl : Sl cRw 1 w f.A f.ws
  rows : ∀ r ∈ f.ws, RwIn r w
structure MdIn (m : Md) (w : World) : Prop where
  nm : m.name.size ≤ maxLen
  row : RwIn m.r w
/-- A net lies where the headers of its slices say. -/
structure NtIn (n : Nt) (Ap Af Am : Option Addr) (cp cf cm : Nat) (w : World) : Prop where
  plen : n.ps.length ≤ 1000
  flen : n.fs.length ≤ 1000
  mlen : n.ms.length ≤ 1000
  pcap : n.ps.length ≤ cp
  fcap : n.fs.length ≤ cf
  mcap : n.ms.length ≤ cm
  psl : Sl cS 1 w Ap n.ps
  fsl : Sl cFu 2 w Af n.fs
  msl : Sl cMd 2 w Am n.ms
  pnm : ∀ s ∈ n.ps, s.size ≤ maxLen
  fin : ∀ f ∈ n.fs, FuIn f w
  min : ∀ m ∈ n.ms, MdIn m w
theorem RwIn.below {r : Rw} {w w' : World} (h : RwIn r w) (hb : Below w.heap.size w w') : RwIn r w' := ⟨h.len, h.cap, h.sl.below hb⟩
theorem FuIn.below {f : Fu} {w w' : World} (h : FuIn f w) (hb : Below w.heap.size w w') : FuIn f w' := ⟨h.nm, h.len, h.cap, h.sl.below hb, fun r hr => (h.rows r hr).below hb⟩
theorem MdIn.below {m : Md} {w w' : World} (h : MdIn m w) (hb : Below w.heap.size w w') : MdIn m w' := ⟨h.nm, h.row.below hb⟩
theorem NtIn.below {n : Nt} {Ap Af Am : Option Addr} {cp cf cm : Nat} {w w' : World} (h : NtIn n Ap Af Am cp cf cm w) (hb : Below w.heap.size w w') : NtIn n Ap Af Am cp cf cm w' :=
  ⟨h.plen, h.flen, h.mlen, h.pcap, h.fcap, h.mcap, h.psl.below hb, h.fsl.below hb, h.msl.below hb, h.pnm, fun f hf => (h.fin f hf).below hb, fun m hm => (h.min m hm).below hb⟩
theorem RwIn.map {r : Rw} {L : List ByteArray} {g m : Nat} {w w' : World} (h : RwIn r w) (hs : Seen L g m w) (hb : BX [m] w w') : RwIn r w' := ⟨h.len, h.cap, sl_map h.sl hs hb⟩
theorem FuIn.map {f : Fu} {L : List ByteArray} {g m : Nat} {w w' : World} (h : FuIn f w) (hs : Seen L g m w) (hb : BX [m] w w') : FuIn f w' := ⟨h.nm, h.len, h.cap, sl_map h.sl hs hb, fun r hr => (h.rows r hr).map hs hb⟩
theorem MdIn.map {d : Md} {L : List ByteArray} {g m : Nat} {w w' : World} (h : MdIn d w) (hs : Seen L g m w) (hb : BX [m] w w') : MdIn d w' := ⟨h.nm, h.row.map hs hb⟩
theorem ways_snoc (parts e : Int) (ws : List Rw) (r : Rw) : waysE parts e (ws ++ [r]) = fstE [waysE parts e ws, unl (decide (0 < r.l.length)) 10, idxErr r.l parts] := by simp [waysE, List.foldl_append]
abbrev vName (g : Nat) : Value := .func (.func 136) #[] #[.pointer (some ⟨g, 0, none⟩)]
abbrev tName : TypeId := 151
theorem c_net1 (i : Int) (L : List ByteArray) (s : ByteArray) (Bn g m : Nat) (w : World) (kn : Blk w Bn tName #[vName g]) (hs : Seen L g m w) (hn : s.size ≤ maxLen) (hL : L.length ≤ 1000) :
    Calls Tryd.prog 103 #[.int .i64 i, .string s, .pointer (some ⟨Bn, 0, none⟩)] w
      (fun e w' => e = .returned (.int .i64 (fstE [unl (nameB s) 4, unl (!knownB L s) 5])) ∧ BX [m] w w' ∧ Seen (L ++ [s]) g m w') := by
  have hcall := Lib.hid (c_names1 L s g m w hs hn hL)
  have L0 := kn.cell
  clear hs
  go_enter Tryd.func103, Tryd.ntmps103
  go_wp2_with fail
  refine hcall.out.mono ?_
  rintro e w3 ⟨rfl, hb3, hs3⟩
  go_wp2
  go_ret
  exact ⟨rfl, hb3, hs3⟩
set_option maxHeartbeats 4000000 in
theorem c_net2 (i parts : Int) (L : List ByteArray) (f : Fu) (Bn Bp g m : Nat) (w : World) (kn : Blk w Bn tName #[vName g]) (kp : Blk w Bp 3 #[.int .i64 parts]) (hs : Seen L g m w) (hf : FuIn f w) (hL : L.length ≤ 1000) (hpt : 0 ≤ parts ∧ parts ≤ 1000000)
    (hnm : m ≠ Bn) (hpm : m ≠ Bp) :
    Calls Tryd.prog 105 #[.int .i64 i, vFu f, .pointer (some ⟨Bn, 0, none⟩), .pointer (some ⟨Bp, 0, none⟩)] w
      (fun e w' => e = .returned (.int .i64 (waysE parts (fstE [fstE [unl (nameB f.name) 4, unl (!knownB L f.name) 5], unl (decide (0 < f.ws.length)) 10, unl (decide ((f.ws.length : Int) ≤ 6)) 8]) f.ws)) ∧ BX [m] w w' ∧ Seen (L ++ [f.name]) g m w') := by
  have hcall := Lib.hid fun (W : World) (h : Seen L g m W) => c_names1 L f.name g m W h hf.nm hL
  obtain ⟨nm, A, c, ws⟩ := f
  have hf' := Lib.hid hf
  have hlen := hf.len
  dsimp only at *
  change Calls Tryd.prog 105 #[.int .i64 i, .agg #[.string nm, .slice A ws.length c], .pointer (some ⟨Bn, 0, none⟩), .pointer (some ⟨Bp, 0, none⟩)] w _
  generalize hwl : ws.length = nw at *
  replace hwl := Lib.hid hwl
  clear hf
  go_enter Tryd.func105, Tryd.ntmps105
  go_upto_region 1 with fail
  have hsn := hs.below (bl_al (.cells #[.string nm, .slice A nw c] 129) (bl_refl w))
  replace kn := kn.alloc (.cells #[.string nm, .slice A nw c] 129)
  replace kp := kp.alloc (.cells #[.string nm, .slice A nw c] 129)
  have k0 := Blk.new w 129 #[.string nm, .slice A nw c]
  have hbx : BX [m] w (w.alloc (.cells #[.string nm, .slice A nw c] 129)) := bx_al _ (bx_refl _ _)
  have hmw : m ≠ w.heap.size := fun e => by
    subst e
    obtain ⟨es, clock, h1, _⟩ := hsn.map
    unfold Blk at k0
    rw [h1] at k0
    cases k0
  generalize w.alloc (.cells #[.string nm, .slice A nw c] 129) = wa at *
  have hmx : w.heap.size ∉ [m] := by simpa using fun e => hmw e.symm
  have hnx : Bn ∉ [m] := by simpa using fun e => hnm e.symm
  have hpx : Bp ∉ [m] := by simpa using fun e => hpm e.symm
  have hml : ∀ x ∈ [m], x < wa.heap.size := by
    obtain ⟨es, clock, h1, _⟩ := hsn.map
    have := (Array.getElem?_eq_some_iff.1 h1).1
    simpa using this
  have L0 := k0.laterX hmx
  have Ln := kn.laterX hnx
  replace hsn := Lib.hid hsn
  have hb0 : Hid (BX [m] w wa) := Lib.hid hbx
  replace hf' := Lib.hid (hf'.out.map hs hbx)
  clear hbx hs
  refine wp_anyM (w0 := wa) 3 [m] ⟨[], [], [some 10, some 11, some 12, some 13, some 14, some 15, some 16, some 17, some 18, some 19, some 20, some 21, some 22, some 23, some 24, some 25, some 7], [[], [], [1], [0, 1, 2], [], [4], [4, 5], [4, 5, 6], [0, 1, 2, 3, 4, 5, 6, 7], [], [9], [9, 10], [9, 10, 11], [0, 1, 2, 3, 4, 5, 6, 7, 8, 9, 10, 11, 12], [0, 1, 2, 3, 4, 5, 6, 7, 8, 9, 10, 11, 12, 13], [0, 1, 2, 3, 4, 5, 6, 7, 8, 9, 10, 11, 12, 13, 14], [0, 1, 2, 3, 4, 5, 6, 7, 8, 9, 10, 11, 12, 13, 14, 15]], [[], [], [1], [0, 2], [], [4], [5], [6], [7], [], [9], [10], [11], [12], [3, 8, 13], [3, 14], [3, 14, 15]]⟩ (by kernel_rfl) (by kernel_rfl) rfl (by (with_reducible (repeat' (first | assumption | apply jA | apply jB | apply jC | apply jD | apply jE | apply jF | apply hb3 | omega | (simp; done) | (simp; omega) | (dsimp only; omega))))) (fun u => by simp only [putD, Act.put, List.setIfInBounds_toArray, List.set_cons_zero, List.set_cons_succ, Nat.zero_add, Nat.reduceAdd]; rfl) ?_
  apply RGM.on (i := 0) rfl (by decide)
  · (simp only [gA, gB, gC] <;> rfl)
  · intro γ u W hcur hd
    clear hd
    (try dsimp only)
    refine ⟨rfl, ?_⟩
    go_simp <;> (try go_bits) <;> with_reducible rfl
  · exact fun _ _ _ => rfl
  dsimp only [nA, cA]
  apply RGM.on (i := 1) rfl (by decide)
  · (simp only [gA, gB, gC] <;> rfl)
  · intro γ u W hcur hd
    clear hd
    (try dsimp only)
    refine ⟨rfl, ?_⟩
    go_simp <;> (try go_bits) <;> with_reducible rfl
  · exact fun _ _ _ => rfl
  dsimp only [nA, cA]
  apply RGM.on (i := 2) rfl (by decide)
  · (simp only [gA, gB, gC] <;> rfl)
  · intro γ u W hcur hd
    obtain ⟨⟨h1, -, -⟩, -⟩ := hd
    dsimp only at h1
    (try simp only [h1])
    refine ⟨rfl, ?_⟩
    go_simp <;> (try go_bits) <;> with_reducible rfl
  · exact fun _ _ _ => rfl
  dsimp only [nA, cA]
  apply RGM.mut (⟨fun _ => .int .i64 (fstE [unl (nameB nm) 4, unl (!knownB L nm) 5]), fun _ W => Seen (L ++ [nm]) g m W, fun _ => []⟩) (i := 3) rfl rfl
  · (simp only [gA, gB, gC] <;> rfl)
  · intro γ u W hcur hd
    obtain ⟨⟨h0, -, -⟩, ⟨h2, -, -⟩, -⟩ := hd
    dsimp only at h0 h2
    (try simp only [h0, h2])
    refine ⟨rfl, fun K hK => ?_⟩
    go_simp
    (go_at_call 136; (with_reducible refine (hcall.out _ (hsn.out.below hcur)).mono ?_); rintro e w3 ⟨rfl, hb3, hs3⟩; dsimp only; exact hK.out ⟨0, undef, none, 0⟩ _ _ rfl hb3 hs3 (by simp))
  · exact fun _ _ _ => ⟨rfl, fun _ h => h⟩
  · intro γ W W' hbl hR
    exact hR.below hbl
  dsimp only [nA, cA]
  apply RGM.on (i := 4) rfl (by decide)
  · (simp only [gA, gB, gC] <;> rfl)
  · intro γ u W hcur hd
    clear hd
    (try dsimp only)
    refine ⟨rfl, ?_⟩
    go_simp <;> (try go_bits) <;> with_reducible rfl
  · exact fun _ _ _ => rfl
  dsimp only [nA, cA]
  apply RGM.on (i := 5) rfl (by decide)
  · (simp only [gA, gB, gC] <;> rfl)
  · intro γ u W hcur hd
    obtain ⟨⟨h4, -, -⟩, -⟩ := hd
    dsimp only at h4
    (try simp only [h4])
    refine ⟨rfl, ?_⟩
    go_simp <;> (try go_bits) <;> with_reducible rfl
  · exact fun _ _ _ => rfl
  dsimp only [nA, cA]
  apply RGM.on (i := 6) rfl (by decide)
  · (simp only [gA, gB, gC] <;> rfl)
  · intro γ u W hcur hd
    obtain ⟨⟨h5, -, -⟩, -⟩ := hd
    dsimp only at h5
    (try simp only [h5])
    refine ⟨rfl, ?_⟩
    go_simp <;> (try go_bits) <;> with_reducible rfl
  · exact fun _ _ _ => rfl
  dsimp only [nA, cA]
  apply RGM.on (i := 7) rfl (by decide)
  · (simp only [gA, gB, gC] <;> rfl)
  · intro γ u W hcur hd
    obtain ⟨⟨h6, -, -⟩, -⟩ := hd
    dsimp only at h6
    (try simp only [h6])
    refine ⟨rfl, ?_⟩
    go_simp <;> (try go_bits) <;> with_reducible rfl
  · exact fun _ _ _ => rfl
  dsimp only [nA, cA]
  apply RGM.call (i := 8) rfl (by decide)
  · (simp only [gA, gB, gC] <;> rfl)
  · intro γ u W hcur hd
    obtain ⟨⟨h7, -, -⟩, -⟩ := hd
    dsimp only at h7
    (try simp only [h7])
    refine ⟨rfl, fun K hK => ?_⟩
    go_simp
    first
    | (go_at_call 78; (with_reducible refine (c_unless _ _ _).mono ?_); rintro e w3 ⟨rfl, rfl⟩)
    | (go_at_call 77; (with_reducible refine (c_first3 (by (with_reducible (repeat' (first | assumption | (apply jL; first | (simp; done) | rfl) | apply jM | apply jN | apply jO | apply jP | apply jQ | apply jR | apply jS | apply jT (hb := hb3 _ (jA _)) | omega | (simp; done) | (simp; omega) | (dsimp only; omega)))))).mono ?_); rintro e w3 ⟨rfl, rfl⟩)
    (try dsimp only)
    exact hK.out _ _ rfl (by (with_reducible (repeat' (first | assumption | apply jA | apply jB | apply jC | apply jD | apply jE | apply jF | apply hb3 | omega | (simp; done) | (simp; omega) | (dsimp only; omega)))))
  · exact fun _ _ _ => rfl
  dsimp only [nA, cA]
  apply RGM.on (i := 9) rfl (by decide)
  · (simp only [gA, gB, gC] <;> rfl)
  · intro γ u W hcur hd
    clear hd
    (try dsimp only)
    refine ⟨rfl, ?_⟩
    go_simp <;> (try go_bits) <;> with_reducible rfl
  · exact fun _ _ _ => rfl
  dsimp only [nA, cA]
  apply RGM.on (i := 10) rfl (by decide)
  · (simp only [gA, gB, gC] <;> rfl)
  · intro γ u W hcur hd
    obtain ⟨⟨h9, -, -⟩, -⟩ := hd
    dsimp only at h9
    (try simp only [h9])
    refine ⟨rfl, ?_⟩
    go_simp <;> (try go_bits) <;> with_reducible rfl
  · exact fun _ _ _ => rfl
  dsimp only [nA, cA]
  apply RGM.on (i := 11) rfl (by decide)
  · (simp only [gA, gB, gC] <;> rfl)
  · intro γ u W hcur hd
    obtain ⟨⟨h10, -, -⟩, -⟩ := hd
    dsimp only at h10
    (try simp only [h10])
    refine ⟨rfl, ?_⟩
    go_simp <;> (try go_bits) <;> with_reducible rfl
  · exact fun _ _ _ => rfl
  dsimp only [nA, cA]
  apply RGM.on (i := 12) rfl (by decide)
  · (simp only [gA, gB, gC] <;> rfl)
  · intro γ u W hcur hd
    obtain ⟨⟨h11, -, -⟩, -⟩ := hd
    dsimp only at h11
    (try simp only [h11])
    refine ⟨rfl, ?_⟩
    go_simp <;> (try go_bits) <;> with_reducible rfl
  · exact fun _ _ _ => rfl
  dsimp only [nA, cA]
  apply RGM.call (i := 13) rfl (by decide)
  · (simp only [gA, gB, gC] <;> rfl)
  · intro γ u W hcur hd
    obtain ⟨⟨h12, -, -⟩, -⟩ := hd
    dsimp only at h12
    (try simp only [h12])
    refine ⟨rfl, fun K hK => ?_⟩
    go_simp
    first
    | (go_at_call 78; (with_reducible refine (c_unless _ _ _).mono ?_); rintro e w3 ⟨rfl, rfl⟩)
    | (go_at_call 77; (with_reducible refine (c_first3 (by (with_reducible (repeat' (first | assumption | (apply jL; first | (simp; done) | rfl) | apply jM | apply jN | apply jO | apply jP | apply jQ | apply jR | apply jS | apply jT (hb := hb3 _ (jA _)) | omega | (simp; done) | (simp; omega) | (dsimp only; omega)))))).mono ?_); rintro e w3 ⟨rfl, rfl⟩)
    (try dsimp only)
    exact hK.out _ _ rfl (by (with_reducible (repeat' (first | assumption | apply jA | apply jB | apply jC | apply jD | apply jE | apply jF | apply hb3 | omega | (simp; done) | (simp; omega) | (dsimp only; omega)))))
  · exact fun _ _ _ => rfl
  dsimp only [nA, cA]
  apply RGM.bslice (i := 14) rfl (by decide) hml
  · (simp only [gA, gB, gC] <;> rfl)
  · intro γ u W hcur hd
    obtain ⟨⟨h3, r3, -⟩, ⟨h8, -, -⟩, ⟨h13, -, -⟩, -⟩ := hd
    dsimp only at h3 h8 h13 r3
    (try simp only [h3, h8, h13])
    refine ⟨rfl, fun K hK => ?_⟩
    go_simp
    exact hK.out _ _ rfl rfl
  · exact fun _ _ _ => rfl
  · rfl
  dsimp only [nA, cA]
  apply RGM.call (i := 15) rfl (by decide)
  · (simp only [gA, gB, gC] <;> rfl)
  · intro γ u W hcur hd
    obtain ⟨⟨h3, r3, -⟩, ⟨h14, r14, -⟩, -⟩ := hd
    dsimp only at h3 h14 r3 r14
    (try simp only [h3, h14])
    refine ⟨rfl, fun K hK => ?_⟩
    go_simp
    first
    | (go_at_call 78; (with_reducible refine (c_unless _ _ _).mono ?_); rintro e w3 ⟨rfl, rfl⟩)
    | (go_at_call 77; (with_reducible refine (c_first3 (by (with_reducible (repeat' (first | assumption | (apply jL; first | (simp; done) | rfl) | apply jM | apply jN | apply jO | apply jP | apply jQ | apply jR | apply jS | apply jT (hb := hb3 _ (jA _)) | omega | (simp; done) | (simp; omega) | (dsimp only; omega)))))).mono ?_); rintro e w3 ⟨rfl, rfl⟩)
    (try dsimp only)
    exact hK.out _ _ rfl (by (with_reducible (repeat' (first | assumption | apply jA | apply jB | apply jC | apply jD | apply jE | apply jF | apply hb3 | omega | (simp; done) | (simp; omega) | (dsimp only; omega)))))
  · first
    | exact fun _ _ _ => rfl
    | intro γ γ' hg
      try dsimp only
      have e14 := hg 14 (by decide)
      simp only [e14]
  dsimp only [nA, cA]
  apply RGM.on (i := 16) rfl (by decide)
  · (simp only [gA, gB, gC] <;> rfl)
  · intro γ u W hcur hd
    obtain ⟨⟨h3, r3, -⟩, ⟨h14, r14, -⟩, ⟨h15, -, -⟩, -⟩ := hd
    dsimp only at h3 h14 h15 r3 r14
    (try simp only [h3, h14, h15])
    refine ⟨rfl, ?_⟩
    go_simp <;> (try go_bits) <;> with_reducible rfl
  · first
    | exact fun _ _ _ => rfl
    | intro γ γ' hg
      try dsimp only
      have e14 := hg 14 (by decide)
      simp only [e14]
  dsimp only [nA, cA]
  refine RGM.fin (fun γ u wb hwb hd => ?_)
  obtain ⟨⟨h0, -, -⟩, ⟨h1, -, -⟩, ⟨h2, -, -⟩, ⟨h3, r3, -⟩, ⟨h4, -, -⟩, ⟨h5, -, -⟩, ⟨h6, -, -⟩, ⟨h7, -, -⟩, ⟨h8, -, -⟩, ⟨h9, -, -⟩, ⟨h10, -, -⟩, ⟨h11, -, -⟩, ⟨h12, -, -⟩, ⟨h13, -, -⟩, ⟨h14, r14, b14⟩, ⟨h15, -, -⟩, ⟨h16, -, -⟩, -⟩ := hd
  dsimp only at h0 h1 h2 h3 h4 h5 h6 h7 h8 h9 h10 h11 h12 h13 h14 h15 h16 r3 r14 b14
  simp only [h0, h1, h2, h3, h4, h5, h6, h7, h8, h9, h10, h11, h12, h13, h14, h15, h16]
  clear h16 h15 h14 h13 h12 h11 h10 h9 h8 h7 h6 h5 h4 h3 h2 h1 h0
  replace b14 := b14 _ (List.mem_singleton.2 rfl)
  generalize hγ14 : (γ 14).n = g14 at *
  clear hγ14
  clear u
  have hs2 := r3
  have hbx := hb0.out.trans hwb
  replace kp := kp.keep hpx hwb
  have hfb := Lib.hid (hf'.out.map hsn.out hwb)
  replace hs2 := Lib.hid hs2
  replace hbx := Lib.hid hbx
  replace k0 := k0.keep hmx hwb
  have hlp := kp.later
  have hl0 := k0.later
  clear hwb hb0 hf' hsn r3 r14 b14 kn Ln L0 hcall hml
  generalize hE : fstE [fstE [unl (nameB nm) 4, unl (!knownB L nm) 5], unl (decide (0 < nw)) 10, unl (decide ((nw : Int) ≤ 6)) 8] = E at *
  replace hE := Lib.hid hE
  have hst := Lib.hid fun (j : Nat) (r : Rw) (h : ws[j]? = some r) => (show waysE parts E (ws.take (j + 1)) = fstE [waysE parts E (ws.take j), unl (decide (0 < r.l.length)) 10, idxErr r.l parts] by rw [List.take_add_one, h]; exact ways_snoc parts E _ r)
  have hs0 : Hid (waysE parts E (ws.take 0) = E) := rfl
  have hse : Hid (waysE parts E (ws.take nw) = waysE parts E ws) := Lib.hid (by rw [List.take_of_length_le (by have := hwl.out; omega)])
  obtain ⟨f, hf⟩ : ∃ f : Nat → Int, ∀ j, waysE parts E (ws.take j) = f j := ⟨_, fun _ => rfl⟩
  simp only [hf] at hst hs0 hse
  clear hf
  go_wp2
  go_loopw [7, 29] (fun v i wr => ∃ j : Nat, j ≤ nw ∧ i = .int .i64 j ∧ v = .int .i64 (f j) ∧ Below wb.heap.size wb wr) (fun _ i _ => nw - (intOf i).toNat)
  case atStart => exact ⟨0, Nat.zero_le _, rfl, by rw [hs0.out], Below.refl _ _⟩
  case round =>
    obtain ⟨j, hj, rfl, rfl, hb0⟩ := hrel
    by_cases hlt : j < nw
    · have hx : ws[j]? = some (ws[j]'(by rw [hwl.out]; exact hlt)) := List.getElem?_eq_getElem _
      generalize ws[j]'(by rw [hwl.out]; exact hlt) = r at hx
      have hr := (hfb.out.below hb0).rows r (List.mem_of_getElem? hx)
      obtain ⟨b, off, hA, hc⟩ := (hfb.out.below hb0).sl j r hx
      have hn := Lib.hid (hst.out j r hx)
      obtain ⟨rA, rc, rl⟩ := r
      dsimp only at hA
      subst hA
      have c0 : wr.cell? ⟨b, off + j, none⟩ = some (.slice rA rl.length rc) := by simpa using hc 0 _ rfl
      have hie := Lib.hid fun (W : World) (hb : Below wr.heap.size wr W) => c_indexesErr rl parts rA rc W (hr.sl.below hb) hr.len hpt
      have hrl := hr.len
      dsimp only at hrl hn
      clear hc hx hr
      generalize rl.length = n at *
      go_upto_region 5 with fail
      have hlp' := fun W (h : Below wr.heap.size wr W) => hlp W (bl_tr hb0 h)
      refine wp_any (w0 := wr) ⟨[10], [], [some 33, some 34, some 35, some 36, some 37, some 38, some 39, some 40, some 41, some 42, none], [[], [], [1], [1, 2], [1, 2, 3], [], [], [1, 2, 3, 4, 5, 6], [0, 1, 2, 3, 4, 5, 6, 7], [0, 1, 2, 3, 4, 5, 6, 7, 8], [0, 1, 2, 3, 4, 5, 6, 7, 8, 9]], [[], [], [1], [2], [3], [], [], [5, 6], [0, 4, 7], [8], []]⟩ (fun _ => []) (by kernel_rfl) (by kernel_rfl) (by (with_reducible (repeat' (first | assumption | apply jA | apply jB | apply jC | apply jD | apply jE | apply jF | apply hb3 | omega | (simp; done) | (simp; omega) | (dsimp only; omega))))) (fun u => by simp only [putD, Act.put, List.setIfInBounds_toArray, List.set_cons_zero, List.set_cons_succ, Nat.zero_add, Nat.reduceAdd]; rfl) ?_
      apply RGW.on (i := 0) rfl
      · (simp only [gA, gB, gC] <;> rfl)
      · intro γ u W hcur hd
        clear hd
        (try dsimp only)
        refine ⟨rfl, ?_⟩
        go_simp <;> (try go_bits) <;> with_reducible rfl
      · exact fun _ _ _ => rfl
      · rfl
      dsimp only [nA, cA]
      apply RGW.on (i := 1) rfl
      · (simp only [gA, gB, gC] <;> rfl)
      · intro γ u W hcur hd
        clear hd
        (try dsimp only)
        refine ⟨rfl, ?_⟩
        go_simp <;> (try go_bits) <;> with_reducible rfl
      · exact fun _ _ _ => rfl
      · rfl
      dsimp only [nA, cA]
      apply RGW.on (i := 2) rfl
      · (simp only [gA, gB, gC] <;> rfl)
      · intro γ u W hcur hd
        obtain ⟨⟨h1, -, -⟩, -⟩ := hd
        dsimp only at h1
        (try simp only [h1])
        refine ⟨rfl, ?_⟩
        go_simp <;> (try go_bits) <;> with_reducible rfl
      · exact fun _ _ _ => rfl
      · rfl
      dsimp only [nA, cA]
      apply RGW.on (i := 3) rfl
      · (simp only [gA, gB, gC] <;> rfl)
      · intro γ u W hcur hd
        obtain ⟨⟨h2, -, -⟩, -⟩ := hd
        dsimp only at h2
        (try simp only [h2])
        refine ⟨rfl, ?_⟩
        go_simp <;> (try go_bits) <;> with_reducible rfl
      · exact fun _ _ _ => rfl
      · rfl
      dsimp only [nA, cA]
      apply RGW.call (i := 4) rfl
      · (simp only [gA, gB, gC] <;> rfl)
      · intro γ u W hcur hd
        obtain ⟨⟨h3, -, -⟩, -⟩ := hd
        dsimp only at h3
        (try simp only [h3])
        refine ⟨rfl, fun K hK => ?_⟩
        go_simp
        first
        | (go_at_call 78; (with_reducible refine (c_unless _ _ _).mono ?_); rintro e w3 ⟨rfl, rfl⟩)
        | (go_at_call 106; (with_reducible refine (hie.out _ (by (with_reducible (repeat' (first | assumption | apply jA | apply jB | apply jC | apply jD | apply jE | apply jF | apply hb3 | omega | (simp; done) | (simp; omega) | (dsimp only; omega)))))).mono ?_); rintro e w3 ⟨rfl, hb3⟩; replace hb3 := bl_tt hb3)
        | (go_at_call 77; (with_reducible refine (c_first3 (by (with_reducible (repeat' (first | assumption | (apply jL; first | (simp; done) | rfl) | apply jM | apply jN | apply jO | apply jP | apply jQ | apply jR | apply jS | apply jT (hb := hb3 _ (jA _)) | omega | (simp; done) | (simp; omega) | (dsimp only; omega)))))).mono ?_); rintro e w3 ⟨rfl, rfl⟩)
        (try dsimp only)
        exact hK.out _ _ rfl (by (with_reducible (repeat' (first | assumption | apply jA | apply jB | apply jC | apply jD | apply jE | apply jF | apply hb3 | omega | (simp; done) | (simp; omega) | (dsimp only; omega)))))
      · exact fun _ _ _ => rfl
      · rfl
      dsimp only [nA, cA]
      apply RGW.on (i := 5) rfl
      · (simp only [gA, gB, gC] <;> rfl)
      · intro γ u W hcur hd
        clear hd
        (try dsimp only)
        refine ⟨rfl, ?_⟩
        go_simp <;> (try go_bits) <;> with_reducible rfl
      · exact fun _ _ _ => rfl
      · rfl
      dsimp only [nA, cA]
      apply RGW.on (i := 6) rfl
      · (simp only [gA, gB, gC] <;> rfl)
      · intro γ u W hcur hd
        clear hd
        (try dsimp only)
        refine ⟨rfl, ?_⟩
        go_simp <;> (try go_bits) <;> with_reducible rfl
      · exact fun _ _ _ => rfl
      · rfl
      dsimp only [nA, cA]
      apply RGW.call (i := 7) rfl
      · (simp only [gA, gB, gC] <;> rfl)
      · intro γ u W hcur hd
        obtain ⟨⟨h5, -, -⟩, ⟨h6, -, -⟩, -⟩ := hd
        dsimp only at h5 h6
        (try simp only [h5, h6])
        refine ⟨rfl, fun K hK => ?_⟩
        go_simp
        first
        | (go_at_call 78; (with_reducible refine (c_unless _ _ _).mono ?_); rintro e w3 ⟨rfl, rfl⟩)
        | (go_at_call 106; (with_reducible refine (hie.out _ (by (with_reducible (repeat' (first | assumption | apply jA | apply jB | apply jC | apply jD | apply jE | apply jF | apply hb3 | omega | (simp; done) | (simp; omega) | (dsimp only; omega)))))).mono ?_); rintro e w3 ⟨rfl, hb3⟩; replace hb3 := bl_tt hb3)
        | (go_at_call 77; (with_reducible refine (c_first3 (by (with_reducible (repeat' (first | assumption | (apply jL; first | (simp; done) | rfl) | apply jM | apply jN | apply jO | apply jP | apply jQ | apply jR | apply jS | apply jT (hb := hb3 _ (jA _)) | omega | (simp; done) | (simp; omega) | (dsimp only; omega)))))).mono ?_); rintro e w3 ⟨rfl, rfl⟩)
        (try dsimp only)
        exact hK.out _ _ rfl (by (with_reducible (repeat' (first | assumption | apply jA | apply jB | apply jC | apply jD | apply jE | apply jF | apply hb3 | omega | (simp; done) | (simp; omega) | (dsimp only; omega)))))
      · exact fun _ _ _ => rfl
      · rfl
      dsimp only [nA, cA]
      apply RGW.bslice (i := 8) rfl
      · (simp only [gA, gB, gC] <;> rfl)
      · intro γ u W hcur hd
        obtain ⟨⟨h0, -, -⟩, ⟨h4, -, -⟩, ⟨h7, -, -⟩, -⟩ := hd
        dsimp only at h0 h4 h7
        (try simp only [h0, h4, h7])
        refine ⟨rfl, fun K hK => ?_⟩
        go_simp
        exact hK.out _ _ rfl rfl
      · exact fun _ _ _ => rfl
      · rfl
      · rfl
      dsimp only [nA, cA]
      apply RGW.call (i := 9) rfl
      · (simp only [gA, gB, gC] <;> rfl)
      · intro γ u W hcur hd
        obtain ⟨⟨h8, r8, -⟩, -⟩ := hd
        dsimp only at h8 r8
        have L8 := r8.cell
        (try simp only [h8])
        refine ⟨rfl, fun K hK => ?_⟩
        go_simp
        first
        | (go_at_call 78; (with_reducible refine (c_unless _ _ _).mono ?_); rintro e w3 ⟨rfl, rfl⟩)
        | (go_at_call 106; (with_reducible refine (hie.out _ (by (with_reducible (repeat' (first | assumption | apply jA | apply jB | apply jC | apply jD | apply jE | apply jF | apply hb3 | omega | (simp; done) | (simp; omega) | (dsimp only; omega)))))).mono ?_); rintro e w3 ⟨rfl, hb3⟩; replace hb3 := bl_tt hb3)
        | (go_at_call 77; (with_reducible refine (c_first3 (by (with_reducible (repeat' (first | assumption | (apply jL; first | (simp; done) | rfl) | apply jM | apply jN | apply jO | apply jP | apply jQ | apply jR | apply jS | apply jT (hb := hb3 _ (jA _)) | omega | (simp; done) | (simp; omega) | (dsimp only; omega)))))).mono ?_); rintro e w3 ⟨rfl, rfl⟩)
        (try dsimp only)
        exact hK.out _ _ rfl (by (with_reducible (repeat' (first | assumption | apply jA | apply jB | apply jC | apply jD | apply jE | apply jF | apply hb3 | omega | (simp; done) | (simp; omega) | (dsimp only; omega)))))
      · first
        | exact fun _ _ _ => rfl
        | intro γ γ' hg
          try dsimp only
          have e8 := hg 8 (by decide)
          simp only [e8]
      · rfl
      dsimp only [nA, cA]
      refine RGW.skip (i := 10) rfl rfl ?_
      dsimp only [nA, cA]
      refine RGW.fin (fun γ u wc hwc hd hdis => ?_)
      obtain ⟨⟨h0, -, -⟩, ⟨h1, -, -⟩, ⟨h2, -, -⟩, ⟨h3, -, -⟩, ⟨h4, -, -⟩, ⟨h5, -, -⟩, ⟨h6, -, -⟩, ⟨h7, -, -⟩, ⟨h8, r8, b8⟩, ⟨h9, -, -⟩, -⟩ := hd
      dsimp only at h0 h1 h2 h3 h4 h5 h6 h7 h8 h9 r8 b8
      clear hdis
      simp only [h0, h1, h2, h3, h4, h5, h6, h7, h8, h9]
      clear h9 h8 h7 h6 h5 h4 h3 h2 h1 h0
      replace b8 := b8 _ (List.mem_singleton.2 rfl)
      generalize hγ8 : (γ 8).n = g8 at *
      clear hγ8
      clear u
      simp only [List.map_cons, List.map_nil]
      apply PlanW.step
      · (simp only [gA, gB, gC] <;> rfl)
      · rfl
      intro K hK
      go_simp
      refine hK.out _ _ (by with_reducible first | assumption | exact bx_refl _ _) (fun hcur => ?_)
      clear hK K
      try simp only [Act.put, List.setIfInBounds_toArray, List.set_cons_zero, List.set_cons_succ]
      refine PlanW.done ?_
      have hb3 := bl_tt hwc
      have hbw := hb3 _ hb0
      go_wp2
      go_roundw
      case rel => exact ⟨j + 1, by omega, by go_num, by rw [hn.out], hbw⟩
      case measure => simp [intOf]; omega
    · have : j = nw := by omega
      subst this
      rw [hse.out]
      go_wp2
      go_ret
      exact ⟨by rw [hE.out] <;> rfl, hbx.out.step hb0, hs2.out.below hb0⟩
set_option maxHeartbeats 4000000 in
theorem c_net3 (i funs : Int) (L : List ByteArray) (d : Md) (Bn Bp g m : Nat) (w : World) (kn : Blk w Bn tName #[vName g]) (kp : Blk w Bp 3 #[.int .i64 funs]) (hs : Seen L g m w) (hf : MdIn d w) (hL : L.length ≤ 1000) (hpt : 0 ≤ funs ∧ funs ≤ 1000000)
    (hnm : m ≠ Bn) (hpm : m ≠ Bp) :
    Calls Tryd.prog 108 #[.int .i64 i, vMd d, .pointer (some ⟨Bn, 0, none⟩), .pointer (some ⟨Bp, 0, none⟩)] w
      (fun e w' => e = .returned (.int .i64 (fstE [fstE [unl (nameB d.name) 4, unl (!knownB L d.name) 5], idxErr d.r.l funs])) ∧ BX [m] w w' ∧ Seen (L ++ [d.name]) g m w') := by
  have hcall := Lib.hid fun (W : World) (h : Seen L g m W) => c_names1 L d.name g m W h hf.nm hL
  obtain ⟨nm, rA, rc, rl⟩ := d
  have hf' := Lib.hid hf.row
  have hlen := hf.row.len
  dsimp only at *
  change Calls Tryd.prog 108 #[.int .i64 i, .agg #[.string nm, .slice rA rl.length rc], .pointer (some ⟨Bn, 0, none⟩), .pointer (some ⟨Bp, 0, none⟩)] w _
  have hie := Lib.hid fun (W : World) (h : RwIn ⟨rA, rc, rl⟩ W) => c_indexesErr rl funs rA rc W h.sl h.len hpt
  (try dsimp only at hie)
  generalize rl.length = n at *
  clear hf
  go_enter Tryd.func108, Tryd.ntmps108
  go_upto_region 1 with fail
  have hsn := hs.below (bl_al (.cells #[.string nm, .slice rA n rc] 71) (bl_refl w))
  replace kn := kn.alloc (.cells #[.string nm, .slice rA n rc] 71)
  replace kp := kp.alloc (.cells #[.string nm, .slice rA n rc] 71)
  have k0 := Blk.new w 71 #[.string nm, .slice rA n rc]
  have hbx : BX [m] w (w.alloc (.cells #[.string nm, .slice rA n rc] 71)) := bx_al _ (bx_refl _ _)
  have hmw : m ≠ w.heap.size := fun e => by
    have := hs.lt
    omega
  generalize w.alloc (.cells #[.string nm, .slice rA n rc] 71) = wa at *
  have hmx : w.heap.size ∉ [m] := by simpa using fun e => hmw e.symm
  have hnx : Bn ∉ [m] := by simpa using fun e => hnm e.symm
  have hpx : Bp ∉ [m] := by simpa using fun e => hpm e.symm
  have hml : ∀ x ∈ [m], x < wa.heap.size := by
    have := hsn.lt
    simpa using this
  have L0 := k0.laterX hmx
  have Ln := kn.laterX hnx
  have Lp := kp.laterX hpx
  have hrw := Lib.hid fun (W : World) (h : BX [m] wa W) => hie.out W ((hf'.out.map hs hbx).map hsn h)
  replace hsn := Lib.hid hsn
  replace hbx := Lib.hid hbx
  clear hs hie
  refine wp_anyM (w0 := wa) 3 [m] ⟨[], [], [some 7, some 8, some 9, some 10, some 11, some 12, some 13, some 14, some 15, some 16, some 6], [[], [], [1], [0, 1, 2], [], [4], [], [0, 1, 2, 3, 4, 5, 6], [0, 1, 2, 3, 4, 5, 6, 7], [0, 1, 2, 3, 4, 5, 6, 7, 8], [0, 1, 2, 3, 4, 5, 6, 7, 8, 9]], [[], [], [1], [0, 2], [], [4], [], [5, 6], [3, 7], [3, 8], [3, 8, 9]]⟩ (by kernel_rfl) (by kernel_rfl) rfl (by (with_reducible (repeat' (first | assumption | apply jA | apply jB | apply jC | apply jD | apply jE | apply jF | apply hb3 | omega | (simp; done) | (simp; omega) | (dsimp only; omega))))) (fun u => by simp only [putD, Act.put, List.setIfInBounds_toArray, List.set_cons_zero, List.set_cons_succ, Nat.zero_add, Nat.reduceAdd]; rfl) ?_
  apply RGM.on (i := 0) rfl (by decide)
  · (simp only [gA, gB, gC] <;> rfl)
  · intro γ u W hcur hd
    clear hd
    (try dsimp only)
    refine ⟨rfl, ?_⟩
    go_simp <;> (try go_bits) <;> with_reducible rfl
  · exact fun _ _ _ => rfl
  dsimp only [nA, cA]
  apply RGM.on (i := 1) rfl (by decide)
  · (simp only [gA, gB, gC] <;> rfl)
  · intro γ u W hcur hd
    clear hd
    (try dsimp only)
    refine ⟨rfl, ?_⟩
    go_simp <;> (try go_bits) <;> with_reducible rfl
  · exact fun _ _ _ => rfl
  dsimp only [nA, cA]
  apply RGM.on (i := 2) rfl (by decide)
  · (simp only [gA, gB, gC] <;> rfl)
  · intro γ u W hcur hd
    obtain ⟨⟨h1, -, -⟩, -⟩ := hd
    dsimp only at h1
    (try simp only [h1])
    refine ⟨rfl, ?_⟩
    go_simp <;> (try go_bits) <;> with_reducible rfl
  · exact fun _ _ _ => rfl
  dsimp only [nA, cA]
  apply RGM.mut (⟨fun _ => .int .i64 (fstE [unl (nameB nm) 4, unl (!knownB L nm) 5]), fun _ W => Seen (L ++ [nm]) g m W, fun _ => []⟩) (i := 3) rfl rfl
  · (simp only [gA, gB, gC] <;> rfl)
  · intro γ u W hcur hd
    obtain ⟨⟨h0, -, -⟩, ⟨h2, -, -⟩, -⟩ := hd
    dsimp only at h0 h2
    (try simp only [h0, h2])
    refine ⟨rfl, fun K hK => ?_⟩
    go_simp
    (go_at_call 136; (with_reducible refine (hcall.out _ (hsn.out.below hcur)).mono ?_); rintro e w3 ⟨rfl, hb3, hs3⟩; dsimp only; exact hK.out ⟨0, undef, none, 0⟩ _ _ rfl hb3 hs3 (by simp))
  · exact fun _ _ _ => ⟨rfl, fun _ h => h⟩
  · intro γ W W' hbl hR
    exact hR.below hbl
  dsimp only [nA, cA]
  apply RGM.on (i := 4) rfl (by decide)
  · (simp only [gA, gB, gC] <;> rfl)
  · intro γ u W hcur hd
    clear hd
    (try dsimp only)
    refine ⟨rfl, ?_⟩
    go_simp <;> (try go_bits) <;> with_reducible rfl
  · exact fun _ _ _ => rfl
  dsimp only [nA, cA]
  apply RGM.on (i := 5) rfl (by decide)
  · (simp only [gA, gB, gC] <;> rfl)
  · intro γ u W hcur hd
    obtain ⟨⟨h4, -, -⟩, -⟩ := hd
    dsimp only at h4
    (try simp only [h4])
    refine ⟨rfl, ?_⟩
    go_simp <;> (try go_bits) <;> with_reducible rfl
  · exact fun _ _ _ => rfl
  dsimp only [nA, cA]
  apply RGM.on (i := 6) rfl (by decide)
  · (simp only [gA, gB, gC] <;> rfl)
  · intro γ u W hcur hd
    clear hd
    (try dsimp only)
    refine ⟨rfl, ?_⟩
    go_simp <;> (try go_bits) <;> with_reducible rfl
  · exact fun _ _ _ => rfl
  dsimp only [nA, cA]
  apply RGM.call (i := 7) rfl (by decide)
  · (simp only [gA, gB, gC] <;> rfl)
  · intro γ u W hcur hd
    obtain ⟨⟨h5, -, -⟩, ⟨h6, -, -⟩, -⟩ := hd
    dsimp only at h5 h6
    (try simp only [h5, h6])
    refine ⟨rfl, fun K hK => ?_⟩
    go_simp
    first
    | (go_at_call 106; (with_reducible refine (hrw.out _ hcur).mono ?_); rintro e w3 ⟨rfl, hb3⟩; replace hb3 := bl_tt hb3)
    | (go_at_call 77; (with_reducible refine (c_first2 (by (with_reducible (repeat' (first | assumption | (apply jL; first | (simp; done) | rfl) | apply jM | apply jN | apply jO | apply jP | apply jQ | apply jR | apply jS | apply jT (hb := hb3 _ (jA _)) | omega | (simp; done) | (simp; omega) | (dsimp only; omega)))))).mono ?_); rintro e w3 ⟨rfl, rfl⟩)
    (try dsimp only)
    exact hK.out _ _ rfl (by (with_reducible (repeat' (first | assumption | apply jA | apply jB | apply jC | apply jD | apply jE | apply jF | apply hb3 | omega | (simp; done) | (simp; omega) | (dsimp only; omega)))))
  · exact fun _ _ _ => rfl
  dsimp only [nA, cA]
  apply RGM.bslice (i := 8) rfl (by decide) hml
  · (simp only [gA, gB, gC] <;> rfl)
  · intro γ u W hcur hd
    obtain ⟨⟨h3, r3, -⟩, ⟨h7, -, -⟩, -⟩ := hd
    dsimp only at h3 h7 r3
    (try simp only [h3, h7])
    refine ⟨rfl, fun K hK => ?_⟩
    go_simp
    exact hK.out _ _ rfl rfl
  · exact fun _ _ _ => rfl
  · rfl
  dsimp only [nA, cA]
  apply RGM.call (i := 9) rfl (by decide)
  · (simp only [gA, gB, gC] <;> rfl)
  · intro γ u W hcur hd
    obtain ⟨⟨h3, r3, -⟩, ⟨h8, r8, -⟩, -⟩ := hd
    dsimp only at h3 h8 r3 r8
    (try simp only [h3, h8])
    refine ⟨rfl, fun K hK => ?_⟩
    go_simp
    first
    | (go_at_call 106; (with_reducible refine (hrw.out _ hcur).mono ?_); rintro e w3 ⟨rfl, hb3⟩; replace hb3 := bl_tt hb3)
    | (go_at_call 77; (with_reducible refine (c_first2 (by (with_reducible (repeat' (first | assumption | (apply jL; first | (simp; done) | rfl) | apply jM | apply jN | apply jO | apply jP | apply jQ | apply jR | apply jS | apply jT (hb := hb3 _ (jA _)) | omega | (simp; done) | (simp; omega) | (dsimp only; omega)))))).mono ?_); rintro e w3 ⟨rfl, rfl⟩)
    (try dsimp only)
    exact hK.out _ _ rfl (by (with_reducible (repeat' (first | assumption | apply jA | apply jB | apply jC | apply jD | apply jE | apply jF | apply hb3 | omega | (simp; done) | (simp; omega) | (dsimp only; omega)))))
  · first
    | exact fun _ _ _ => rfl
    | intro γ γ' hg
      try dsimp only
      have e8 := hg 8 (by decide)
      simp only [e8]
  dsimp only [nA, cA]
  apply RGM.on (i := 10) rfl (by decide)
  · (simp only [gA, gB, gC] <;> rfl)
  · intro γ u W hcur hd
    obtain ⟨⟨h3, r3, -⟩, ⟨h8, r8, -⟩, ⟨h9, -, -⟩, -⟩ := hd
    dsimp only at h3 h8 h9 r3 r8
    (try simp only [h3, h8, h9])
    refine ⟨rfl, ?_⟩
    go_simp <;> (try go_bits) <;> with_reducible rfl
  · first
    | exact fun _ _ _ => rfl
    | intro γ γ' hg
      try dsimp only
      have e8 := hg 8 (by decide)
      simp only [e8]
  dsimp only [nA, cA]
  refine RGM.fin (fun γ u wb hwb hd => ?_)
  obtain ⟨⟨h0, -, -⟩, ⟨h1, -, -⟩, ⟨h2, -, -⟩, ⟨h3, r3, -⟩, ⟨h4, -, -⟩, ⟨h5, -, -⟩, ⟨h6, -, -⟩, ⟨h7, -, -⟩, ⟨h8, r8, b8⟩, ⟨h9, -, -⟩, ⟨h10, -, -⟩, -⟩ := hd
  dsimp only at h0 h1 h2 h3 h4 h5 h6 h7 h8 h9 h10 r3 r8 b8
  simp only [h0, h1, h2, h3, h4, h5, h6, h7, h8, h9, h10]
  clear h10 h9 h8 h7 h6 h5 h4 h3 h2 h1 h0
  replace b8 := b8 _ (List.mem_singleton.2 rfl)
  generalize hγ8 : (γ 8).n = g8 at *
  clear hγ8
  clear u
  have hs2 := Lib.hid r3
  clear r3
  go_wp2
  go_ret
  exact ⟨rfl, hbx.out.trans hwb, hs2.out⟩
end Go.Proofs.YtdlmkblmljhbfaaDoor
