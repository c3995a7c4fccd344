/-
  Walks: which nets are valid.
  Walks: which nets are valid, continued.
  Walks: the library's comparison of numbers, and of lists of numbers.
-/
import Derived.Test.YtbdgblnccjpahaaGreatDoorU7
import Derived.Test.YtbdgblnccjpahaaGreatDoorU5
set_option linter.unusedSimpArgs false
set_option linter.unusedVariables false
namespace Go.Proofs.YtbdgblnccjpahaaGreatDoor
open Go.RowKit Go.Shelf
attribute [local go_sem] bl_al bl_drew bl_drewN bl_refl bx_al bx_drew bx_drewN bx_refl
set_option maxRecDepth 20000
structure RwIn (r : Rw) (w : World) : Prop where
  len : r.l.length ≤ 1000
  cap : r.l.length ≤ r.c
  sl : Sl cI 1 w r.A r.l
structure FuIn (f : Fu) (w : World) : Prop where
  nm : f.name.size ≤ maxLen
  len : f.ws.length ≤ 1000
  cap : f.ws.length ≤ f.c
  sl : Sl cRw 1 w f.A f.ws
  rows : ∀ r ∈ f.ws, RwIn r w
structure MdIn (m : Md) (w : World) : Prop where
  nm : m.name.size ≤ maxLen
  row : RwIn m.r w
/-- A net lies where the headers of its slices say. -/
structure NtIn (n : Nt) (Ap Af Am : Option Addr) (cp cf cm : Nat) (w : World) : Prop where
  plen : n.ps.length ≤ 1000
  flen : n.fs.length ≤ 1000
  mlen : n.ms.length ≤ 1000
  pcap : n.ps.length ≤ cp
  fcap : n.fs.length ≤ cf
  mcap : n.ms.length ≤ cm
  psl : Sl cS 1 w Ap n.ps
  fsl : Sl cFu 2 w Af n.fs
  msl : Sl cMd 2 w Am n.ms
  pnm : ∀ s ∈ n.ps, s.size ≤ maxLen
  fin : ∀ f ∈ n.fs, FuIn f w
  min : ∀ m ∈ n.ms, MdIn m w
theorem RwIn.below {r : Rw} {w w' : World} (h : RwIn r w) (hb : Below w.heap.size w w') : RwIn r w' := ⟨h.len, h.cap, h.sl.below hb⟩
theorem FuIn.below {f : Fu} {w w' : World} (h : FuIn f w) (hb : Below w.heap.size w w') : FuIn f w' := ⟨h.nm, h.len, h.cap, h.sl.below hb, fun r hr => (h.rows r hr).below hb⟩
theorem MdIn.below {m : Md} {w w' : World} (h : MdIn m w) (hb : Below w.heap.size w w') : MdIn m w' := ⟨h.nm, h.row.below hb⟩
theorem NtIn.below {n : Nt} {Ap Af Am : Option Addr} {cp cf cm : Nat} {w w' : World} (h : NtIn n Ap Af Am cp cf cm w) (hb : Below w.heap.size w w') : NtIn n Ap Af Am cp cf cm w' :=
  ⟨h.plen, h.flen, h.mlen, h.pcap, h.fcap, h.mcap, h.psl.below hb, h.fsl.below hb, h.msl.below hb, h.pnm, fun f hf => (h.fin f hf).below hb, fun m hm => (h.min m hm).below hb⟩
theorem RwIn.map {r : Rw} {L : List ByteArray} {g m : Nat} {w w' : World} (h : RwIn r w) (hs : Seen L g m w) (hb : BX [m] w w') : RwIn r w' := ⟨h.len, h.cap, sl_map h.sl hs hb⟩
theorem FuIn.map {f : Fu} {L : List ByteArray} {g m : Nat} {w w' : World} (h : FuIn f w) (hs : Seen L g m w) (hb : BX [m] w w') : FuIn f w' := ⟨h.nm, h.len, h.cap, sl_map h.sl hs hb, fun r hr => (h.rows r hr).map hs hb⟩
theorem MdIn.map {d : Md} {L : List ByteArray} {g m : Nat} {w w' : World} (h : MdIn d w) (hs : Seen L g m w) (hb : BX [m] w w') : MdIn d w' := ⟨h.nm, h.row.map hs hb⟩
theorem ways_snoc (parts e : Int) (ws : List Rw) (r : Rw) : waysE parts e (ws ++ [r]) = fstE [waysE parts e ws, unl (decide (0 < r.l.length)) 10, idxErr r.l parts] := by simp [waysE, List.foldl_append]
abbrev vName (g : Nat) : Value := .func (.func 204) #[] #[.pointer (some ⟨g, 0, none⟩)]
abbrev tName : TypeId := 229
theorem c_net1 (i : Int) (L : List ByteArray) (s : ByteArray) (Bn g m : Nat) (w : World) (kn : Blk w Bn tName #[vName g]) (hs : Seen L g m w) (hn : s.size ≤ maxLen) (hL : L.length ≤ 1000) :
    Calls Tryz.prog 171 #[.int .i64 i, .string s, .pointer (some ⟨Bn, 0, none⟩)] w
      (fun e w' => e = .returned (.int .i64 (fstE [unl (nameB s) 4, unl (!knownB L s) 5])) ∧ BX [m] w w' ∧ Seen (L ++ [s]) g m w') := by
  have hcall := Lib.hid (c_names1 L s g m w hs hn hL)
  have L0 := kn.cell
  clear hs
  go_enter Tryz.func171, Tryz.ntmps171
  go_wp2_with fail
  refine hcall.out.mono ?_
  rintro e w3 ⟨rfl, hb3, hs3⟩
  go_wp2
  go_ret
  exact ⟨rfl, hb3, hs3⟩
set_option maxHeartbeats 4000000 in
theorem c_net2 (i parts : Int) (L : List ByteArray) (f : Fu) (Bn Bp g m : Nat) (w : World) (kn : Blk w Bn tName #[vName g]) (kp : Blk w Bp 3 #[.int .i64 parts]) (hs : Seen L g m w) (hf : FuIn f w) (hL : L.length ≤ 1000) (hpt : 0 ≤ parts ∧ parts ≤ 1000000)
    (hnm : m ≠ Bn) (hpm : m ≠ Bp) :
    Calls Tryz.prog 173 #[.int .i64 i, vFu f, .pointer (some ⟨Bn, 0, none⟩), .pointer (some ⟨Bp, 0, none⟩)] w
      (fun e w' => e = .returned (.int .i64 (waysE parts (fstE [fstE [unl (nameB f.name) 4, unl (!knownB L f.name) 5], unl (decide (0 < f.ws.length)) 10, unl (decide ((f.ws.length : Int) ≤ 6)) 8]) f.ws)) ∧ BX [m] w w' ∧ Seen (L ++ [f.name]) g m w') := by
  have hcall := Lib.hid fun (W : World) (h : Seen L g m W) => c_names1 L f.name g m W h hf.nm hL
  obtain ⟨nm, A, c, ws⟩ := f
  have hf' := Lib.hid hf
  have hlen := hf.len
  dsimp only at *
  change Calls Tryz.prog 173 #[.int .i64 i, .agg #[.string nm, .slice A ws.length c], .pointer (some ⟨Bn, 0, none⟩), .pointer (some ⟨Bp, 0, none⟩)] w _
  generalize hwl : ws.length = nw at *
  replace hwl := Lib.hid hwl
  clear hf
  go_enter Tryz.func173, Tryz.ntmps173
  go_upto_region 1 with fail
  have hsn := hs.below (bl_al (.cells #[.string nm, .slice A nw c] 144) (bl_refl w))
  replace kn := kn.alloc (.cells #[.string nm, .slice A nw c] 144)
  replace kp := kp.alloc (.cells #[.string nm, .slice A nw c] 144)
  have k0 := Blk.new w 144 #[.string nm, .slice A nw c]
  have hbx : BX [m] w (w.alloc (.cells #[.string nm, .slice A nw c] 144)) := bx_al _ (bx_refl _ _)
  have hmw : m ≠ w.heap.size := fun e => by
    subst e
    obtain ⟨es, clock, h1, _⟩ := hsn.map
    unfold Blk at k0
    rw [h1] at k0
    cases k0
  generalize w.alloc (.cells #[.string nm, .slice A nw c] 144) = wa at *
  have hmx : w.heap.size ∉ [m] := by simpa using fun e => hmw e.symm
  have hnx : Bn ∉ [m] := by simpa using fun e => hnm e.symm
  have hpx : Bp ∉ [m] := by simpa using fun e => hpm e.symm
  have hml : ∀ x ∈ [m], x < wa.heap.size := by
    obtain ⟨es, clock, h1, _⟩ := hsn.map
    have := (Array.getElem?_eq_some_iff.1 h1).1
    simpa using this
  have L0 := k0.laterX hmx
  have Ln := kn.laterX hnx
  replace hsn := Lib.hid hsn
  have hb0 : Hid (BX [m] w wa) := Lib.hid hbx
  replace hf' := Lib.hid (hf'.out.map hs hbx)
  clear hbx hs
  refine wp_anyM (w0 := wa) 3 [m] ⟨[], [], [some 10, some 11, some 12, some 13, some 14, some 15, some 16, some 17, some 18, some 19, some 20, some 21, some 22, some 23, some 24, some 25, some 7], [[], [], [1], [0, 1, 2], [], [4], [4, 5], [4, 5, 6], [0, 1, 2, 3, 4, 5, 6, 7], [], [9], [9, 10], [9, 10, 11], [0, 1, 2, 3, 4, 5, 6, 7, 8, 9, 10, 11, 12], [0, 1, 2, 3, 4, 5, 6, 7, 8, 9, 10, 11, 12, 13], [0, 1, 2, 3, 4, 5, 6, 7, 8, 9, 10, 11, 12, 13, 14], [0, 1, 2, 3, 4, 5, 6, 7, 8, 9, 10, 11, 12, 13, 14, 15]], [[], [], [1], [0, 2], [], [4], [5], [6], [7], [], [9], [10], [11], [12], [3, 8, 13], [3, 14], [3, 14, 15]]⟩ (by kernel_rfl) (by kernel_rfl) rfl (by (exact zE)) (fun u => by simp only [putD, Act.put, List.setIfInBounds_toArray, List.set_cons_zero, List.set_cons_succ, Nat.zero_add, Nat.reduceAdd]; rfl) ?_
  apply RGM.on (i := 0) rfl (by decide)
  · exact zG
  · intro γ u W hcur hd
    clear hd
    (try dsimp only)
    refine ⟨rfl, ?_⟩
    go_simp <;> (try go_bits) <;> with_reducible rfl
  · exact zC
  dsimp only [nA, cA]
  apply RGM.on (i := 1) rfl (by decide)
  · exact zG
  · intro γ u W hcur hd
    clear hd
    (try dsimp only)
    refine ⟨rfl, ?_⟩
    go_simp <;> (try go_bits) <;> with_reducible rfl
  · exact zC
  dsimp only [nA, cA]
  apply RGM.on (i := 2) rfl (by decide)
  · exact zG
  · intro γ u W hcur hd
    obtain ⟨⟨h1, -, -⟩, -⟩ := hd
    dsimp only at h1
    (try simp only [h1])
    refine ⟨rfl, ?_⟩
    go_simp <;> (try go_bits) <;> with_reducible rfl
  · exact zC
  dsimp only [nA, cA]
  apply RGM.mut (⟨fun _ => .int .i64 (fstE [unl (nameB nm) 4, unl (!knownB L nm) 5]), fun _ W => Seen (L ++ [nm]) g m W, fun _ => []⟩) (i := 3) rfl rfl
  · exact zG
  · intro γ u W hcur hd
    obtain ⟨⟨h0, -, -⟩, ⟨h2, -, -⟩, -⟩ := hd
    dsimp only at h0 h2
    (try simp only [h0, h2])
    refine ⟨rfl, fun K hK => ?_⟩
    go_simp
    (go_at_call 204; (with_reducible refine (hcall.out _ (hsn.out.below hcur)).mono ?_); rintro e w3 ⟨rfl, hb3, hs3⟩; dsimp only; exact hK.out ⟨0, undef, none, 0⟩ _ _ rfl hb3 hs3 (by simp))
  · exact fun _ _ _ => ⟨rfl, fun _ h => h⟩
  · intro γ W W' hbl hR
    exact hR.below hbl
  dsimp only [nA, cA]
  apply RGM.on (i := 4) rfl (by decide)
  · exact zG
  · intro γ u W hcur hd
    clear hd
    (try dsimp only)
    refine ⟨rfl, ?_⟩
    go_simp <;> (try go_bits) <;> with_reducible rfl
  · exact zC
  dsimp only [nA, cA]
  apply RGM.on (i := 5) rfl (by decide)
  · exact zG
  · intro γ u W hcur hd
    obtain ⟨⟨h4, -, -⟩, -⟩ := hd
    dsimp only at h4
    (try simp only [h4])
    refine ⟨rfl, ?_⟩
    go_simp <;> (try go_bits) <;> with_reducible rfl
  · exact zC
  dsimp only [nA, cA]
  apply RGM.on (i := 6) rfl (by decide)
  · exact zG
  · intro γ u W hcur hd
    obtain ⟨⟨h5, -, -⟩, -⟩ := hd
    dsimp only at h5
    (try simp only [h5])
    refine ⟨rfl, ?_⟩
    go_simp <;> (try go_bits) <;> with_reducible rfl
  · exact zC
  dsimp only [nA, cA]
  apply RGM.on (i := 7) rfl (by decide)
  · exact zG
  · intro γ u W hcur hd
    obtain ⟨⟨h6, -, -⟩, -⟩ := hd
    dsimp only at h6
    (try simp only [h6])
    refine ⟨rfl, ?_⟩
    go_simp <;> (try go_bits) <;> with_reducible rfl
  · exact zC
  dsimp only [nA, cA]
  apply RGM.call (i := 8) rfl (by decide)
  · exact zG
  · intro γ u W hcur hd
    obtain ⟨⟨h7, -, -⟩, -⟩ := hd
    dsimp only at h7
    (try simp only [h7])
    refine ⟨rfl, fun K hK => ?_⟩
    go_simp
    first
    | (go_at_call 58; (with_reducible refine (c_unless _ _ _).mono ?_); rintro e w3 ⟨rfl, rfl⟩)
    | (go_at_call 74; (with_reducible refine (c_first3 (by (exact zK))).mono ?_); rintro e w3 ⟨rfl, rfl⟩)
    (try dsimp only)
    exact hK.out _ _ rfl (by (exact zE))
  · exact zC
  dsimp only [nA, cA]
  apply RGM.on (i := 9) rfl (by decide)
  · exact zG
  · intro γ u W hcur hd
    clear hd
    (try dsimp only)
    refine ⟨rfl, ?_⟩
    go_simp <;> (try go_bits) <;> with_reducible rfl
  · exact zC
  dsimp only [nA, cA]
  apply RGM.on (i := 10) rfl (by decide)
  · exact zG
  · intro γ u W hcur hd
    obtain ⟨⟨h9, -, -⟩, -⟩ := hd
    dsimp only at h9
    (try simp only [h9])
    refine ⟨rfl, ?_⟩
    go_simp <;> (try go_bits) <;> with_reducible rfl
  · exact zC
  dsimp only [nA, cA]
  apply RGM.on (i := 11) rfl (by decide)
  · exact zG
  · intro γ u W hcur hd
    obtain ⟨⟨h10, -, -⟩, -⟩ := hd
    dsimp only at h10
    (try simp only [h10])
    refine ⟨rfl, ?_⟩
    go_simp <;> (try go_bits) <;> with_reducible rfl
  · exact zC
  dsimp only [nA, cA]
  apply RGM.on (i := 12) rfl (by decide)
  · exact zG
  · intro γ u W hcur hd
    obtain ⟨⟨h11, -, -⟩, -⟩ := hd
    dsimp only at h11
    (try simp only [h11])
    refine ⟨rfl, ?_⟩
    go_simp <;> (try go_bits) <;> with_reducible rfl
  · exact zC
  dsimp only [nA, cA]
  apply RGM.call (i := 13) rfl (by decide)
  · exact zG
  · intro γ u W hcur hd
    obtain ⟨⟨h12, -, -⟩, -⟩ := hd
    dsimp only at h12
    (try simp only [h12])
    refine ⟨rfl, fun K hK => ?_⟩
    go_simp
    first
    | (go_at_call 58; (with_reducible refine (c_unless _ _ _).mono ?_); rintro e w3 ⟨rfl, rfl⟩)
    | (go_at_call 74; (with_reducible refine (c_first3 (by (exact zK))).mono ?_); rintro e w3 ⟨rfl, rfl⟩)
    (try dsimp only)
    exact hK.out _ _ rfl (by (exact zE))
  · exact zC
  dsimp only [nA, cA]
  apply RGM.bslice (i := 14) rfl (by decide) hml
  · exact zG
  · intro γ u W hcur hd
    obtain ⟨⟨h3, r3, -⟩, ⟨h8, -, -⟩, ⟨h13, -, -⟩, -⟩ := hd
    dsimp only at h3 h8 h13 r3
    (try simp only [h3, h8, h13])
    refine ⟨rfl, fun K hK => ?_⟩
    go_simp
    exact hK.out _ _ rfl rfl
  · exact zC
  · rfl
  dsimp only [nA, cA]
  apply RGM.call (i := 15) rfl (by decide)
  · exact zG
  · intro γ u W hcur hd
    obtain ⟨⟨h3, r3, -⟩, ⟨h14, r14, -⟩, -⟩ := hd
    dsimp only at h3 h14 r3 r14
    (try simp only [h3, h14])
    refine ⟨rfl, fun K hK => ?_⟩
    go_simp
    first
    | (go_at_call 58; (with_reducible refine (c_unless _ _ _).mono ?_); rintro e w3 ⟨rfl, rfl⟩)
    | (go_at_call 74; (with_reducible refine (c_first3 (by (exact zK))).mono ?_); rintro e w3 ⟨rfl, rfl⟩)
    (try dsimp only)
    exact hK.out _ _ rfl (by (exact zE))
  · first
    | exact zC
    | intro γ γ' hg
      try dsimp only
      have e14 := hg 14 (by decide)
      simp only [e14]
  dsimp only [nA, cA]
  apply RGM.on (i := 16) rfl (by decide)
  · exact zG
  · intro γ u W hcur hd
    obtain ⟨⟨h3, r3, -⟩, ⟨h14, r14, -⟩, ⟨h15, -, -⟩, -⟩ := hd
    dsimp only at h3 h14 h15 r3 r14
    (try simp only [h3, h14, h15])
    refine ⟨rfl, ?_⟩
    go_simp <;> (try go_bits) <;> with_reducible rfl
  · first
    | exact zC
    | intro γ γ' hg
      try dsimp only
      have e14 := hg 14 (by decide)
      simp only [e14]
  dsimp only [nA, cA]
  refine RGM.fin (fun γ u wb hwb hd => ?_)
  obtain ⟨⟨h0, -, -⟩, ⟨h1, -, -⟩, ⟨h2, -, -⟩, ⟨h3, r3, -⟩, ⟨h4, -, -⟩, ⟨h5, -, -⟩, ⟨h6, -, -⟩, ⟨h7, -, -⟩, ⟨h8, -, -⟩, ⟨h9, -, -⟩, ⟨h10, -, -⟩, ⟨h11, -, -⟩, ⟨h12, -, -⟩, ⟨h13, -, -⟩, ⟨h14, r14, b14⟩, ⟨h15, -, -⟩, ⟨h16, -, -⟩, -⟩ := hd
  dsimp only at h0 h1 h2 h3 h4 h5 h6 h7 h8 h9 h10 h11 h12 h13 h14 h15 h16 r3 r14 b14
  simp only [h0, h1, h2, h3, h4, h5, h6, h7, h8, h9, h10, h11, h12, h13, h14, h15, h16]
  clear h16 h15 h14 h13 h12 h11 h10 h9 h8 h7 h6 h5 h4 h3 h2 h1 h0
  replace b14 := b14 _ (List.mem_singleton.2 rfl)
  generalize hγ14 : (γ 14).n = g14 at *
  clear hγ14
  clear u
  have hs2 := r3
  have hbx := hb0.out.trans hwb
  replace kp := kp.keep hpx hwb
  have hfb := Lib.hid (hf'.out.map hsn.out hwb)
  replace hs2 := Lib.hid hs2
  replace hbx := Lib.hid hbx
  replace k0 := k0.keep hmx hwb
  have hlp := kp.later
  have hl0 := k0.later
  clear hwb hb0 hf' hsn r3 r14 b14 kn Ln L0 hcall hml
  generalize hE : fstE [fstE [unl (nameB nm) 4, unl (!knownB L nm) 5], unl (decide (0 < nw)) 10, unl (decide ((nw : Int) ≤ 6)) 8] = E at *
  replace hE := Lib.hid hE
  have hst := Lib.hid fun (j : Nat) (r : Rw) (h : ws[j]? = some r) => (show waysE parts E (ws.take (j + 1)) = fstE [waysE parts E (ws.take j), unl (decide (0 < r.l.length)) 10, idxErr r.l parts] by rw [List.take_add_one, h]; exact ways_snoc parts E _ r)
  have hs0 : Hid (waysE parts E (ws.take 0) = E) := rfl
  have hse : Hid (waysE parts E (ws.take nw) = waysE parts E ws) := Lib.hid (by rw [List.take_of_length_le (by have := hwl.out; omega)])
  obtain ⟨f, hf⟩ : ∃ f : Nat → Int, ∀ j, waysE parts E (ws.take j) = f j := ⟨_, fun _ => rfl⟩
  simp only [hf] at hst hs0 hse
  clear hf
  go_wp2
  go_loopw [7, 29] (fun v i wr => ∃ j : Nat, j ≤ nw ∧ i = .int .i64 j ∧ v = .int .i64 (f j) ∧ Below wb.heap.size wb wr) (fun _ i _ => nw - (intOf i).toNat)
  case atStart => exact ⟨0, Nat.zero_le _, rfl, by rw [hs0.out], Below.refl _ _⟩
  case round =>
    obtain ⟨j, hj, rfl, rfl, hb0⟩ := hrel
    by_cases hlt : j < nw
    · have hx : ws[j]? = some (ws[j]'(by rw [hwl.out]; exact hlt)) := List.getElem?_eq_getElem _
      generalize ws[j]'(by rw [hwl.out]; exact hlt) = r at hx
      have hr := (hfb.out.below hb0).rows r (List.mem_of_getElem? hx)
      obtain ⟨b, off, hA, hc⟩ := (hfb.out.below hb0).sl j r hx
      have hn := Lib.hid (hst.out j r hx)
      obtain ⟨rA, rc, rl⟩ := r
      dsimp only at hA
      subst hA
      have c0 : wr.cell? ⟨b, off + j, none⟩ = some (.slice rA rl.length rc) := by simpa using hc 0 _ rfl
      have hie := Lib.hid fun (W : World) (hb : Below wr.heap.size wr W) => c_indexesErr rl parts rA rc W (hr.sl.below hb) hr.len hpt
      have hrl := hr.len
      dsimp only at hrl hn
      clear hc hx hr
      generalize rl.length = n at *
      go_upto_region 5 with fail
      have hlp' := fun W (h : Below wr.heap.size wr W) => hlp W (bl_tr hb0 h)
      refine wp_any (w0 := wr) ⟨[10], [], [some 33, some 34, some 35, some 36, some 37, some 38, some 39, some 40, some 41, some 42, none], [[], [], [1], [1, 2], [1, 2, 3], [], [], [1, 2, 3, 4, 5, 6], [0, 1, 2, 3, 4, 5, 6, 7], [0, 1, 2, 3, 4, 5, 6, 7, 8], [0, 1, 2, 3, 4, 5, 6, 7, 8, 9]], [[], [], [1], [2], [3], [], [], [5, 6], [0, 4, 7], [8], []]⟩ (fun _ => []) (by kernel_rfl) (by kernel_rfl) (by (exact zE)) (fun u => by simp only [putD, Act.put, List.setIfInBounds_toArray, List.set_cons_zero, List.set_cons_succ, Nat.zero_add, Nat.reduceAdd]; rfl) ?_
      apply RGW.on (i := 0) rfl
      · exact zG
      · intro γ u W hcur hd
        clear hd
        (try dsimp only)
        exact ⟨rfl, zS⟩
      · exact zC
      · rfl
      dsimp only [nA, cA]
      apply RGW.on (i := 1) rfl
      · exact zG
      · intro γ u W hcur hd
        clear hd
        (try dsimp only)
        exact ⟨rfl, zS⟩
      · exact zC
      · rfl
      dsimp only [nA, cA]
      apply RGW.on (i := 2) rfl
      · exact zG
      · intro γ u W hcur hd
        obtain ⟨⟨h1, -, -⟩, -⟩ := hd
        dsimp only at h1
        (try simp only [h1])
        exact ⟨rfl, zS⟩
      · exact zC
      · rfl
      dsimp only [nA, cA]
      apply RGW.on (i := 3) rfl
      · exact zG
      · intro γ u W hcur hd
        obtain ⟨⟨h2, -, -⟩, -⟩ := hd
        dsimp only at h2
        (try simp only [h2])
        exact ⟨rfl, zS⟩
      · exact zC
      · rfl
      dsimp only [nA, cA]
      apply RGW.call (i := 4) rfl
      · exact zG
      · intro γ u W hcur hd
        obtain ⟨⟨h3, -, -⟩, -⟩ := hd
        dsimp only at h3
        (try simp only [h3])
        refine ⟨rfl, fun K hK => ?_⟩
        go_simp
        first
        | (go_at_call 58; (with_reducible refine (c_unless _ _ _).mono ?_); rintro e w3 ⟨rfl, rfl⟩)
        | (go_at_call 143; (with_reducible refine (hie.out _ (by (exact zE))).mono ?_); rintro e w3 ⟨rfl, hb3⟩; replace hb3 := bl_tt hb3)
        | (go_at_call 74; (with_reducible refine (c_first3 (by (exact zK))).mono ?_); rintro e w3 ⟨rfl, rfl⟩)
        (try dsimp only)
        exact hK.out _ _ rfl (by (exact zE))
      · exact zC
      · rfl
      dsimp only [nA, cA]
      apply RGW.on (i := 5) rfl
      · exact zG
      · intro γ u W hcur hd
        clear hd
        (try dsimp only)
        exact ⟨rfl, zS⟩
      · exact zC
      · rfl
      dsimp only [nA, cA]
      apply RGW.on (i := 6) rfl
      · exact zG
      · intro γ u W hcur hd
        clear hd
        (try dsimp only)
        exact ⟨rfl, zS⟩
      · exact zC
      · rfl
      dsimp only [nA, cA]
      apply RGW.call (i := 7) rfl
      · exact zG
      · intro γ u W hcur hd
        obtain ⟨⟨h5, -, -⟩, ⟨h6, -, -⟩, -⟩ := hd
        dsimp only at h5 h6
        (try simp only [h5, h6])
        refine ⟨rfl, fun K hK => ?_⟩
        go_simp
        first
        | (go_at_call 58; (with_reducible refine (c_unless _ _ _).mono ?_); rintro e w3 ⟨rfl, rfl⟩)
        | (go_at_call 143; (with_reducible refine (hie.out _ (by (exact zE))).mono ?_); rintro e w3 ⟨rfl, hb3⟩; replace hb3 := bl_tt hb3)
        | (go_at_call 74; (with_reducible refine (c_first3 (by (exact zK))).mono ?_); rintro e w3 ⟨rfl, rfl⟩)
        (try dsimp only)
        exact hK.out _ _ rfl (by (exact zE))
      · exact zC
      · rfl
      dsimp only [nA, cA]
      apply RGW.bslice (i := 8) rfl
      · exact zG
      · intro γ u W hcur hd
        obtain ⟨⟨h0, -, -⟩, ⟨h4, -, -⟩, ⟨h7, -, -⟩, -⟩ := hd
        dsimp only at h0 h4 h7
        (try simp only [h0, h4, h7])
        refine ⟨rfl, fun K hK => ?_⟩
        go_simp
        exact hK.out _ _ rfl rfl
      · exact zC
      · rfl
      · rfl
      dsimp only [nA, cA]
      apply RGW.call (i := 9) rfl
      · exact zG
      · intro γ u W hcur hd
        obtain ⟨⟨h8, r8, -⟩, -⟩ := hd
        dsimp only at h8 r8
        have L8 := r8.cell
        (try simp only [h8])
        refine ⟨rfl, fun K hK => ?_⟩
        go_simp
        first
        | (go_at_call 58; (with_reducible refine (c_unless _ _ _).mono ?_); rintro e w3 ⟨rfl, rfl⟩)
        | (go_at_call 143; (with_reducible refine (hie.out _ (by (exact zE))).mono ?_); rintro e w3 ⟨rfl, hb3⟩; replace hb3 := bl_tt hb3)
        | (go_at_call 74; (with_reducible refine (c_first3 (by (exact zK))).mono ?_); rintro e w3 ⟨rfl, rfl⟩)
        (try dsimp only)
        exact hK.out _ _ rfl (by (exact zE))
      · first
        | exact zC
        | intro γ γ' hg
          try dsimp only
          have e8 := hg 8 (by decide)
          simp only [e8]
      · rfl
      dsimp only [nA, cA]
      refine RGW.skip (i := 10) rfl rfl ?_
      dsimp only [nA, cA]
      refine RGW.fin (fun γ u wc hwc hd hdis => ?_)
      obtain ⟨⟨h0, -, -⟩, ⟨h1, -, -⟩, ⟨h2, -, -⟩, ⟨h3, -, -⟩, ⟨h4, -, -⟩, ⟨h5, -, -⟩, ⟨h6, -, -⟩, ⟨h7, -, -⟩, ⟨h8, r8, b8⟩, ⟨h9, -, -⟩, -⟩ := hd
      dsimp only at h0 h1 h2 h3 h4 h5 h6 h7 h8 h9 r8 b8
      clear hdis
      simp only [h0, h1, h2, h3, h4, h5, h6, h7, h8, h9]
      clear h9 h8 h7 h6 h5 h4 h3 h2 h1 h0
      replace b8 := b8 _ (List.mem_singleton.2 rfl)
      generalize hγ8 : (γ 8).n = g8 at *
      clear hγ8
      clear u
      simp only [List.map_cons, List.map_nil]
      apply PlanW.step
      · exact zG
      · rfl
      intro K hK
      go_simp
      refine hK.out _ _ (by with_reducible first | assumption | exact bx_refl _ _) (fun hcur => ?_)
      clear hK K
      try simp only [Act.put, List.setIfInBounds_toArray, List.set_cons_zero, List.set_cons_succ]
      refine PlanW.done ?_
      have hb3 := bl_tt hwc
      have hbw := hb3 _ hb0
      go_wp2
      go_roundw
      case rel => exact ⟨j + 1, by omega, by go_num, by rw [hn.out], hbw⟩
      case measure => simp [intOf]; omega
    · have : j = nw := by omega
      subst this
      rw [hse.out]
      go_wp2
      go_ret
      exact ⟨by rw [hE.out] <;> rfl, hbx.out.step hb0, hs2.out.below hb0⟩
set_option maxHeartbeats 4000000 in
theorem c_net3 (i funs : Int) (L : List ByteArray) (d : Md) (Bn Bp g m : Nat) (w : World) (kn : Blk w Bn tName #[vName g]) (kp : Blk w Bp 3 #[.int .i64 funs]) (hs : Seen L g m w) (hf : MdIn d w) (hL : L.length ≤ 1000) (hpt : 0 ≤ funs ∧ funs ≤ 1000000)
    (hnm : m ≠ Bn) (hpm : m ≠ Bp) :
    Calls Tryz.prog 175 #[.int .i64 i, vMd d, .pointer (some ⟨Bn, 0, none⟩), .pointer (some ⟨Bp, 0, none⟩)] w
      (fun e w' => e = .returned (.int .i64 (fstE [fstE [unl (nameB d.name) 4, unl (!knownB L d.name) 5], idxErr d.r.l funs])) ∧ BX [m] w w' ∧ Seen (L ++ [d.name]) g m w') := by
  have hcall := Lib.hid fun (W : World) (h : Seen L g m W) => c_names1 L d.name g m W h hf.nm hL
  obtain ⟨nm, rA, rc, rl⟩ := d
  have hf' := Lib.hid hf.row
  have hlen := hf.row.len
  dsimp only at *
  change Calls Tryz.prog 175 #[.int .i64 i, .agg #[.string nm, .slice rA rl.length rc], .pointer (some ⟨Bn, 0, none⟩), .pointer (some ⟨Bp, 0, none⟩)] w _
  have hie := Lib.hid fun (W : World) (h : RwIn ⟨rA, rc, rl⟩ W) => c_indexesErr rl funs rA rc W h.sl h.len hpt
  (try dsimp only at hie)
  generalize rl.length = n at *
  clear hf
  go_enter Tryz.func175, Tryz.ntmps175
  go_upto_region 1 with fail
  have hsn := hs.below (bl_al (.cells #[.string nm, .slice rA n rc] 146) (bl_refl w))
  replace kn := kn.alloc (.cells #[.string nm, .slice rA n rc] 146)
  replace kp := kp.alloc (.cells #[.string nm, .slice rA n rc] 146)
  have k0 := Blk.new w 146 #[.string nm, .slice rA n rc]
  have hbx : BX [m] w (w.alloc (.cells #[.string nm, .slice rA n rc] 146)) := bx_al _ (bx_refl _ _)
  have hmw : m ≠ w.heap.size := fun e => by
    have := hs.lt
    omega
  generalize w.alloc (.cells #[.string nm, .slice rA n rc] 146) = wa at *
  have hmx : w.heap.size ∉ [m] := by simpa using fun e => hmw e.symm
  have hnx : Bn ∉ [m] := by simpa using fun e => hnm e.symm
  have hpx : Bp ∉ [m] := by simpa using fun e => hpm e.symm
  have hml : ∀ x ∈ [m], x < wa.heap.size := by
    have := hsn.lt
    simpa using this
  have L0 := k0.laterX hmx
  have Ln := kn.laterX hnx
  have Lp := kp.laterX hpx
  have hrw := Lib.hid fun (W : World) (h : BX [m] wa W) => hie.out W ((hf'.out.map hs hbx).map hsn h)
  replace hsn := Lib.hid hsn
  replace hbx := Lib.hid hbx
  clear hs hie
  refine wp_anyM (w0 := wa) 3 [m] ⟨[], [], [some 7, some 8, some 9, some 10, some 11, some 12, some 13, some 14, some 15, some 16, some 6], [[], [], [1], [0, 1, 2], [], [4], [], [0, 1, 2, 3, 4, 5, 6], [0, 1, 2, 3, 4, 5, 6, 7], [0, 1, 2, 3, 4, 5, 6, 7, 8], [0, 1, 2, 3, 4, 5, 6, 7, 8, 9]], [[], [], [1], [0, 2], [], [4], [], [5, 6], [3, 7], [3, 8], [3, 8, 9]]⟩ (by kernel_rfl) (by kernel_rfl) rfl (by (exact zE)) (fun u => by simp only [putD, Act.put, List.setIfInBounds_toArray, List.set_cons_zero, List.set_cons_succ, Nat.zero_add, Nat.reduceAdd]; rfl) ?_
  apply RGM.on (i := 0) rfl (by decide)
  · exact zG
  · intro γ u W hcur hd
    clear hd
    (try dsimp only)
    refine ⟨rfl, ?_⟩
    go_simp <;> (try go_bits) <;> with_reducible rfl
  · exact zC
  dsimp only [nA, cA]
  apply RGM.on (i := 1) rfl (by decide)
  · exact zG
  · intro γ u W hcur hd
    clear hd
    (try dsimp only)
    refine ⟨rfl, ?_⟩
    go_simp <;> (try go_bits) <;> with_reducible rfl
  · exact zC
  dsimp only [nA, cA]
  apply RGM.on (i := 2) rfl (by decide)
  · exact zG
  · intro γ u W hcur hd
    obtain ⟨⟨h1, -, -⟩, -⟩ := hd
    dsimp only at h1
    (try simp only [h1])
    refine ⟨rfl, ?_⟩
    go_simp <;> (try go_bits) <;> with_reducible rfl
  · exact zC
  dsimp only [nA, cA]
  apply RGM.mut (⟨fun _ => .int .i64 (fstE [unl (nameB nm) 4, unl (!knownB L nm) 5]), fun _ W => Seen (L ++ [nm]) g m W, fun _ => []⟩) (i := 3) rfl rfl
  · exact zG
  · intro γ u W hcur hd
    obtain ⟨⟨h0, -, -⟩, ⟨h2, -, -⟩, -⟩ := hd
    dsimp only at h0 h2
    (try simp only [h0, h2])
    refine ⟨rfl, fun K hK => ?_⟩
    go_simp
    (go_at_call 204; (with_reducible refine (hcall.out _ (hsn.out.below hcur)).mono ?_); rintro e w3 ⟨rfl, hb3, hs3⟩; dsimp only; exact hK.out ⟨0, undef, none, 0⟩ _ _ rfl hb3 hs3 (by simp))
  · exact fun _ _ _ => ⟨rfl, fun _ h => h⟩
  · intro γ W W' hbl hR
    exact hR.below hbl
  dsimp only [nA, cA]
  apply RGM.on (i := 4) rfl (by decide)
  · exact zG
  · intro γ u W hcur hd
    clear hd
    (try dsimp only)
    refine ⟨rfl, ?_⟩
    go_simp <;> (try go_bits) <;> with_reducible rfl
  · exact zC
  dsimp only [nA, cA]
  apply RGM.on (i := 5) rfl (by decide)
  · exact zG
  · intro γ u W hcur hd
    obtain ⟨⟨h4, -, -⟩, -⟩ := hd
    dsimp only at h4
    (try simp only [h4])
    refine ⟨rfl, ?_⟩
    go_simp <;> (try go_bits) <;> with_reducible rfl
  · exact zC
  dsimp only [nA, cA]
  apply RGM.on (i := 6) rfl (by decide)
  · exact zG
  · intro γ u W hcur hd
    clear hd
    (try dsimp only)
    refine ⟨rfl, ?_⟩
    go_simp <;> (try go_bits) <;> with_reducible rfl
  · exact zC
  dsimp only [nA, cA]
  apply RGM.call (i := 7) rfl (by decide)
  · exact zG
  · intro γ u W hcur hd
    obtain ⟨⟨h5, -, -⟩, ⟨h6, -, -⟩, -⟩ := hd
    dsimp only at h5 h6
    (try simp only [h5, h6])
    refine ⟨rfl, fun K hK => ?_⟩
    go_simp
    first
    | (go_at_call 143; (with_reducible refine (hrw.out _ hcur).mono ?_); rintro e w3 ⟨rfl, hb3⟩; replace hb3 := bl_tt hb3)
    | (go_at_call 74; (with_reducible refine (c_first2 (by (exact zK))).mono ?_); rintro e w3 ⟨rfl, rfl⟩)
    (try dsimp only)
    exact hK.out _ _ rfl (by (exact zE))
  · exact zC
  dsimp only [nA, cA]
  apply RGM.bslice (i := 8) rfl (by decide) hml
  · exact zG
  · intro γ u W hcur hd
    obtain ⟨⟨h3, r3, -⟩, ⟨h7, -, -⟩, -⟩ := hd
    dsimp only at h3 h7 r3
    (try simp only [h3, h7])
    refine ⟨rfl, fun K hK => ?_⟩
    go_simp
    exact hK.out _ _ rfl rfl
  · exact zC
  · rfl
  dsimp only [nA, cA]
  apply RGM.call (i := 9) rfl (by decide)
  · exact zG
  · intro γ u W hcur hd
    obtain ⟨⟨h3, r3, -⟩, ⟨h8, r8, -⟩, -⟩ := hd
    dsimp only at h3 h8 r3 r8
    (try simp only [h3, h8])
    refine ⟨rfl, fun K hK => ?_⟩
    go_simp
    first
    | (go_at_call 143; (with_reducible refine (hrw.out _ hcur).mono ?_); rintro e w3 ⟨rfl, hb3⟩; replace hb3 := bl_tt hb3)
    | (go_at_call 74; (with_reducible refine (c_first2 (by (exact zK))).mono ?_); rintro e w3 ⟨rfl, rfl⟩)
    (try dsimp only)
    exact hK.out _ _ rfl (by (exact zE))
  · first
    | exact zC
    | intro γ γ' hg
      try dsimp only
      have e8 := hg 8 (by decide)
      simp only [e8]
  dsimp only [nA, cA]
  apply RGM.on (i := 10) rfl (by decide)
  · exact zG
  · intro γ u W hcur hd
    obtain ⟨⟨h3, r3, -⟩, ⟨h8, r8, -⟩, ⟨h9, -, -⟩, -⟩ := hd
    dsimp only at h3 h8 h9 r3 r8
    (try simp only [h3, h8, h9])
    refine ⟨rfl, ?_⟩
    go_simp <;> (try go_bits) <;> with_reducible rfl
  · first
    | exact zC
    | intro γ γ' hg
      try dsimp only
      have e8 := hg 8 (by decide)
      simp only [e8]
  dsimp only [nA, cA]
  refine RGM.fin (fun γ u wb hwb hd => ?_)
  obtain ⟨⟨h0, -, -⟩, ⟨h1, -, -⟩, ⟨h2, -, -⟩, ⟨h3, r3, -⟩, ⟨h4, -, -⟩, ⟨h5, -, -⟩, ⟨h6, -, -⟩, ⟨h7, -, -⟩, ⟨h8, r8, b8⟩, ⟨h9, -, -⟩, ⟨h10, -, -⟩, -⟩ := hd
  dsimp only at h0 h1 h2 h3 h4 h5 h6 h7 h8 h9 h10 r3 r8 b8
  simp only [h0, h1, h2, h3, h4, h5, h6, h7, h8, h9, h10]
  clear h10 h9 h8 h7 h6 h5 h4 h3 h2 h1 h0
  replace b8 := b8 _ (List.mem_singleton.2 rfl)
  generalize hγ8 : (γ 8).n = g8 at *
  clear hγ8
  clear u
  have hs2 := Lib.hid r3
  clear r3
  go_wp2
  go_ret
  exact ⟨rfl, hbx.out.trans hwb, hs2.out⟩
end Go.Proofs.YtbdgblnccjpahaaGreatDoor
namespace Go.Proofs.YtbdgblnccjpahaaGreatDoor
open Go.RowKit Go.Shelf
attribute [local go_sem] bl_al bl_drew bl_drewN bl_refl bx_al bx_drew bx_drewN bx_refl
set_option maxRecDepth 20000
theorem take_next {α : Type} {l : List α} {k : Nat} {x : α} (h : l[k]? = some x) : l.take (k + 1) = l.take k ++ [x] := by rw [List.take_add_one, h]; rfl
theorem c_eachP (l : List ByteArray) (A : Option Addr) (c Bn g m : Nat) (w : World) (kn : Blk w Bn tName #[vName g]) (hs : Seen [] g m w) (hnm : m ≠ Bn) (hl : Sl cS 1 w A l) (hlen : l.length ≤ 1000) (hsz : ∀ s ∈ l, s.size ≤ maxLen) :
    Calls Tryz.prog 170 #[.slice A l.length c, .func (.func 171) #[] #[.pointer (some ⟨Bn, 0, none⟩)]] w
      (fun e w' => e = .returned (.tuple #[.int .i64 (eachS (nmErr l) l 0).1, .int .i64 (eachS (nmErr l) l 0).2]) ∧ BX [m] w w') :=
  (c_eachJN 171 #[.pointer (some ⟨Bn, 0, none⟩)] (nmErr l) (fun k W => Seen (l.take k) g m W) [m] A l c w (by omega) (enters_of Tryz.func171 (by kernel_rfl) rfl) (fun k X Y h hb => h.below hb)
    (fun k x hx W hb hj => (c_net1 k (l.take k) x Bn g m W (kn.keep (by simpa using fun e => hnm e.symm) hb) hj (hsz x (List.mem_of_getElem? hx)) (by rw [List.length_take]; omega)).mono fun e W' ⟨e1, e2, e3⟩ => ⟨e1, e2, fun _ => by rw [take_next hx]; exact e3⟩)
    (fun W hb => sl_map hl hs hb) hs).mono fun e W' ⟨h1, h2, _⟩ => ⟨h1, h2⟩
theorem c_eachFu (parts : Nat) (l : List Fu) (A : Option Addr) (c Bn Bp g m : Nat) (w : World) (kn : Blk w Bn tName #[vName g]) (kp : Blk w Bp 3 #[.int .i64 parts]) (hs : Seen [] g m w) (hnm : m ≠ Bn) (hpm : m ≠ Bp) (hl : Sl cFu 2 w A l) (hlen : l.length ≤ 1000) (hin : ∀ f ∈ l, FuIn f w) (hpt : parts ≤ 1000) :
    Calls Tryz.prog 172 #[.slice A l.length c, .func (.func 173) #[] #[.pointer (some ⟨Bn, 0, none⟩), .pointer (some ⟨Bp, 0, none⟩)]] w
      (fun e w' => e = .returned (.tuple #[.int .i64 (eachS (fuErr parts (l.map fun f : Fu => f.name)) l 0).1, .int .i64 (eachS (fuErr parts (l.map fun f : Fu => f.name)) l 0).2]) ∧ BX [m] w w') :=
  (c_eachJF 173 #[.pointer (some ⟨Bn, 0, none⟩), .pointer (some ⟨Bp, 0, none⟩)] (fuErr parts (l.map fun f : Fu => f.name)) (fun k W => Seen ((l.map fun f : Fu => f.name).take k) g m W) [m] A l c w (by omega) (enters_of Tryz.func173 (by kernel_rfl) rfl) (fun k X Y h hb => h.below hb)
    (fun k x hx W hb hj => (c_net2 k parts ((l.map fun f : Fu => f.name).take k) x Bn Bp g m W (kn.keep (by simpa using fun e => hnm e.symm) hb) (kp.keep (by simpa using fun e => hpm e.symm) hb) hj ((hin x (List.mem_of_getElem? hx)).map hs hb)
      (by rw [List.length_take, List.length_map]; omega) (by omega) hnm hpm).mono fun e W' ⟨e1, e2, e3⟩ => ⟨e1, e2, fun _ => by rw [take_next (x := x.name) (by rw [List.getElem?_map, hx]; rfl)]; exact e3⟩)
    (fun W hb => sl_map hl hs hb) hs).mono fun e W' ⟨h1, h2, _⟩ => ⟨h1, h2⟩
theorem c_eachMd (funs : Nat) (l : List Md) (A : Option Addr) (c Bn Bp g m : Nat) (w : World) (kn : Blk w Bn tName #[vName g]) (kp : Blk w Bp 3 #[.int .i64 funs]) (hs : Seen [] g m w) (hnm : m ≠ Bn) (hpm : m ≠ Bp) (hl : Sl cMd 2 w A l) (hlen : l.length ≤ 1000) (hin : ∀ f ∈ l, MdIn f w) (hpt : funs ≤ 1000) :
    Calls Tryz.prog 174 #[.slice A l.length c, .func (.func 175) #[] #[.pointer (some ⟨Bn, 0, none⟩), .pointer (some ⟨Bp, 0, none⟩)]] w
      (fun e w' => e = .returned (.tuple #[.int .i64 (eachS (mdErr funs (l.map fun f : Md => f.name)) l 0).1, .int .i64 (eachS (mdErr funs (l.map fun f : Md => f.name)) l 0).2]) ∧ BX [m] w w') :=
  (c_eachJM 175 #[.pointer (some ⟨Bn, 0, none⟩), .pointer (some ⟨Bp, 0, none⟩)] (mdErr funs (l.map fun f : Md => f.name)) (fun k W => Seen ((l.map fun f : Md => f.name).take k) g m W) [m] A l c w (by omega) (enters_of Tryz.func175 (by kernel_rfl) rfl) (fun k X Y h hb => h.below hb)
    (fun k x hx W hb hj => (c_net3 k funs ((l.map fun f : Md => f.name).take k) x Bn Bp g m W (kn.keep (by simpa using fun e => hnm e.symm) hb) (kp.keep (by simpa using fun e => hpm e.symm) hb) hj ((hin x (List.mem_of_getElem? hx)).map hs hb)
      (by rw [List.length_take, List.length_map]; omega) (by omega) hnm hpm).mono fun e W' ⟨e1, e2, e3⟩ => ⟨e1, e2, fun _ => by rw [take_next (x := x.name) (by rw [List.getElem?_map, hx]; rfl)]; exact e3⟩)
    (fun W hb => sl_map hl hs hb) hs).mono fun e W' ⟨h1, h2, _⟩ => ⟨h1, h2⟩
abbrev aNt (Ap Af Am : Option Addr) (np nf nm cp cf cm : Nat) : Array Value := #[.slice Ap np cp, .slice Af nf cf, .slice Am nm cm]
abbrev vNt (Ap Af Am : Option Addr) (np nf nm cp cf cm : Nat) : Value := .agg (aNt Ap Af Am np nf nm cp cf cm)
set_option maxHeartbeats 8000000 in
theorem c_CheckNet (n : Nt) (Ap Af Am : Option Addr) (cp cf cm : Nat) (w : World) (hn : NtIn n Ap Af Am cp cf cm w) :
    Calls Tryz.prog 138 #[vNt Ap Af Am n.ps.length n.fs.length n.ms.length cp cf cm] w (Ret (.tuple #[.int .i64 (netChk n).1, .int .i64 (netChk n).2]) w) := by
  have Hn := Lib.hid hn
  have h1 := hn.plen
  have h2 := hn.flen
  have h3 := hn.mlen
  have hE : Hid (n.e0 = fstE [unl (decide (0 < n.ps.length)) 10, unl (decide (max (n.ps.length : Int) n.fs.length ≤ 10) && decide ((n.ms.length : Int) ≤ 6)) 8]) := rfl
  have r0 : Hid (n.e0 ≠ 0 → netChk n = (0, n.e0)) := fun h => by rw [netChk, if_neg h]
  have r1 : Hid (n.e0 = 0 → (eachS (nmErr n.ps) n.ps 0).2 ≠ 0 → netChk n = eachS (nmErr n.ps) n.ps 0) := fun h h' => by rw [netChk, if_pos h, if_neg h']
  have r2 : Hid (n.e0 = 0 → (eachS (nmErr n.ps) n.ps 0).2 = 0 → (eachS (fuErr n.ps.length (n.fs.map fun f : Fu => f.name)) n.fs 0).2 ≠ 0 → netChk n = eachS (fuErr n.ps.length (n.fs.map fun f : Fu => f.name)) n.fs 0) := fun h h' h'' => by rw [netChk, if_pos h, if_pos h', if_neg h'']
  have r3 : Hid (n.e0 = 0 → (eachS (nmErr n.ps) n.ps 0).2 = 0 → (eachS (fuErr n.ps.length (n.fs.map fun f : Fu => f.name)) n.fs 0).2 = 0 → netChk n = eachS (mdErr n.fs.length (n.ms.map fun f : Md => f.name)) n.ms 0) := fun h h' h'' => by rw [netChk, if_pos h, if_pos h', if_pos h'']
  have hp := Lib.hid fun (Bn g m : Nat) (W : World) (hb : Below w.heap.size w W) (kn : Blk W Bn tName #[vName g]) (hs : Seen [] g m W) (hnm : m ≠ Bn) => c_eachP n.ps Ap cp Bn g m W kn hs hnm (Hn.out.psl.below hb) h1 Hn.out.pnm
  have hf := Lib.hid fun (Bn Bp g m : Nat) (W : World) (hb : Below w.heap.size w W) (kn : Blk W Bn tName #[vName g]) (kp : Blk W Bp 3 #[.int .i64 n.ps.length]) (hs : Seen [] g m W) (hnm : m ≠ Bn) (hpm : m ≠ Bp) =>
    c_eachFu n.ps.length n.fs Af cf Bn Bp g m W kn kp hs hnm hpm (Hn.out.fsl.below hb) h2 (fun f hf => (Hn.out.fin f hf).below hb) h1
  have hm := Lib.hid fun (Bn Bp g m : Nat) (W : World) (hb : Below w.heap.size w W) (kn : Blk W Bn tName #[vName g]) (kp : Blk W Bp 3 #[.int .i64 n.fs.length]) (hs : Seen [] g m W) (hnm : m ≠ Bn) (hpm : m ≠ Bp) =>
    c_eachMd n.fs.length n.ms Am cm Bn Bp g m W kn kp hs hnm hpm (Hn.out.msl.below hb) h3 (fun f hf => (Hn.out.min f hf).below hb) h2
  clear hn Hn
  generalize eachS (nmErr n.ps) n.ps 0 = P1 at *
  generalize eachS (fuErr n.ps.length (n.fs.map fun f : Fu => f.name)) n.fs 0 = P2 at *
  generalize eachS (mdErr n.fs.length (n.ms.map fun f : Md => f.name)) n.ms 0 = P3 at *
  obtain ⟨p1, q1⟩ := P1
  obtain ⟨p2, q2⟩ := P2
  obtain ⟨p3, q3⟩ := P3
  dsimp only at *
  change Calls Tryz.prog 138 #[.agg #[.slice Ap n.ps.length cp, .slice Af n.fs.length cf, .slice Am n.ms.length cm]] w _
  generalize n.ps.length = np at *
  generalize n.fs.length = nf at *
  generalize n.ms.length = nm at *
  cases hA : decide (max (np : Int) nf ≤ 10)
  all_goals
    rw [hA] at hE
    simp only [Bool.false_and, Bool.true_and] at hE
    go_enter Tryz.func138, Tryz.ntmps138
    go_upto_region 1 with fail
    first
    | apply absB1 (w0 := w) (g0 := w.heap.size)
    | apply absTB1 (w0 := w) (g0 := w.heap.size)
    | apply absIB1 (w0 := w) (g0 := w.heap.size)
    iterate 2 (focus exact zL)
    try clear hb3
    try clear hb0
    try clear k0
    intro wa hb0 k0
    (try simp only [List.setIfInBounds_toArray, List.set_cons_zero, List.set_cons_succ] at k0)
    have Lk0 := k0.later
    have Fk0 := k0.laterF
    have Qk0 := k0.lt
    refine wp_any (w0 := wa) ⟨[8, 9], [3, 4, 5], [some 12, some 13, some 14, some 15, some 16, some 17, some 4, some 5, none, none], [[], [0], [0, 1], [], [3], [3, 4], [], [], [0, 1, 2, 6, 7], [0, 1, 2, 3, 4, 5, 6, 7, 8]], [[], [0], [1], [], [3], [4], [], [], [], []]⟩ (fun γ => frX wa [(γ 6).n, (γ 7).n]) (by kernel_rfl) (by kernel_rfl) (by (exact zE)) (fun u => by simp only [putD, Act.put, List.setIfInBounds_toArray, List.set_cons_zero, List.set_cons_succ, Nat.zero_add, Nat.reduceAdd]; rfl) ?_
    apply RGW.on (i := 0) rfl
    · exact zG
    · intro γ u W hcur hd
      clear hd
      (try dsimp only)
      exact ⟨rfl, zS⟩
    · exact zC
    · rfl
    dsimp only [nA, cA]
    apply RGW.on (i := 1) rfl
    · exact zG
    · intro γ u W hcur hd
      obtain ⟨⟨h0, -, -⟩, -⟩ := hd
      dsimp only at h0
      (try simp only [h0])
      exact ⟨rfl, zS⟩
    · exact zC
    · rfl
    dsimp only [nA, cA]
    apply RGW.on (i := 2) rfl
    · exact zG
    · intro γ u W hcur hd
      obtain ⟨⟨h1, -, -⟩, -⟩ := hd
      dsimp only at h1
      (try simp only [h1])
      exact ⟨rfl, zS⟩
    · exact zC
    · rfl
    dsimp only [nA, cA]
    apply RGW.onL (i := 3) rfl
    · exact zG
    · intro γ u Wm W hcurM hd hX; have hcur := bx_fresh hX hcurM
      clear hd
      (try dsimp only)
      exact ⟨rfl, zS⟩
    · exact zC
    dsimp only [nA, cA]
    apply RGW.onL (i := 4) rfl
    · exact zG
    · intro γ u Wm W hcurM hd hX; have hcur := bx_fresh hX hcurM
      obtain ⟨⟨h3, -, -⟩, -⟩ := hd
      dsimp only at h3
      (try simp only [h3])
      exact ⟨rfl, zS⟩
    · exact zC
    dsimp only [nA, cA]
    apply RGW.onL (i := 5) rfl
    · exact zG
    · intro γ u Wm W hcurM hd hX; have hcur := bx_fresh hX hcurM
      obtain ⟨⟨h4, -, -⟩, -⟩ := hd
      dsimp only at h4
      (try simp only [h4])
      exact ⟨rfl, zS⟩
    · exact zC
    dsimp only [nA, cA]
    apply RGW.alloc (i := 6) rfl
    · exact zG
    · intro γ u W hcur hd
      clear hd
      (try dsimp only)
      refine ⟨rfl, fun K hK => ?_⟩
      go_simp
      exact hK.out _ _ rfl rfl
    · exact zC
    · rfl
    · rfl
    dsimp only [nA, cA]
    apply RGW.alloc (i := 7) rfl
    · exact zG
    · intro γ u W hcur hd
      clear hd
      (try dsimp only)
      refine ⟨rfl, fun K hK => ?_⟩
      go_simp
      exact hK.out _ _ rfl rfl
    · exact zC
    · rfl
    · rfl
    dsimp only [nA, cA]
    refine RGW.skip (i := 8) rfl rfl ?_
    dsimp only [nA, cA]
    refine RGW.skip (i := 9) rfl rfl ?_
    dsimp only [nA, cA]
    refine RGW.fin (fun γ u wb hwb hd hdis => ?_)
    obtain ⟨⟨h0, -, -⟩, ⟨h1, -, -⟩, ⟨h2, -, -⟩, ⟨h3, -, -⟩, ⟨h4, -, -⟩, ⟨h5, -, -⟩, ⟨h6, r6, b6⟩, ⟨h7, r7, b7⟩, -⟩ := hd
    dsimp only at h0 h1 h2 h3 h4 h5 h6 h7 r6 r7 b6 b7
    have n6_7 := hdis 6 7 rfl rfl (Nat.lt_of_lt_of_eq (by decide : 6 < 10) (by kernel_rfl)) (Nat.lt_of_lt_of_eq (by decide : 7 < 10) (by kernel_rfl)) (by decide) _ (List.mem_singleton.2 rfl) _ (List.mem_singleton.2 rfl)
    clear hdis
    simp only [h0, h1, h2, h3, h4, h5, h6, h7]
    clear h7 h6 h5 h4 h3 h2 h1 h0
    replace b6 := b6 _ (List.mem_singleton.2 rfl)
    generalize hγ6 : (γ 6).n = g6 at *
    clear hγ6
    replace b7 := b7 _ (List.mem_singleton.2 rfl)
    generalize hγ7 : (γ 7).n = g7 at *
    clear hγ7
    clear u
    simp only [List.map_cons, List.map_nil]
    rw [frX_eq (L := [g6, g7]) (by intro x hx; simp at hx; omega)]
    apply PlanW.step
    · exact zG
    · rfl
    intro K hK
    first
    | refine wp_store_keep (X := [g6, g7]) (w0 := wb) rfl rfl rfl (by with_reducible first | exact bx_refl _ _ | assumption) (by with_reducible first | assumption | (apply Blk.below (hb := hwb); assumption)) (by simp) (by kernel_rfl) (by rfl) (by simp [Value.oneCell']) (fun hres1 hcur => ?_)
      refine hK.out _ _ hcur (fun _ => ?_)
    | go_simp
      refine hK.out _ _ (by (exact zX)) (fun hcur => ?_)
    | obtain ⟨u0, v0, z0⟩ := bx_cell0 hcur (Blk.below k0 hwb) (by simp)
      go_simp
      refine hK.out _ _ (by (exact zX)) (fun hcur => ?_)
    | obtain ⟨u0, v0, z0⟩ := bx_cell0 (X := [g6, g7]) (w0 := wb) (by with_reducible first | assumption | exact bx_refl _ _) r6 (by simp)
      go_simp
      refine hK.out _ _ (by (exact zX)) (fun hcur => ?_)
    | obtain ⟨u0, v0, z0⟩ := bx_cell0 (X := [g6, g7]) (w0 := wb) (by with_reducible first | assumption | exact bx_refl _ _) r7 (by simp)
      go_simp
      refine hK.out _ _ (by (exact zX)) (fun hcur => ?_)
    clear hK K
    try simp only [Act.put, List.setIfInBounds_toArray, List.set_cons_zero, List.set_cons_succ]
    apply PlanW.step
    · exact zG
    · rfl
    intro K hK
    first
    | refine wp_store_keep (X := [g6, g7]) (w0 := wb) rfl rfl rfl (by with_reducible first | exact bx_refl _ _ | assumption) (by with_reducible first | assumption | (apply Blk.below (hb := hwb); assumption)) (by simp) (by kernel_rfl) (by rfl) (by simp [Value.oneCell']) (fun hres2 hcur => ?_)
      refine hK.out _ _ hcur (fun _ => ?_)
    | go_simp
      refine hK.out _ _ (by (exact zX)) (fun hcur => ?_)
    | obtain ⟨u0, v0, z0⟩ := bx_cell0 hcur (Blk.below k0 hwb) (by simp)
      go_simp
      refine hK.out _ _ (by (exact zX)) (fun hcur => ?_)
    | obtain ⟨u0, v0, z0⟩ := bx_cell0 (X := [g6, g7]) (w0 := wb) (by with_reducible first | assumption | exact bx_refl _ _) r6 (by simp)
      go_simp
      refine hK.out _ _ (by (exact zX)) (fun hcur => ?_)
    | obtain ⟨u0, v0, z0⟩ := bx_cell0 (X := [g6, g7]) (w0 := wb) (by with_reducible first | assumption | exact bx_refl _ _) r7 (by simp)
      go_simp
      refine hK.out _ _ (by (exact zX)) (fun hcur => ?_)
    clear hK K
    try simp only [Act.put, List.setIfInBounds_toArray, List.set_cons_zero, List.set_cons_succ]
    refine PlanW.done ?_
    have hb3 := bl_tt hwb
    go_upto_region 2 with fail
    first
    | apply absB3 (w0 := w) (g0 := w.heap.size) (g1 := g6) (g2 := g7)
    | apply absTB3 (w0 := w) (g0 := w.heap.size) (g1 := g6) (g2 := g7)
    | apply absIB3 (w0 := w) (g0 := w.heap.size) (g1 := g6) (g2 := g7)
    iterate 4 (focus exact zL)
    try clear hb3
    try clear Lk0
    try clear Fk0
    try clear Qk0
    try clear hb0
    try clear k0
    try clear k1
    try clear k2
    intro wc hb0 k0 k1 k2
    (try simp only [List.setIfInBounds_toArray, List.set_cons_zero, List.set_cons_succ] at k0 k1 k2)
    have Lk0 := k0.later
    have Fk0 := k0.laterF
    have Qk0 := k0.lt
    have Lk1 := k1.later
    have Fk1 := k1.laterF
    have Qk1 := k1.lt
    have Lk2 := k2.later
    have Fk2 := k2.laterF
    have Qk2 := k2.lt
    refine wp_any (w0 := wc) ⟨[], [], [some 18, some 19, some 20, some 21, some 22, some 23, some 24, some 25, some 26, some 27, some 28, some 29, some 30, some 31, some 32, some 33, some 6], [[], [0], [0, 1], [], [], [3, 4], [3, 4, 5], [0, 1, 2, 3, 4, 5, 6], [0, 1, 2, 3, 4, 5, 6, 7], [0, 1, 2, 3, 4, 5, 6, 7, 8], [0, 1, 2, 3, 4, 5, 6, 7, 8, 9], [0, 1, 2, 3, 4, 5, 6, 7, 8, 9, 10], [0, 1, 2, 3, 4, 5, 6, 7, 8, 9, 10, 11], [0, 1, 2, 3, 4, 5, 6, 7, 8, 9, 10, 11, 12], [0, 1, 2, 3, 4, 5, 6, 7, 8, 9, 10, 11, 12, 13], [0, 1, 2, 3, 4, 5, 6, 7, 8, 9, 10, 11, 12, 13, 14], [0, 1, 2, 3, 4, 5, 6, 7, 8, 9, 10, 11, 12, 13, 14, 15]], [[], [0], [1], [], [], [3, 4], [5], [6], [7], [7, 8], [7, 9], [7, 10], [7, 11], [12], [2, 13], [14], [14, 15]]⟩ (fun _ => []) (by kernel_rfl) (by kernel_rfl) (by (exact zE)) (fun u => by simp only [putD, Act.put, List.setIfInBounds_toArray, List.set_cons_zero, List.set_cons_succ, Nat.zero_add, Nat.reduceAdd]; rfl) ?_
    apply RGW.on (i := 0) rfl
    · exact zG
    · intro γ u W hcur hd
      clear hd
      (try dsimp only)
      exact ⟨rfl, zS⟩
    · exact zC
    · rfl
    dsimp only [nA, cA]
    apply RGW.on (i := 1) rfl
    · exact zG
    · intro γ u W hcur hd
      obtain ⟨⟨h0, -, -⟩, -⟩ := hd
      dsimp only at h0
      (try simp only [h0])
      exact ⟨rfl, zS⟩
    · exact zC
    · rfl
    dsimp only [nA, cA]
    apply RGW.call (i := 2) rfl
    · exact zG
    · intro γ u W hcur hd
      obtain ⟨⟨h1, -, -⟩, -⟩ := hd
      dsimp only at h1
      (try simp only [h1])
      refine ⟨rfl, fun K hK => ?_⟩
      go_simp
      first
      | (go_at_call 58; (with_reducible refine (c_unless _ _ _).mono ?_); rintro e w3 ⟨rfl, rfl⟩)
      | (go_at_call 74; (with_reducible refine (c_first2 (by (exact zK))).mono ?_); rintro e w3 ⟨rfl, rfl⟩)
      (try dsimp only)
      exact hK.out _ _ rfl (by (exact zE))
    · exact zC
    · rfl
    dsimp only [nA, cA]
    apply RGW.on (i := 3) rfl
    · exact zG
    · intro γ u W hcur hd
      clear hd
      (try dsimp only)
      exact ⟨rfl, zS⟩
    · exact zC
    · rfl
    dsimp only [nA, cA]
    apply RGW.on (i := 4) rfl
    · exact zG
    · intro γ u W hcur hd
      clear hd
      (try dsimp only)
      exact ⟨rfl, zS⟩
    · exact zC
    · rfl
    dsimp only [nA, cA]
    apply RGW.on (i := 5) rfl
    · exact zG
    · intro γ u W hcur hd
      obtain ⟨⟨h3, -, -⟩, ⟨h4, -, -⟩, -⟩ := hd
      dsimp only at h3 h4
      (try simp only [h3, h4])
      exact ⟨rfl, zS⟩
    · exact zC
    · rfl
    dsimp only [nA, cA]
    apply RGW.on (i := 6) rfl
    · exact zG
    · intro γ u W hcur hd
      obtain ⟨⟨h5, -, -⟩, -⟩ := hd
      dsimp only at h5
      (try simp only [h5])
      exact ⟨rfl, zS⟩
    · exact zC
    · rfl
    dsimp only [nA, cA]
    apply RGW.on (i := 7) rfl
    · exact zG
    · intro γ u W hcur hd
      obtain ⟨⟨h6, -, -⟩, -⟩ := hd
      dsimp only at h6
      (try simp only [h6])
      exact ⟨rfl, zS⟩
    · exact zC
    · rfl
    dsimp only [nA, cA]
    first
    | apply RGW.on (i := 8) rfl
      · exact zG
      · intro γ u W hcur hd
        obtain ⟨⟨h7, -, -⟩, -⟩ := hd
        dsimp only at h7
        (try simp only [h7])
        refine ⟨?_, ?_⟩
        · (simp [Region.wanted, yielded, undef, *]; done)
        exact zS
      · exact zC
      · rfl
    | apply RGW.off (i := 8) rfl
      · exact zG
      · intro γ u W hcur hd
        obtain ⟨⟨h7, -, -⟩, -⟩ := hd
        dsimp only at h7
        (try simp only [h7])
        simp [Region.wanted, yielded, undef, *]
      · rfl
    dsimp only [nA, cA]
    first
    | apply RGW.on (i := 9) rfl
      · exact zG
      · intro γ u W hcur hd
        obtain ⟨⟨h7, -, -⟩, ⟨h8, -, -⟩, -⟩ := hd
        dsimp only at h7 h8
        (try simp only [h7, h8])
        refine ⟨?_, ?_⟩
        · (simp [Region.wanted, yielded, undef, *]; done)
        exact zS
      · exact zC
      · rfl
    | apply RGW.off (i := 9) rfl
      · exact zG
      · intro γ u W hcur hd
        obtain ⟨⟨h7, -, -⟩, ⟨h8, -, -⟩, -⟩ := hd
        dsimp only at h7 h8
        (try simp only [h7, h8])
        simp [Region.wanted, yielded, undef, *]
      · rfl
    dsimp only [nA, cA]
    first
    | apply RGW.on (i := 10) rfl
      · exact zG
      · intro γ u W hcur hd
        obtain ⟨⟨h7, -, -⟩, ⟨h9, -, -⟩, -⟩ := hd
        dsimp only at h7 h9
        (try simp only [h7, h9])
        refine ⟨?_, ?_⟩
        · (simp [Region.wanted, yielded, undef, *]; done)
        exact zS
      · exact zC
      · rfl
    | apply RGW.off (i := 10) rfl
      · exact zG
      · intro γ u W hcur hd
        obtain ⟨⟨h7, -, -⟩, ⟨h9, -, -⟩, -⟩ := hd
        dsimp only at h7 h9
        (try simp only [h7, h9])
        simp [Region.wanted, yielded, undef, *]
      · rfl
    dsimp only [nA, cA]
    first
    | apply RGW.on (i := 11) rfl
      · exact zG
      · intro γ u W hcur hd
        obtain ⟨⟨h7, -, -⟩, ⟨h10, -, -⟩, -⟩ := hd
        dsimp only at h7 h10
        (try simp only [h7, h10])
        refine ⟨?_, ?_⟩
        · (simp [Region.wanted, yielded, undef, *]; done)
        exact zS
      · exact zC
      · rfl
    | apply RGW.off (i := 11) rfl
      · exact zG
      · intro γ u W hcur hd
        obtain ⟨⟨h7, -, -⟩, ⟨h10, -, -⟩, -⟩ := hd
        dsimp only at h7 h10
        (try simp only [h7, h10])
        simp [Region.wanted, yielded, undef, *]
      · rfl
    dsimp only [nA, cA]
    apply RGW.on (i := 12) rfl
    · exact zG
    · intro γ u W hcur hd
      obtain ⟨⟨h7, -, -⟩, ⟨h11, -, -⟩, -⟩ := hd
      dsimp only at h7 h11
      (try simp only [h7, h11])
      exact ⟨rfl, zS⟩
    · exact zC
    · rfl
    dsimp only [nA, cA]
    apply RGW.call (i := 13) rfl
    · exact zG
    · intro γ u W hcur hd
      obtain ⟨⟨h12, -, -⟩, -⟩ := hd
      dsimp only at h12
      (try simp only [h12])
      refine ⟨rfl, fun K hK => ?_⟩
      go_simp
      first
      | (go_at_call 58; (with_reducible refine (c_unless _ _ _).mono ?_); rintro e w3 ⟨rfl, rfl⟩)
      | (go_at_call 74; (with_reducible refine (c_first2 (by (exact zK))).mono ?_); rintro e w3 ⟨rfl, rfl⟩)
      (try dsimp only)
      exact hK.out _ _ rfl (by (exact zE))
    · exact zC
    · rfl
    dsimp only [nA, cA]
    apply RGW.bslice (i := 14) rfl
    · exact zG
    · intro γ u W hcur hd
      obtain ⟨⟨h2, -, -⟩, ⟨h13, -, -⟩, -⟩ := hd
      dsimp only at h2 h13
      (try simp only [h2, h13])
      refine ⟨rfl, fun K hK => ?_⟩
      go_simp
      exact hK.out _ _ rfl rfl
    · exact zC
    · rfl
    · rfl
    dsimp only [nA, cA]
    apply RGW.call (i := 15) rfl
    · exact zG
    · intro γ u W hcur hd
      obtain ⟨⟨h14, r14, -⟩, -⟩ := hd
      dsimp only at h14 r14
      have L14 := r14.cell
      (try simp only [h14])
      refine ⟨rfl, fun K hK => ?_⟩
      go_simp
      first
      | (go_at_call 58; (with_reducible refine (c_unless _ _ _).mono ?_); rintro e w3 ⟨rfl, rfl⟩)
      | (go_at_call 74; (with_reducible refine (c_first2 (by (exact zK))).mono ?_); rintro e w3 ⟨rfl, rfl⟩)
      (try dsimp only)
      exact hK.out _ _ rfl (by (exact zE))
    · first
      | exact zC
      | intro γ γ' hg
        try dsimp only
        have e14 := hg 14 (by decide)
        simp only [e14]
    · rfl
    dsimp only [nA, cA]
    apply RGW.on (i := 16) rfl
    · exact zG
    · intro γ u W hcur hd
      obtain ⟨⟨h14, r14, -⟩, ⟨h15, -, -⟩, -⟩ := hd
      dsimp only at h14 h15 r14
      have L14 := r14.cell
      (try simp only [h14, h15])
      exact ⟨rfl, zS⟩
    · first
      | exact zC
      | intro γ γ' hg
        try dsimp only
        have e14 := hg 14 (by decide)
        simp only [e14]
    · rfl
    dsimp only [nA, cA]
    refine RGW.fin (fun γ u wd hwd hd hdis => ?_)
    obtain ⟨⟨h0, -, -⟩, ⟨h1, -, -⟩, ⟨h2, -, -⟩, ⟨h3, -, -⟩, ⟨h4, -, -⟩, ⟨h5, -, -⟩, ⟨h6, -, -⟩, ⟨h7, -, -⟩, ⟨h8, -, -⟩, ⟨h9, -, -⟩, ⟨h10, -, -⟩, ⟨h11, -, -⟩, ⟨h12, -, -⟩, ⟨h13, -, -⟩, ⟨h14, r14, b14⟩, ⟨h15, -, -⟩, ⟨h16, -, -⟩, -⟩ := hd
    dsimp only at h0 h1 h2 h3 h4 h5 h6 h7 h8 h9 h10 h11 h12 h13 h14 h15 h16 r14 b14
    clear hdis
    simp only [h0, h1, h2, h3, h4, h5, h6, h7, h8, h9, h10, h11, h12, h13, h14, h15, h16]
    clear h16 h15 h14 h13 h12 h11 h10 h9 h8 h7 h6 h5 h4 h3 h2 h1 h0
    replace b14 := b14 _ (List.mem_singleton.2 rfl)
    generalize hγ14 : (γ 14).n = g14 at *
    clear hγ14
    clear u
    simp only [List.map_nil]
    refine PlanW.done ?_
    have hb3 := bl_tt hwd
    rw [← hE.out]
    first
    | apply absB3 (w0 := w) (g0 := w.heap.size) (g1 := g6) (g2 := g7)
    | apply absTB3 (w0 := w) (g0 := w.heap.size) (g1 := g6) (g2 := g7)
    | apply absIB3 (w0 := w) (g0 := w.heap.size) (g1 := g6) (g2 := g7)
    iterate 4 (focus exact zL)
    try clear hb3
    try clear Lk0
    try clear Fk0
    try clear Qk0
    try clear Lk1
    try clear Fk1
    try clear Qk1
    try clear Lk2
    try clear Fk2
    try clear Qk2
    try clear hb0
    try clear k0
    try clear k1
    try clear k2
    intro we hb0 k0 k1 k2
    (try simp only [List.setIfInBounds_toArray, List.set_cons_zero, List.set_cons_succ] at k0 k1 k2)
    clear hE hA
    by_cases he0 : n.e0 = 0
    rotate_left
    · go_wp2
      go_ret2
      exact ⟨by rw [r0.out he0] <;> rfl, by (exact zE)⟩
    go_wp2_with fail
    refine (c_names we).mono ?_
    rintro e w1a ⟨rfl, hbn, hs⟩
    have hw3 : Below w.heap.size w w1a := bl_tr hb0 hbn
    have hle := hb0.size
    have hl0 := k0.lt
    have hl1 := k1.lt
    have hl2 := k2.lt
    replace k0 := k0.below hbn
    replace k1 := k1.below hbn
    replace k2 := k2.below hbn
    have hsl := hs.lt
    clear hb0
    go_upto_region 6 with fail
    first
    | apply absB4 (w0 := w1a) (g0 := w.heap.size) (g1 := g6) (g2 := g7) (g3 := w1a.heap.size)
    | apply absTB4 (w0 := w1a) (g0 := w.heap.size) (g1 := g6) (g2 := g7) (g3 := w1a.heap.size)
    | apply absIB4 (w0 := w1a) (g0 := w.heap.size) (g1 := g6) (g2 := g7) (g3 := w1a.heap.size)
    iterate 5 (focus exact zL)
    try clear hb3
    try clear hb0
    try clear k0
    try clear k1
    try clear k2
    try clear k3
    intro w1b hb0 k0 k1 k2 k3
    (try simp only [List.setIfInBounds_toArray, List.set_cons_zero, List.set_cons_succ] at k0 k1 k2 k3)
    have L0 := k0.cell
    go_wp2_with fail
    clear L0
    refine (hp.out w1a.heap.size (we.heap.size + 1) we.heap.size w1b (bl_tr hw3 hb0) k3 (hs.below hb0) (by omega)).mono ?_
    rintro e w1c ⟨rfl, hx⟩
    have hb3 : Hid (w.heap.size ≤ w1a.heap.size ∧ w.heap.size < w1a.heap.size ∧ g6 < w1a.heap.size ∧ g7 < w1a.heap.size) := ⟨hw3.size, by omega, by omega, by omega⟩
    replace hb0 := bx_below (bl_tr hw3 hb0) hx (by simpa using hle)
    replace k0 := k0.keep (by simp; omega) hx
    replace k1 := k1.keep (by simp; omega) hx
    replace k2 := k2.keep (by simp; omega) hx
    replace k3 := k3.keep (by simp; omega) hx
    clear hx hs hsl hle hl0 hl1 hl2 hw3
    by_cases hq1 : q1 = 0
    rotate_left
    · go_wp2
      go_ret2
      exact ⟨by rw [r1.out he0 hq1] <;> rfl, by (exact zE)⟩
    go_wp2_with fail
    refine (c_names w1c).mono ?_
    rintro e w2a ⟨rfl, hbn, hs⟩
    have hw3 : Below w.heap.size w w2a := bl_tr hb0 hbn
    have hle := hb0.size
    have hl0 := k0.lt
    have hl1 := k1.lt
    have hl2 := k2.lt
    have hl3 := k3.lt
    have hg3 := hb3.out
    replace k0 := k0.below hbn
    replace k1 := k1.below hbn
    replace k2 := k2.below hbn
    replace k3 := k3.below hbn
    have hsl := hs.lt
    clear hb0
    have L3 := k3.cell
    have F3 := k3.frozen
    go_upto_region 10 with fail
    clear L3 F3
    have hx : BX [w1a.heap.size] w2a (w2a.setCell ⟨w1a.heap.size, 0, none⟩ (vName (w1c.heap.size + 1))) := bx_set (.inl (by simp)) _ (bx_refl _ _)
    replace hs := hs.bx hx (by simp; omega) (by simp; omega)
    replace k0 := k0.keep (by simp; omega) hx
    replace k1 := k1.keep (by simp; omega) hx
    replace k2 := k2.keep (by simp; omega) hx
    replace k3 : Blk (w2a.setCell ⟨w1a.heap.size, 0, none⟩ (vName (w1c.heap.size + 1))) w1a.heap.size tName #[vName (w1c.heap.size + 1)] := k3.set1 (by simp)
    have hb0 := bx_below hw3 hx (by simpa using hg3.1)
    clear hx hw3 hbn
    generalize hW : w2a.setCell ⟨w1a.heap.size, 0, none⟩ (vName (w1c.heap.size + 1)) = w2b at *
    clear hW
    have L0 := k0.cell
    go_wp2_with fail
    clear L0
    refine (hf.out w1a.heap.size g6 (w1c.heap.size + 1) w1c.heap.size w2b hb0 k3 k1 hs (by omega) (by omega)).mono ?_
    rintro e w2c ⟨rfl, hx⟩
    replace hb0 := bx_below hb0 hx (by simpa using hle)
    replace k0 := k0.keep (by simp; omega) hx
    replace k1 := k1.keep (by simp; omega) hx
    replace k2 := k2.keep (by simp; omega) hx
    replace k3 := k3.keep (by simp; omega) hx
    clear hx hs hsl hle hl0 hl1 hl2 hl3 hg3
    by_cases hq2 : q2 = 0
    rotate_left
    · go_wp2
      go_ret2
      exact ⟨by rw [r2.out he0 hq1 hq2] <;> rfl, hb0⟩
    go_wp2_with fail
    refine (c_names w2c).mono ?_
    rintro e w3a ⟨rfl, hbn, hs⟩
    have hw3 : Below w.heap.size w w3a := bl_tr hb0 hbn
    have hle := hb0.size
    have hl0 := k0.lt
    have hl1 := k1.lt
    have hl2 := k2.lt
    have hl3 := k3.lt
    have hg3 := hb3.out
    replace k0 := k0.below hbn
    replace k1 := k1.below hbn
    replace k2 := k2.below hbn
    replace k3 := k3.below hbn
    have hsl := hs.lt
    clear hb0
    have L3 := k3.cell
    have F3 := k3.frozen
    go_upto_region 14 with fail
    clear L3 F3
    have hx : BX [w1a.heap.size] w3a (w3a.setCell ⟨w1a.heap.size, 0, none⟩ (vName (w2c.heap.size + 1))) := bx_set (.inl (by simp)) _ (bx_refl _ _)
    replace hs := hs.bx hx (by simp; omega) (by simp; omega)
    replace k0 := k0.keep (by simp; omega) hx
    replace k1 := k1.keep (by simp; omega) hx
    replace k2 := k2.keep (by simp; omega) hx
    replace k3 : Blk (w3a.setCell ⟨w1a.heap.size, 0, none⟩ (vName (w2c.heap.size + 1))) w1a.heap.size tName #[vName (w2c.heap.size + 1)] := k3.set1 (by simp)
    have hb0 := bx_below hw3 hx (by simpa using hg3.1)
    clear hx hw3 hbn
    generalize hW : w3a.setCell ⟨w1a.heap.size, 0, none⟩ (vName (w2c.heap.size + 1)) = w3b at *
    clear hW
    have L0 := k0.cell
    go_wp2_with fail
    clear L0
    refine (hm.out w1a.heap.size g7 (w2c.heap.size + 1) w2c.heap.size w3b hb0 k3 k2 hs (by omega) (by omega)).mono ?_
    rintro e w3c ⟨rfl, hx⟩
    replace hb0 := bx_below hb0 hx (by simpa using hle)
    go_wp2
    go_ret2
    exact ⟨by rw [r3.out he0 hq1 hq2] <;> rfl, hb0⟩
end Go.Proofs.YtbdgblnccjpahaaGreatDoor
namespace Go.Proofs.YtbdgblnccjpahaaGreatDoor
open Go.RowKit
attribute [local go_sem] bl_al bl_drew bl_drewN bl_refl
set_option maxRecDepth 20000
def cmpI (x y : Int) : Int := if x < y then -1 else if y < x then 1 else 0
def cmpL : List Int → List Int → Int
  | [], [] => 0
  | [], _ :: _ => -1
  | _ :: _, [] => 1
  | x :: a, y :: b => if x = y then cmpL a b else cmpI x y
theorem cmpL_lt : ∀ a b : List Int, decide (cmpL a b < 0) = lexB a b
  | [], [] => rfl
  | [], _ :: _ => rfl
  | _ :: _, [] => rfl
  | x :: a, y :: b => by
    unfold cmpL lexB
    by_cases h : x = y
    · rw [if_pos h, if_pos h]; exact cmpL_lt a b
    · rw [if_neg h, if_neg h]
      unfold cmpI
      by_cases h1 : x < y
      · simp [h1]
      · have h2 : y < x := by omega
        simp [h1, h2]
theorem c_isNaN (x : Int) (w : World) : Calls Tryz.prog 207 #[.int .i64 x] w (Same (.bool false) w) := by
  go_enter Tryz.func207, Tryz.ntmps207
  go_wp2
  go_ret
  exact ⟨by simp, rfl⟩
theorem c_cmp (x y : Int) (w : World) : Calls Tryz.prog 177 #[.int .i64 x, .int .i64 y] w (Same (.int .i64 (cmpI x y)) w) := by
  by_cases h1 : x < y
  · have e : cmpI x y = -1 := by rw [cmpI, if_pos h1]
    have e1 : decide (x < y) = true := by simp [h1]
    rw [e]
    clear h1
    go_enter Tryz.func177, Tryz.ntmps177
    go_wp2_with (go_at_call 207; (with_reducible refine (c_isNaN _ _).mono ?_); rintro e w3 ⟨rfl, rfl⟩)
    go_ret
    exact ⟨rfl, rfl⟩
  · have e1 : decide (x < y) = false := by simp [h1]
    by_cases h2 : y < x
    · have e : cmpI x y = 1 := by rw [cmpI, if_neg h1, if_pos h2]
      have e2 : decide (y < x) = true := by simp [h2]
      rw [e]
      clear h1 h2
      go_enter Tryz.func177, Tryz.ntmps177
      go_wp2_with (go_at_call 207; (with_reducible refine (c_isNaN _ _).mono ?_); rintro e w3 ⟨rfl, rfl⟩)
      go_ret
      exact ⟨rfl, rfl⟩
    · have e : cmpI x y = 0 := by rw [cmpI, if_neg h1, if_neg h2]
      have e2 : decide (y < x) = false := by simp [h2]
      rw [e]
      clear h1 h2
      go_enter Tryz.func177, Tryz.ntmps177
      go_wp2_with (go_at_call 207; (with_reducible refine (c_isNaN _ _).mono ?_); rintro e w3 ⟨rfl, rfl⟩)
      go_ret
      exact ⟨rfl, rfl⟩
theorem cmpL_drop {a b : List Int} {k : Nat} {x y : Int} (hx : a[k]? = some x) (hy : b[k]? = some y) : cmpL (a.drop k) (b.drop k) = if x = y then cmpL (a.drop (k + 1)) (b.drop (k + 1)) else cmpI x y := by
  have h1 := (List.getElem?_eq_some_iff.1 hx).1
  have h2 := (List.getElem?_eq_some_iff.1 hy).1
  rw [List.drop_eq_getElem_cons h1, List.drop_eq_getElem_cons h2, (List.getElem?_eq_some_iff.1 hx).2, (List.getElem?_eq_some_iff.1 hy).2, cmpL]
theorem cmpL_end {a b : List Int} {k : Nat} (hk1 : k ≤ a.length) (hk2 : k ≤ b.length) (h : a.length ≤ k) : cmpL (a.drop k) (b.drop k) = if a.length < b.length then -1 else 0 := by
  rw [List.drop_of_length_le h]
  by_cases h2 : b.length ≤ k
  · rw [List.drop_of_length_le h2, cmpL, if_neg (by omega)]
  · rw [List.drop_eq_getElem_cons (by omega : k < b.length), cmpL, if_pos (by omega)]
theorem cmpL_long {a b : List Int} {k : Nat} {x : Int} (hx : a[k]? = some x) (h : b.length ≤ k) : cmpL (a.drop k) (b.drop k) = 1 := by
  rw [List.drop_of_length_le h, List.drop_eq_getElem_cons (List.getElem?_eq_some_iff.1 hx).1, cmpL]
set_option maxHeartbeats 4000000 in
theorem c_Compare (a b : List Int) (A B : Option Addr) (c d : Nat) (w : World) (ha : Sl cI 1 w A a) (hb : Sl cI 1 w B b) (h1 : a.length ≤ 1000) (h2 : b.length ≤ 1000) :
    Calls Tryz.prog 140 #[.slice A a.length c, .slice B b.length d] w (Ret (.int .i64 (cmpL a b)) w) := by
  have Ha := Lib.hid ha
  have Hb := Lib.hid hb
  clear ha hb
  have hend := Lib.hid (fun k => cmpL_end (a := a) (b := b) (k := k))
  have hlong := Lib.hid (fun k x => cmpL_long (a := a) (b := b) (k := k) (x := x))
  obtain ⟨n, Hn⟩ : ∃ n, Hid (a.length = n) := ⟨_, rfl⟩
  obtain ⟨m, Hm⟩ : ∃ n, Hid (b.length = n) := ⟨_, rfl⟩
  rw [Hn.out] at h1 hend ⊢
  rw [Hm.out] at h2 hend hlong ⊢
  go_enter Tryz.func140, Tryz.ntmps140
  go_wp2
  go_loopw [11] (fun i wr => ∃ k : Nat, k ≤ n ∧ k ≤ m ∧ i = .int .i64 k ∧ Below w.heap.size w wr ∧ cmpL a b = cmpL (a.drop k) (b.drop k)) (fun i _ => n - (intOf i).toNat)
  case atStart => exact ⟨0, Nat.zero_le _, Nat.zero_le _, rfl, Below.refl _ _, rfl⟩
  case round =>
    obtain ⟨k, hk, hk2, rfl, hbw, hi⟩ := hrel
    replace hi := Lib.hid hi
    by_cases hlt : k < n
    · have hx : a[k]? = some (a[k]'(by rw [Hn.out]; exact hlt)) := List.getElem?_eq_getElem _
      generalize a[k]'(by rw [Hn.out]; exact hlt) = x at hx
      obtain ⟨ba, oa, hA, hca⟩ := Ha.out k x hx
      have c0 : wr.cell? ⟨ba, oa + k, none⟩ = some (.int .i64 x) := by have := kcell hbw (hca 0 _ rfl); simpa using this
      clear hca
      subst hA
      by_cases hlt2 : k < m
      · have hy : b[k]? = some (b[k]'(by rw [Hm.out]; exact hlt2)) := List.getElem?_eq_getElem _
        generalize b[k]'(by rw [Hm.out]; exact hlt2) = y at hy
        obtain ⟨bb, ob, hB, hcb⟩ := Hb.out k y hy
        have c1 : wr.cell? ⟨bb, ob + k, none⟩ = some (.int .i64 y) := by have := kcell hbw (hcb 0 _ rfl); simpa using this
        have hd := Lib.hid (cmpL_drop hx hy)
        clear hcb hx hy hend hlong
        subst hB
        by_cases hxy : x = y
        · have h' : Hid (cmpL a b = cmpL (a.drop (k + 1)) (b.drop (k + 1))) := Lib.hid (by rw [hi.out, hd.out, if_pos hxy])
          have e : cmpI x y = 0 := by rw [hxy, cmpI, if_neg (Int.lt_irrefl y), if_neg (Int.lt_irrefl y)]
          have hc := Lib.hid fun W : World => e ▸ c_cmp x y W
          clear hxy hd hi e
          go_wp2_with (go_at_call 177; (with_reducible refine (hc.out _).mono ?_); rintro e w3 ⟨rfl, rfl⟩)
          go_roundw
          case rel => exact ⟨k + 1, by omega, by omega, by go_num, hbw, h'.out⟩
          case measure => simp [intOf]; omega
        · have h' : Hid (cmpL a b = cmpI x y) := Lib.hid (by rw [hi.out, hd.out, if_neg hxy])
          have e : (cmpI x y != 0) = true := by
            unfold cmpI
            by_cases h : x < y
            · simp [h]
            · have : y < x := by omega
              simp [h, this]
          have hc := Lib.hid fun W : World => c_cmp x y W
          generalize cmpI x y = z at *
          clear hxy hd hi
          go_wp2_with (go_at_call 177; (with_reducible refine (hc.out _).mono ?_); rintro e w3 ⟨rfl, rfl⟩)
          go_ret
          exact ⟨by rw [h'.out] <;> rfl, hbw⟩
      · have h' : Hid (cmpL a b = 1) := Lib.hid (by rw [hi.out]; exact hlong.out k x hx (by omega))
        clear hend hlong hi hx
        go_wp2
        go_ret
        exact ⟨by rw [h'.out] <;> rfl, hbw⟩
    · have h' : Hid (cmpL a b = if n < m then -1 else 0) := Lib.hid (by rw [hi.out]; exact hend.out k (by omega) (by omega) (by omega))
      clear hend hlong hi
      by_cases hnm : n < m
      · have h2' : Hid (cmpL a b = -1) := Lib.hid (by rw [h'.out, if_pos hnm])
        have e : decide (n < m) = true := by simp [hnm]
        clear h' hnm
        go_wp2
        go_ret
        exact ⟨by rw [h2'.out] <;> rfl, hbw⟩
      · have h2' : Hid (cmpL a b = 0) := Lib.hid (by rw [h'.out, if_neg hnm])
        have e : decide (n < m) = false := by simp; omega
        clear h' hnm
        go_wp2
        go_ret
        exact ⟨by rw [h2'.out] <;> rfl, hbw⟩
end Go.Proofs.YtbdgblnccjpahaaGreatDoor
