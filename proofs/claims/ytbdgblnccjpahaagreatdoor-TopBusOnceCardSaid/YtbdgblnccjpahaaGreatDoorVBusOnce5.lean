/-
  Walks: the mode after faults, and the margin of a mode.
  Walks: the reference's smallest failures that stop a function, and the margin of a mode.
  Walk: a copy of a net.
  What the laws on nets use: the contracts at a copy of a net, and that both sides mean the same.
  Plain: faults in nets: ascending indexes, more faults, the smallest failures.
  Plain and walk: the reference's numbers of a string.
  Walk: the reference's numbers of a string.
  Walk: the reference's cutting of a string at a byte.
  Walk: the reference's indexes of a string.
  Walk: the reference's items of a string.
  Walk: the reference's streams of a string.
  Walk: the reference's string of a number.
  Walk: the reference's numbers joined.
  Walk: the reference's string of a net.
  Walk: the reference's net of a string.
  Walk: streams that are equal are found equal.
-/
import Derived.Test.YtbdgblnccjpahaaGreatDoorVBusOnce4
import Derived.Test.YtbdgblnccjpahaaGreatDoorUO5
import Derived.Test.YtbdgblnccjpahaaGreatDoorUO10
import Derived.Test.YtbdgblnccjpahaaGreatDoorUO8
import Derived.Test.YtbdgblnccjpahaaGreatDoorVBusOnce2
import Derived.Test.YtbdgblnccjpahaaGreatDoorVBusOnce1
import Derived.Test.YtbdgblnccjpahaaGreatDoorUO4
import Derived.Test.YtbdgblnccjpahaaGreatDoorUO6
import Derived.Test.YtbdgblnccjpahaaGreatDoorUO1
import Derived.Laws.Strings2
import Derived.Test.YtbdgblnccjpahaaGreatDoorUO9
import Derived.Test.YtbdgblnccjpahaaGreatDoorUO12
set_option linter.unusedSimpArgs false
set_option linter.unusedVariables false
namespace Go.Proofs.YtbdgblnccjpahaaGreatDoor
open Go.RowKit Go.Shelf
attribute [local go_sem] bl_al bl_drew bl_drewN bl_refl bx_al bx_drew bx_drewN bx_refl
set_option maxRecDepth 20000
theorem net_md {n : Nt} (h : netErr n = 0) : n.ms.length ≤ 6 ∧ ∀ m ∈ n.ms, ∀ x ∈ m.r.l, 0 ≤ x ∧ x < n.fs.length := by
  unfold netErr netChk at h
  split at h
  · rename_i h0
    split at h
    · split at h
      · obtain ⟨a1, a2⟩ := (fst_cons _ _).1 h0
        obtain ⟨a3, -⟩ := (fst_cons _ _).1 a2
        have a4 := (unl_zero (by decide)).1 a3
        simp at a4
        refine ⟨by omega, fun m hm x hx => ?_⟩
        obtain ⟨k, hk⟩ := List.mem_iff_getElem?.1 hm
        have b1 := eachS_ok _ n.ms 0 h k m hk
        exact idxErr_ok ((fst_cons _ _).1 ((fst_cons _ _).1 b1).2).1 x hx
      · rename_i h2
        exact absurd h h2
    · rename_i h1
      exact absurd h h1
  · rename_i h0
    exact absurd h h0
end Go.Proofs.YtbdgblnccjpahaaGreatDoor
namespace Go.Proofs.YtbdgblnccjpahaaGreatDoor
open Go.RowKit Go.Shelf
attribute [local go_sem] bl_al bl_drew bl_drewN bl_refl bx_al bx_drew bx_drewN bx_refl
set_option maxRecDepth 20000
end Go.Proofs.YtbdgblnccjpahaaGreatDoor
namespace Go.Proofs.YtbdgblnccjpahaaGreatDoor
open Go.RowKit Go.Shelf
attribute [local go_sem] bl_al bl_drew bl_drewN bl_refl bx_al bx_drew bx_drewN bx_refl
set_option maxRecDepth 20000
theorem absPN {P : Program} {fn : Func} {R : Ending → World → Prop} {x : Exit} {a : Act} {w : World} (C : World → Prop) (hC : C w) (h : ∀ W, C W → bodyPost P fn R x a W) : bodyPost P fn R x a w := h w hC
set_option maxHeartbeats 8000000 in
theorem r_CopyNet (n : Nt) (Ap Af Am : Option Addr) (cp cf cm : Nat) (w : World) (hn : NtIn n Ap Af Am cp cf cm w) :
    Calls Tryz.prog 35 #[vNt Ap Af Am n.ps.length n.fs.length n.ms.length cp cf cm] w (fun e w' => Below w.heap.size w w' ∧ ∃ (m : Nt) (Bp Bf Bm : Option Addr) (dp df dm : Nat), NtEq n m ∧ NtIn m Bp Bf Bm dp df dm w' ∧ e = .returned (vNt Bp Bf Bm n.ps.length n.fs.length n.ms.length dp df dm)) := by
  obtain ⟨i1, hi1, hy0, hy1, hy2⟩ := info_parts infoFu
  obtain ⟨i2, hi2, hx0, hx1, hx2⟩ := info_parts infoMd
  have Hn := Lib.hid hn
  have g1 := hn.plen
  have g2 := hn.flen
  have g3 := hn.mlen
  have hct := Lib.hid fun W (hb : Below w.heap.size w W) => r_CopyTexts n.ps Ap cp W (hn.psl.below hb) g1
  have hcl := Lib.hid fun (f : Fu) (h : f ∈ n.fs) W (hb : Below w.heap.size w W) => r_CopyLists f.ws f.A f.c W ((hn.fin f h).sl.below hb) (fun r hr => ((hn.fin f h).rows r hr).below hb) (hn.fin f h).len
  have hci := Lib.hid fun (m : Md) (h : m ∈ n.ms) W (hb : Below w.heap.size w W) => r_CopyInts m.r.l m.r.A m.r.c W ((hn.min m h).row.sl.below hb) (hn.min m h).row.len
  clear hn
  change Calls Tryz.prog 35 #[.agg #[.slice Ap n.ps.length cp, .slice Af n.fs.length cf, .slice Am n.ms.length cm]] w _
  obtain ⟨np, Hp⟩ : ∃ k, Hid (n.ps.length = k) := ⟨_, rfl⟩
  obtain ⟨nf, Hf⟩ : ∃ k, Hid (n.fs.length = k) := ⟨_, rfl⟩
  obtain ⟨nm, Hm⟩ : ∃ k, Hid (n.ms.length = k) := ⟨_, rfl⟩
  rw [Hp.out] at g1 hct ⊢
  rw [Hf.out] at g2 ⊢
  rw [Hm.out] at g3 ⊢
  go_enter Tryz.func35, Tryz.ntmps35
  go_upto_region 1 with fail
  first
  | apply absB2 (w0 := w) (g0 := w.heap.size) (g1 := w.heap.size + 1)
  | apply absTB2 (w0 := w) (g0 := w.heap.size) (g1 := w.heap.size + 1)
  | apply absIB2 (w0 := w) (g0 := w.heap.size) (g1 := w.heap.size + 1)
  iterate 3 (focus exact zL)
  try clear hb3
  try clear hb0
  try clear k0
  try clear k1
  intro wa hb0 k0 k1
  (try simp only [List.setIfInBounds_toArray, List.set_cons_zero, List.set_cons_succ] at k0 k1)
  have L0 := k0.cell
  go_wp2_with fail
  refine (hct.out _ hb0).mono ?_
  rintro e w3 ⟨Bp, dp, rfl, hb3, hop⟩
  replace hop := Lib.hid hop
  have hz3 := hb3.size
  have hz0 := hb0.size
  have q1 := k1.lt
  replace hb0 := bl_tr hb0 hb3
  replace k0 := k0.below hb3
  replace k1 := k1.below hb3
  clear L0
  go_upto_region 2 with fail
  have kO := Blk.new w3 58 #[.slice Bp np dp, .slice none 0 0, .slice none 0 0]
  have hbA := bl_al (.cells #[.slice Bp np dp, .slice none 0 0, .slice none 0 0] 58) (bl_refl w3)
  replace hop := Lib.hid (own_below (own_mono (Nat.zero_le _) hop.out) hbA)
  replace hb0 := bl_tr hb0 hbA
  replace k0 := k0.below hbA
  replace k1 := k1.below hbA
  have hsA := kO.lt
  generalize hg0 : w3.heap.size = gO at *
  generalize w3.alloc (.cells #[.slice Bp np dp, .slice none 0 0, .slice none 0 0] 58) = wA at *
  have hgO : w.heap.size + 1 < gO := by omega
  clear hbA hb3 hg0
  go_wp2
  go_loopw [4] (fun i wr => ∃ (k : Nat) (fs : List Fu) (v : Value), k ≤ nf ∧ i = .int .i64 k ∧ fs.map Fu.con = (n.fs.take k).map Fu.con ∧ Below w.heap.size w wr ∧ Blk wr w.heap.size 58 #[.slice Ap np cp, .slice Af nf cf, .slice Am nm cm] ∧ Blk wr (w.heap.size + 1) 58 #[.slice none 0 0, .slice none 0 0, .slice none 0 0] ∧
    Blk wr gO 58 #[.slice Bp np dp, v, .slice none 0 0] ∧ wr.ownsRow 0 9 1 (.slice Bp np dp) np (n.ps.flatMap cS) ∧ wr.ownsRow (gO + 1) 144 2 v k (fs.flatMap cFu) ∧ ∀ f ∈ fs, FuO f wr) (fun i _ => nf - (intOf i).toNat)
  case atStart => exact ⟨0, [], .slice none 0 0, Nat.zero_le _, rfl, rfl, hb0, k0, k1, kO, hop.out, World.ownsRow_nil _ _ _ _, fun f hf => by simp at hf⟩
  case round =>
    clear hb0 k0 k1 kO hop
    obtain ⟨k, fs, v, hk, rfl, hfs, hb0, k0, k1, kO, hop, how, hfo⟩ := hrel
    obtain ⟨vA, vc, rfl⟩ := own_slice how
    replace hfs := Lib.hid hfs
    replace hop := Lib.hid hop
    replace how := Lib.hid how
    replace hfo := Lib.hid hfo
    have L0 := k0.cell
    by_cases hkn : k < nf
    · have hx : n.fs[k]? = some (n.fs[k]'(by rw [Hf.out]; exact hkn)) := List.getElem?_eq_getElem _
      generalize n.fs[k]'(by rw [Hf.out]; exact hkn) = f at hx
      have hm := List.mem_of_getElem? hx
      have hcf := Lib.hid (hcl.out f hm)
      have hfn := Lib.hid (Hn.out.fin f hm).nm
      have hfl := (Hn.out.fin f hm).len
      have htk := Lib.hid (show (n.fs.take (k + 1)).map Fu.con = (n.fs.take k).map Fu.con ++ [f.con] by rw [List.take_add_one, hx]; simp)
      obtain ⟨b, off, rfl, hc⟩ := Hn.out.fsl k f hx
      have d0 : ∀ W, Below wr.heap.size wr W → W.cell? ⟨b, off + k * 2, none⟩ = some (.string f.name) := later (by simpa using kcell hb0 (hc 0 _ rfl))
      have d1 : ∀ W, Below wr.heap.size wr W → W.cell? ⟨b, off + k * 2 + 1, none⟩ = some (.slice f.A f.ws.length f.c) := later (kcell hb0 (hc 1 _ rfl))
      have hcon : f.con = (f.name, f.ws.map fun r : Rw => r.l) := rfl
      rw [hcon] at htk
      have hll : (f.ws.map fun r : Rw => r.l).length = f.ws.length := by simp
      clear hc hx hm hcon
      generalize (f.ws.map fun r : Rw => r.l) = LL at *
      generalize f.name = fn at *
      generalize hfw : f.ws.length = fw at *
      generalize f.A = fA at *
      generalize f.c = fc at *
      clear hfw
      replace hll := Lib.hid hll
      go_upto_region 5 with fail
      clear L0
      have hkn2 : (k : Int) < nf := by omega
      have Lk0 := k0.later
      have Fk0 := k0.laterF
      have Qk0 := k0.lt
      have Lk1 := k1.later
      have Fk1 := k1.laterF
      have Qk1 := k1.lt
      have LkO := kO.later
      have FkO := kO.laterF
      have QkO := kO.lt
      refine wp_any (w0 := wr) ⟨[17, 18, 19], [], [some 17, some 18, some 19, some 20, some 21, some 22, some 23, some 24, some 25, some 26, some 27, some 28, some 29, some 30, some 31, some 32, some 33, none, none, none], [[], [0], [], [2], [], [2, 3, 4], [2, 3, 4, 5], [2, 3, 4, 5, 6], [], [8], [], [8, 9, 10], [8, 9, 10, 11], [8, 9, 10, 11, 12], [8, 9, 10, 11, 12, 13], [2, 3, 4, 5, 6, 7, 8, 9, 10, 11, 12, 13, 14], [2, 3, 4, 5, 6, 7, 8, 9, 10, 11, 12, 13, 14, 15], [0, 1, 2, 3, 4, 5, 6, 7, 8, 9, 10, 11, 12, 13, 14, 15, 16], [0, 1, 2, 3, 4, 5, 6, 7, 8, 9, 10, 11, 12, 13, 14, 15, 16, 17], [0, 1, 2, 3, 4, 5, 6, 7, 8, 9, 10, 11, 12, 13, 14, 15, 16, 17, 18]], [[], [0], [], [2], [], [3, 4], [5], [6], [], [8], [], [9, 10], [11], [12], [13], [7, 14], [14, 15], [], [], []]⟩ (fun _ => gO :: ownL (.slice vA k vc)) (by kernel_rfl) (by kernel_rfl) (by (exact zE)) (fun u => by simp only [putD, Act.put, List.setIfInBounds_toArray, List.set_cons_zero, List.set_cons_succ, Nat.zero_add, Nat.reduceAdd]; rfl) ?_
      apply RGW.on (i := 0) rfl
      · exact zG
      · intro γ u W hcur hd
        clear hd
        (try dsimp only)
        exact ⟨rfl, zS⟩
      · exact zC
      · rfl
      dsimp only [nA, cA]
      apply RGW.on (i := 1) rfl
      · exact zG
      · intro γ u W hcur hd
        obtain ⟨⟨h0, -, -⟩, -⟩ := hd
        dsimp only at h0
        (try simp only [h0])
        exact ⟨rfl, zS⟩
      · exact zC
      · rfl
      dsimp only [nA, cA]
      apply RGW.on (i := 2) rfl
      · exact zG
      · intro γ u W hcur hd
        clear hd
        (try dsimp only)
        exact ⟨rfl, zS⟩
      · exact zC
      · rfl
      dsimp only [nA, cA]
      apply RGW.on (i := 3) rfl
      · exact zG
      · intro γ u W hcur hd
        obtain ⟨⟨h2, -, -⟩, -⟩ := hd
        dsimp only at h2
        (try simp only [h2])
        exact ⟨rfl, zS⟩
      · exact zC
      · rfl
      dsimp only [nA, cA]
      apply RGW.on (i := 4) rfl
      · exact zG
      · intro γ u W hcur hd
        clear hd
        (try dsimp only)
        exact ⟨rfl, zS⟩
      · exact zC
      · rfl
      dsimp only [nA, cA]
      apply RGW.on (i := 5) rfl
      · exact zG
      · intro γ u W hcur hd
        obtain ⟨⟨h3, -, -⟩, ⟨h4, -, -⟩, -⟩ := hd
        dsimp only at h3 h4
        (try simp only [h3, h4])
        exact ⟨rfl, zS⟩
      · exact zC
      · rfl
      dsimp only [nA, cA]
      apply RGW.on (i := 6) rfl
      · exact zG
      · intro γ u W hcur hd
        obtain ⟨⟨h5, -, -⟩, -⟩ := hd
        dsimp only at h5
        (try simp only [h5])
        exact ⟨rfl, zS⟩
      · exact zC
      · rfl
      dsimp only [nA, cA]
      apply RGW.on (i := 7) rfl
      · exact zG
      · intro γ u W hcur hd
        obtain ⟨⟨h6, -, -⟩, -⟩ := hd
        dsimp only at h6
        (try simp only [h6])
        exact ⟨rfl, zS⟩
      · exact zC
      · rfl
      dsimp only [nA, cA]
      apply RGW.on (i := 8) rfl
      · exact zG
      · intro γ u W hcur hd
        clear hd
        (try dsimp only)
        exact ⟨rfl, zS⟩
      · exact zC
      · rfl
      dsimp only [nA, cA]
      apply RGW.on (i := 9) rfl
      · exact zG
      · intro γ u W hcur hd
        obtain ⟨⟨h8, -, -⟩, -⟩ := hd
        dsimp only at h8
        (try simp only [h8])
        exact ⟨rfl, zS⟩
      · exact zC
      · rfl
      dsimp only [nA, cA]
      apply RGW.on (i := 10) rfl
      · exact zG
      · intro γ u W hcur hd
        clear hd
        (try dsimp only)
        exact ⟨rfl, zS⟩
      · exact zC
      · rfl
      dsimp only [nA, cA]
      apply RGW.on (i := 11) rfl
      · exact zG
      · intro γ u W hcur hd
        obtain ⟨⟨h9, -, -⟩, ⟨h10, -, -⟩, -⟩ := hd
        dsimp only at h9 h10
        (try simp only [h9, h10])
        exact ⟨rfl, zS⟩
      · exact zC
      · rfl
      dsimp only [nA, cA]
      apply RGW.on (i := 12) rfl
      · exact zG
      · intro γ u W hcur hd
        obtain ⟨⟨h11, -, -⟩, -⟩ := hd
        dsimp only at h11
        (try simp only [h11])
        exact ⟨rfl, zS⟩
      · exact zC
      · rfl
      dsimp only [nA, cA]
      apply RGW.on (i := 13) rfl
      · exact zG
      · intro γ u W hcur hd
        obtain ⟨⟨h12, -, -⟩, -⟩ := hd
        dsimp only at h12
        (try simp only [h12])
        exact ⟨rfl, zS⟩
      · exact zC
      · rfl
      dsimp only [nA, cA]
      apply RGW.gh (⟨fun γ => .slice (γ 14).A fw (γ 14).c, fun γ W => LsO LL (γ 14).A (γ 14).c W, fun _ => []⟩) (i := 14) rfl
      · exact zG
      · intro γ u W hcur hd
        obtain ⟨⟨h13, -, -⟩, -⟩ := hd
        dsimp only at h13
        (try simp only [h13])
        refine ⟨rfl, fun K hK => ?_⟩
        go_simp
        first
        | (go_at_call 86; (with_reducible refine (hcf.out _ (bl_tr hb0 hcur)).mono ?_); rintro e w3 ⟨Ax, cx, rfl, hb3, hox⟩; dsimp only; exact hK.out ⟨0, undef, Ax, cx⟩ _ _ (by simp [up]) hb3 (by simpa [up] using hox) (by simp))
        | (refine wp_appT _ _ rfl Tryz.underlying55 hi1 hy0 hy1 hy2 rfl (by decide) (.slice vA k vc) k _ [.string fn, .slice (γ 14).A fw (γ 14).c] rfl rfl (own_below how.out hwd) r16 rfl (by intro u hu; simp at hu; rcases hu with rfl | rfl <;> rfl) (by unfold maxLen; omega) (by omega) (Nat.le_trans (by omega) hwd.size) ?_; intro v' w' hown' hbx' hv'; obtain ⟨vA', vc', rfl⟩ := own_slice hown'; refine hK.out _ _ (bx_sub hbx' (fun g hg => List.mem_cons_of_mem _ hg)) (fun hcur => ?_); have u0 : w'.cell? ⟨gO, 1, none⟩ = some (.slice vA k vc) := (by rw [((kO.below hwd).keep (fun h => by have := ownL_ge how.out _ h; omega) hbx').cell]; rfl); have z0 : w'.frozen? ⟨gO, 1, none⟩ = false := ((kO.below hwd).keep (fun h => by have := ownL_ge how.out _ h; omega) hbx').frozen _)
      · first
        | exact zC
        | intro γ γ' hg
          try dsimp only
          have e14 := hg 14 (by decide)
          simp only [e14]
          try exact ⟨trivial, fun _ h => h⟩
      · intro γ W W' hbl hR
        first | exact hR.below hbl | exact own_below hR hbl | exact trivial | exact ⟨hR.1.below hbl, hR.2⟩
      · rfl
      dsimp only [nA, cA]
      apply RGW.on (i := 15) rfl
      · exact zG
      · intro γ u W hcur hd
        obtain ⟨⟨h7, -, -⟩, ⟨h14, r14, -⟩, -⟩ := hd
        dsimp only at h7 h14 r14
        (try simp only [h7, h14])
        exact ⟨rfl, zS⟩
      · first
        | exact zC
        | intro γ γ' hg
          try dsimp only
          have e14 := hg 14 (by decide)
          simp only [e14]
      · rfl
      dsimp only [nA, cA]
      apply RGW.bslice (i := 16) rfl
      · exact zG
      · intro γ u W hcur hd
        obtain ⟨⟨h14, r14, -⟩, ⟨h15, -, -⟩, -⟩ := hd
        dsimp only at h14 h15 r14
        (try simp only [h14, h15])
        refine ⟨rfl, fun K hK => ?_⟩
        go_simp
        exact hK.out _ _ rfl rfl
      · first
        | exact zC
        | intro γ γ' hg
          try dsimp only
          have e14 := hg 14 (by decide) (by decide)
          simp only [e14]
      · rfl
      · rfl
      dsimp only [nA, cA]
      refine RGW.skip (i := 17) rfl rfl ?_
      dsimp only [nA, cA]
      refine RGW.skip (i := 18) rfl rfl ?_
      dsimp only [nA, cA]
      refine RGW.skip (i := 19) rfl rfl ?_
      dsimp only [nA, cA]
      refine RGW.fin (fun γ u wd hwd hd hdis => ?_)
      obtain ⟨⟨h0, -, -⟩, ⟨h1, -, -⟩, ⟨h2, -, -⟩, ⟨h3, -, -⟩, ⟨h4, -, -⟩, ⟨h5, -, -⟩, ⟨h6, -, -⟩, ⟨h7, -, -⟩, ⟨h8, -, -⟩, ⟨h9, -, -⟩, ⟨h10, -, -⟩, ⟨h11, -, -⟩, ⟨h12, -, -⟩, ⟨h13, -, -⟩, ⟨h14, r14, b14⟩, ⟨h15, -, -⟩, ⟨h16, r16, b16⟩, -⟩ := hd
      dsimp only at h0 h1 h2 h3 h4 h5 h6 h7 h8 h9 h10 h11 h12 h13 h14 h15 h16 r14 r16 b14 b16
      clear hdis
      simp only [h0, h1, h2, h3, h4, h5, h6, h7, h8, h9, h10, h11, h12, h13, h14, h15, h16]
      clear h16 h15 h14 h13 h12 h11 h10 h9 h8 h7 h6 h5 h4 h3 h2 h1 h0
      replace b16 := b16 _ (List.mem_singleton.2 rfl)
      generalize hγ16 : (γ 16).n = g16 at *
      clear hγ16
      clear u
      simp only [List.map_cons, List.map_nil]
      apply PlanW.step
      · exact zG
      · rfl
      intro K hK
      first
      | (go_at_call 86; (with_reducible refine (hcf.out _ (bl_tr hb0 hcur)).mono ?_); rintro e w3 ⟨Ax, cx, rfl, hb3, hox⟩; dsimp only; exact hK.out ⟨0, undef, Ax, cx⟩ _ _ (by simp [up]) hb3 (by simpa [up] using hox) (by simp))
      | (refine wp_appT _ _ rfl Tryz.underlying55 hi1 hy0 hy1 hy2 rfl (by decide) (.slice vA k vc) k _ [.string fn, .slice (γ 14).A fw (γ 14).c] rfl rfl (own_below how.out hwd) r16 rfl (by intro u hu; simp at hu; rcases hu with rfl | rfl <;> rfl) (by unfold maxLen; omega) (by omega) (Nat.le_trans (by omega) hwd.size) ?_; intro v' w' hown' hbx' hv'; obtain ⟨vA', vc', rfl⟩ := own_slice hown'; refine hK.out _ _ (bx_sub hbx' (fun g hg => List.mem_cons_of_mem _ hg)) (fun hcur => ?_); have u0 : w'.cell? ⟨gO, 1, none⟩ = some (.slice vA k vc) := (by rw [((kO.below hwd).keep (fun h => by have := ownL_ge how.out _ h; omega) hbx').cell]; rfl); have z0 : w'.frozen? ⟨gO, 1, none⟩ = false := ((kO.below hwd).keep (fun h => by have := ownL_ge how.out _ h; omega) hbx').frozen _)
      clear hK K
      try simp only [Act.put, List.setIfInBounds_toArray, List.set_cons_zero, List.set_cons_succ]
      apply PlanW.step
      · exact zG
      · rfl
      intro K hK
      go_simp
      refine hK.out _ _ (by with_reducible first | assumption | exact bx_refl _ _) (fun hcur => ?_)
      clear hK K
      try simp only [Act.put, List.setIfInBounds_toArray, List.set_cons_zero, List.set_cons_succ]
      apply PlanW.step
      · exact zG
      · rfl
      intro K hK
      first
      | refine wp_store_keep (X := gO :: ownL (.slice vA k vc)) (w0 := wd) rfl rfl rfl (by with_reducible first | exact bx_refl _ _ | assumption) (by with_reducible first | assumption | (apply Blk.below (hb := hwd); assumption)) (by simp) (by kernel_rfl) (by rfl) (by simp [Value.oneCell']) (fun hres1 hcur => ?_)
        refine hK.out _ _ hcur (fun _ => ?_)
      | go_simp
        refine hK.out _ _ (by (exact zX)) (fun hcur => ?_)
      | obtain ⟨u0, v0, z0⟩ := bx_cell0 hcur (Blk.below k0 hwd) (by simp)
        go_simp
        refine hK.out _ _ (by (exact zX)) (fun hcur => ?_)
      | obtain ⟨u0, v0, z0⟩ := bx_cell0 hcur (Blk.below k1 hwd) (by simp)
        go_simp
        refine hK.out _ _ (by (exact zX)) (fun hcur => ?_)
      | obtain ⟨u0, v0, z0⟩ := bx_cell0 hcur (Blk.below kO hwd) (by simp)
        go_simp
        refine hK.out _ _ (by (exact zX)) (fun hcur => ?_)
      | obtain ⟨u0, v0, z0⟩ := bx_cell0 (X := gO :: ownL (.slice vA k vc)) (w0 := wd) (by with_reducible first | assumption | exact bx_refl _ _) r16 (by simp)
        go_simp
        refine hK.out _ _ (by (exact zX)) (fun hcur => ?_)
      clear hK K
      try simp only [Act.put, List.setIfInBounds_toArray, List.set_cons_zero, List.set_cons_succ]
      refine PlanW.done ?_
      have hb3 := bl_tt hwd
      obtain ⟨ws, hws, hwo, hwr⟩ := r14
      have hwl : ws.length = fw := by rw [← hll.out, ← hws, List.length_map]
      rw [hll.out] at hwo
      have hge := ownL_ge how.out
      have hwD := own_below how.out hwd
      have hX1 := noT_blk (kO.below hwd) (show 58 ≠ 3 by decide) (noT_own hwD (show 144 ≠ 3 by decide))
      have hX2 := noT_blk (kO.below hwd) (show 58 ≠ 23 by decide) (noT_own hwD (show 144 ≠ 23 by decide))
      have hX3 := noT_blk (kO.below hwd) (show 58 ≠ 9 by decide) (noT_own hwD (show 144 ≠ 9 by decide))
      have hXg : ∀ g ∈ gO :: ownL (.slice vA k vc), gO ≤ g := fun g hg => by
        rcases List.mem_cons.1 hg with rfl | hg
        · exact Nat.le_refl _
        · have := hge g hg; omega
      have hfnew : FuO ⟨fn, (γ 14).A, (γ 14).c, ws⟩ wd := ⟨hfn.out, by rw [hwl]; exact hfl, by rw [hwl]; exact hwo, hwr⟩
      have kO2 := ((kO.below hwd).keep (fun h => by have := hge _ h; omega) hbx').set 1 (.slice vA' (k + 1) vc')
      have ho9 := own_bx hown' (bx_set (X := [gO]) (g := gO) (i := 1) (.inl (List.mem_singleton.2 rfl)) (.slice vA' (k + 1) vc') (bx_refl [gO] w')) (fun x hx => by have := List.mem_singleton.1 hx; omega)
      have hb9 := bx_below (bl_tr hb0 hwd) hcur (fun g hg => by have := hXg g hg; omega)
      have k09 := (k0.below hwd).keep (fun h => by have := hXg _ h; omega) hcur
      have k19 := (k1.below hwd).keep (fun h => by have := hXg _ h; omega) hcur
      have hp9 := own_keepT (own_below hop.out hwd) hcur hX3
      have hf9 : ∀ f ∈ fs ++ [(⟨fn, (γ 14).A, (γ 14).c, ws⟩ : Fu)], FuO f (w'.setCell ⟨gO, 1, none⟩ (.slice vA' (k + 1) vc')) := fun f hf => by
        rcases List.mem_append.1 hf with hf | hf
        · exact ((hfo.out f hf).below hwd).keep hcur hX1 hX2
        · have := List.mem_singleton.1 hf
          subst this
          exact hfnew.keep hcur hX1 hX2
      have hc9 := Lib.hid (show (fs ++ [(⟨fn, (γ 14).A, (γ 14).c, ws⟩ : Fu)]).map Fu.con = (n.fs.take (k + 1)).map Fu.con by rw [List.map_append, hfs.out, htk.out, ← hws]; rfl)
      have hw9 := Lib.hid (show (w'.setCell ⟨gO, 1, none⟩ (.slice vA' (k + 1) vc')).ownsRow (gO + 1) 144 2 (.slice vA' (k + 1) vc') (k + 1) ((fs ++ [(⟨fn, (γ 14).A, (γ 14).c, ws⟩ : Fu)]).flatMap cFu) by
        have e : (fs ++ [(⟨fn, (γ 14).A, (γ 14).c, ws⟩ : Fu)]).flatMap cFu = fs.flatMap cFu ++ [.string fn, .slice (γ 14).A fw (γ 14).c] := by rw [← hwl]; simp [cFu]
        rw [e]
        exact ho9)
      generalize w'.setCell ⟨gO, 1, none⟩ (.slice vA' (k + 1) vc') = w9 at *
      clear hfnew hX1 hX2 hX3 hXg hge hwD ho9 hcur hbx' hown' hv' u0 z0 hb0 k0 k1 kO hop how hfo hwo hwr hll hfs htk hcf r16 hb3 hwd
      go_wp2
      go_roundw
      case rel => exact ⟨k + 1, _, _, by omega, by go_num, hc9.out, hb9, k09, k19, by simpa using kO2, hp9, hw9.out, hf9⟩
      case measure => simp [intOf]; omega
    as_aux_lemma =>
      obtain rfl : nf = k := by omega
      have hfs9 := Lib.hid (show fs.map Fu.con = n.fs.map Fu.con by rw [hfs.out, ← Hf.out, List.take_length])
      clear hfs hkn hcl hct
      go_wp2
      clear L0
      go_loopw [5] (fun i wr => ∃ (k : Nat) (ms : List Md) (v : Value), k ≤ nm ∧ i = .int .i64 k ∧ ms.map Md.con = (n.ms.take k).map Md.con ∧ Below w.heap.size w wr ∧ Blk wr w.heap.size 58 #[.slice Ap np cp, .slice Af nf cf, .slice Am nm cm] ∧ Blk wr (w.heap.size + 1) 58 #[.slice none 0 0, .slice none 0 0, .slice none 0 0] ∧
        Blk wr gO 58 #[.slice Bp np dp, .slice vA nf vc, v] ∧ wr.ownsRow 0 9 1 (.slice Bp np dp) np (n.ps.flatMap cS) ∧ wr.ownsRow 0 144 2 (.slice vA nf vc) nf (fs.flatMap cFu) ∧ (∀ f ∈ fs, FuO f wr) ∧ wr.ownsRow (gO + 1) 146 2 v k (ms.flatMap cMd) ∧ ∀ m ∈ ms, MdO m wr) (fun i _ => nm - (intOf i).toNat)
      case atStart => exact ⟨0, [], .slice none 0 0, Nat.zero_le _, rfl, rfl, hb0, k0, k1, kO, hop.out, own_mono (Nat.zero_le _) how.out, hfo.out, World.ownsRow_nil _ _ _ _, fun f hf => by simp at hf⟩
      case round =>
        clear hb0 k0 k1 kO hop how hfo
        obtain ⟨k, ms, v, hk, rfl, hms, hb0, k0, k1, kO, hop, how, hfo, hov, hmo⟩ := hrel
        obtain ⟨uA, uc, rfl⟩ := own_slice hov
        replace hms := Lib.hid hms
        replace hop := Lib.hid hop
        replace how := Lib.hid how
        replace hfo := Lib.hid hfo
        replace hov := Lib.hid hov
        replace hmo := Lib.hid hmo
        have L0 := k0.cell
        by_cases hkn : k < nm
        · have hx : n.ms[k]? = some (n.ms[k]'(by rw [Hm.out]; exact hkn)) := List.getElem?_eq_getElem _
          generalize n.ms[k]'(by rw [Hm.out]; exact hkn) = f at hx
          have hm := List.mem_of_getElem? hx
          have hcf := Lib.hid (hci.out f hm)
          have hfn := Lib.hid (Hn.out.min f hm).nm
          have hfl := (Hn.out.min f hm).row.len
          have htk := Lib.hid (show (n.ms.take (k + 1)).map Md.con = (n.ms.take k).map Md.con ++ [(f.name, f.r.l)] by rw [List.take_add_one, hx]; simp [Md.con])
          obtain ⟨b, off, rfl, hc⟩ := Hn.out.msl k f hx
          have d0 : ∀ W, Below wr.heap.size wr W → W.cell? ⟨b, off + k * 2, none⟩ = some (.string f.name) := later (by simpa using kcell hb0 (hc 0 _ rfl))
          have d1 : ∀ W, Below wr.heap.size wr W → W.cell? ⟨b, off + k * 2 + 1, none⟩ = some (.slice f.r.A f.r.l.length f.r.c) := later (kcell hb0 (hc 1 _ rfl))
          clear hc hx hm
          generalize f.name = fn at *
          generalize f.r.A = fA at *
          generalize f.r.c = fc at *
          generalize f.r.l = LL at *
          obtain ⟨fw, Hw⟩ : ∃ k, Hid (LL.length = k) := ⟨_, rfl⟩
          rw [Hw.out] at hfl d1 hcf
          go_upto_region 9 with fail
          clear L0
          have hkn2 : (k : Int) < nm := by omega
          have Lk0 := k0.later
          have Fk0 := k0.laterF
          have Qk0 := k0.lt
          have Lk1 := k1.later
          have Fk1 := k1.laterF
          have Qk1 := k1.lt
          have LkO := kO.later
          have FkO := kO.laterF
          have QkO := kO.lt
          refine wp_any (w0 := wr) ⟨[17, 18, 19], [], [some 43, some 44, some 45, some 46, some 47, some 48, some 49, some 50, some 51, some 52, some 53, some 54, some 55, some 56, some 57, some 58, some 59, none, none, none], [[], [0], [], [2], [], [2, 3, 4], [2, 3, 4, 5], [2, 3, 4, 5, 6], [], [8], [], [8, 9, 10], [8, 9, 10, 11], [8, 9, 10, 11, 12], [8, 9, 10, 11, 12, 13], [2, 3, 4, 5, 6, 7, 8, 9, 10, 11, 12, 13, 14], [2, 3, 4, 5, 6, 7, 8, 9, 10, 11, 12, 13, 14, 15], [0, 1, 2, 3, 4, 5, 6, 7, 8, 9, 10, 11, 12, 13, 14, 15, 16], [0, 1, 2, 3, 4, 5, 6, 7, 8, 9, 10, 11, 12, 13, 14, 15, 16, 17], [0, 1, 2, 3, 4, 5, 6, 7, 8, 9, 10, 11, 12, 13, 14, 15, 16, 17, 18]], [[], [0], [], [2], [], [3, 4], [5], [6], [], [8], [], [9, 10], [11], [12], [13], [7, 14], [14, 15], [], [], []]⟩ (fun _ => gO :: ownL (.slice uA k uc)) (by kernel_rfl) (by kernel_rfl) (by (exact zE)) (fun u => by simp only [putD, Act.put, List.setIfInBounds_toArray, List.set_cons_zero, List.set_cons_succ, Nat.zero_add, Nat.reduceAdd]; rfl) ?_
          apply RGW.on (i := 0) rfl
          · exact zG
          · intro γ u W hcur hd
            clear hd
            (try dsimp only)
            exact ⟨rfl, zS⟩
          · exact zC
          · rfl
          dsimp only [nA, cA]
          apply RGW.on (i := 1) rfl
          · exact zG
          · intro γ u W hcur hd
            obtain ⟨⟨h0, -, -⟩, -⟩ := hd
            dsimp only at h0
            (try simp only [h0])
            exact ⟨rfl, zS⟩
          · exact zC
          · rfl
          dsimp only [nA, cA]
          apply RGW.on (i := 2) rfl
          · exact zG
          · intro γ u W hcur hd
            clear hd
            (try dsimp only)
            exact ⟨rfl, zS⟩
          · exact zC
          · rfl
          dsimp only [nA, cA]
          apply RGW.on (i := 3) rfl
          · exact zG
          · intro γ u W hcur hd
            obtain ⟨⟨h2, -, -⟩, -⟩ := hd
            dsimp only at h2
            (try simp only [h2])
            exact ⟨rfl, zS⟩
          · exact zC
          · rfl
          dsimp only [nA, cA]
          apply RGW.on (i := 4) rfl
          · exact zG
          · intro γ u W hcur hd
            clear hd
            (try dsimp only)
            exact ⟨rfl, zS⟩
          · exact zC
          · rfl
          dsimp only [nA, cA]
          apply RGW.on (i := 5) rfl
          · exact zG
          · intro γ u W hcur hd
            obtain ⟨⟨h3, -, -⟩, ⟨h4, -, -⟩, -⟩ := hd
            dsimp only at h3 h4
            (try simp only [h3, h4])
            exact ⟨rfl, zS⟩
          · exact zC
          · rfl
          dsimp only [nA, cA]
          apply RGW.on (i := 6) rfl
          · exact zG
          · intro γ u W hcur hd
            obtain ⟨⟨h5, -, -⟩, -⟩ := hd
            dsimp only at h5
            (try simp only [h5])
            exact ⟨rfl, zS⟩
          · exact zC
          · rfl
          dsimp only [nA, cA]
          apply RGW.on (i := 7) rfl
          · exact zG
          · intro γ u W hcur hd
            obtain ⟨⟨h6, -, -⟩, -⟩ := hd
            dsimp only at h6
            (try simp only [h6])
            exact ⟨rfl, zS⟩
          · exact zC
          · rfl
          dsimp only [nA, cA]
          apply RGW.on (i := 8) rfl
          · exact zG
          · intro γ u W hcur hd
            clear hd
            (try dsimp only)
            exact ⟨rfl, zS⟩
          · exact zC
          · rfl
          dsimp only [nA, cA]
          apply RGW.on (i := 9) rfl
          · exact zG
          · intro γ u W hcur hd
            obtain ⟨⟨h8, -, -⟩, -⟩ := hd
            dsimp only at h8
            (try simp only [h8])
            exact ⟨rfl, zS⟩
          · exact zC
          · rfl
          dsimp only [nA, cA]
          apply RGW.on (i := 10) rfl
          · exact zG
          · intro γ u W hcur hd
            clear hd
            (try dsimp only)
            exact ⟨rfl, zS⟩
          · exact zC
          · rfl
          dsimp only [nA, cA]
          apply RGW.on (i := 11) rfl
          · exact zG
          · intro γ u W hcur hd
            obtain ⟨⟨h9, -, -⟩, ⟨h10, -, -⟩, -⟩ := hd
            dsimp only at h9 h10
            (try simp only [h9, h10])
            exact ⟨rfl, zS⟩
          · exact zC
          · rfl
          dsimp only [nA, cA]
          apply RGW.on (i := 12) rfl
          · exact zG
          · intro γ u W hcur hd
            obtain ⟨⟨h11, -, -⟩, -⟩ := hd
            dsimp only at h11
            (try simp only [h11])
            exact ⟨rfl, zS⟩
          · exact zC
          · rfl
          dsimp only [nA, cA]
          apply RGW.on (i := 13) rfl
          · exact zG
          · intro γ u W hcur hd
            obtain ⟨⟨h12, -, -⟩, -⟩ := hd
            dsimp only at h12
            (try simp only [h12])
            exact ⟨rfl, zS⟩
          · exact zC
          · rfl
          dsimp only [nA, cA]
          apply RGW.gh (⟨fun γ => .slice (γ 14).A fw (γ 14).c, fun γ W => W.ownsRow 0 3 1 (.slice (γ 14).A fw (γ 14).c) fw (LL.map (.int .i64)), fun _ => []⟩) (i := 14) rfl
          · exact zG
          · intro γ u W hcur hd
            obtain ⟨⟨h13, -, -⟩, -⟩ := hd
            dsimp only at h13
            (try simp only [h13])
            refine ⟨rfl, fun K hK => ?_⟩
            go_simp
            first
            | (go_at_call 21; (with_reducible refine (hcf.out _ (bl_tr hb0 hcur)).mono ?_); rintro e w3 ⟨Ax, cx, rfl, hb3, hox⟩; dsimp only; rw [Hw.out] at hox ⊢; exact hK.out ⟨0, undef, Ax, cx⟩ _ _ (by simp [up]) hb3 (by simpa [up] using own_mono (Nat.zero_le _) hox) (by simp))
            | (refine wp_appT _ _ rfl Tryz.underlying56 hi2 hx0 hx1 hx2 rfl (by decide) (.slice uA k uc) k _ [.string fn, .slice (γ 14).A fw (γ 14).c] rfl rfl (own_below hov.out hwd) r16 rfl (by intro u hu; simp at hu; rcases hu with rfl | rfl <;> rfl) (by unfold maxLen; omega) (by omega) (Nat.le_trans (by omega) hwd.size) ?_; intro v' w' hown' hbx' hv'; obtain ⟨vA', vc', rfl⟩ := own_slice hown'; refine hK.out _ _ (bx_sub hbx' (fun g hg => List.mem_cons_of_mem _ hg)) (fun hcur => ?_); have u0 : w'.cell? ⟨gO, 2, none⟩ = some (.slice uA k uc) := (by rw [((kO.below hwd).keep (fun h => by have := ownL_ge hov.out _ h; omega) hbx').cell]; rfl); have z0 : w'.frozen? ⟨gO, 2, none⟩ = false := ((kO.below hwd).keep (fun h => by have := ownL_ge hov.out _ h; omega) hbx').frozen _)
          · first
            | exact zC
            | intro γ γ' hg
              try dsimp only
              have e14 := hg 14 (by decide)
              simp only [e14]
              try exact ⟨trivial, fun _ h => h⟩
          · intro γ W W' hbl hR
            first | exact hR.below hbl | exact own_below hR hbl | exact trivial | exact ⟨hR.1.below hbl, hR.2⟩
          · rfl
          dsimp only [nA, cA]
          apply RGW.on (i := 15) rfl
          · exact zG
          · intro γ u W hcur hd
            obtain ⟨⟨h7, -, -⟩, ⟨h14, r14, -⟩, -⟩ := hd
            dsimp only at h7 h14 r14
            (try simp only [h7, h14])
            exact ⟨rfl, zS⟩
          · first
            | exact zC
            | intro γ γ' hg
              try dsimp only
              have e14 := hg 14 (by decide)
              simp only [e14]
          · rfl
          dsimp only [nA, cA]
          apply RGW.bslice (i := 16) rfl
          · exact zG
          · intro γ u W hcur hd
            obtain ⟨⟨h14, r14, -⟩, ⟨h15, -, -⟩, -⟩ := hd
            dsimp only at h14 h15 r14
            (try simp only [h14, h15])
            refine ⟨rfl, fun K hK => ?_⟩
            go_simp
            exact hK.out _ _ rfl rfl
          · first
            | exact zC
            | intro γ γ' hg
              try dsimp only
              have e14 := hg 14 (by decide) (by decide)
              simp only [e14]
          · rfl
          · rfl
          dsimp only [nA, cA]
          refine RGW.skip (i := 17) rfl rfl ?_
          dsimp only [nA, cA]
          refine RGW.skip (i := 18) rfl rfl ?_
          dsimp only [nA, cA]
          refine RGW.skip (i := 19) rfl rfl ?_
          dsimp only [nA, cA]
          refine RGW.fin (fun γ u wd hwd hd hdis => ?_)
          obtain ⟨⟨h0, -, -⟩, ⟨h1, -, -⟩, ⟨h2, -, -⟩, ⟨h3, -, -⟩, ⟨h4, -, -⟩, ⟨h5, -, -⟩, ⟨h6, -, -⟩, ⟨h7, -, -⟩, ⟨h8, -, -⟩, ⟨h9, -, -⟩, ⟨h10, -, -⟩, ⟨h11, -, -⟩, ⟨h12, -, -⟩, ⟨h13, -, -⟩, ⟨h14, r14, b14⟩, ⟨h15, -, -⟩, ⟨h16, r16, b16⟩, -⟩ := hd
          dsimp only at h0 h1 h2 h3 h4 h5 h6 h7 h8 h9 h10 h11 h12 h13 h14 h15 h16 r14 r16 b14 b16
          clear hdis
          simp only [h0, h1, h2, h3, h4, h5, h6, h7, h8, h9, h10, h11, h12, h13, h14, h15, h16]
          clear h16 h15 h14 h13 h12 h11 h10 h9 h8 h7 h6 h5 h4 h3 h2 h1 h0
          replace b16 := b16 _ (List.mem_singleton.2 rfl)
          generalize hγ16 : (γ 16).n = g16 at *
          clear hγ16
          clear u
          simp only [List.map_cons, List.map_nil]
          apply PlanW.step
          · exact zG
          · rfl
          intro K hK
          first
          | (go_at_call 21; (with_reducible refine (hcf.out _ (bl_tr hb0 hcur)).mono ?_); rintro e w3 ⟨Ax, cx, rfl, hb3, hox⟩; dsimp only; rw [Hw.out] at hox ⊢; exact hK.out ⟨0, undef, Ax, cx⟩ _ _ (by simp [up]) hb3 (by simpa [up] using own_mono (Nat.zero_le _) hox) (by simp))
          | (refine wp_appT _ _ rfl Tryz.underlying56 hi2 hx0 hx1 hx2 rfl (by decide) (.slice uA k uc) k _ [.string fn, .slice (γ 14).A fw (γ 14).c] rfl rfl (own_below hov.out hwd) r16 rfl (by intro u hu; simp at hu; rcases hu with rfl | rfl <;> rfl) (by unfold maxLen; omega) (by omega) (Nat.le_trans (by omega) hwd.size) ?_; intro v' w' hown' hbx' hv'; obtain ⟨vA', vc', rfl⟩ := own_slice hown'; refine hK.out _ _ (bx_sub hbx' (fun g hg => List.mem_cons_of_mem _ hg)) (fun hcur => ?_); have u0 : w'.cell? ⟨gO, 2, none⟩ = some (.slice uA k uc) := (by rw [((kO.below hwd).keep (fun h => by have := ownL_ge hov.out _ h; omega) hbx').cell]; rfl); have z0 : w'.frozen? ⟨gO, 2, none⟩ = false := ((kO.below hwd).keep (fun h => by have := ownL_ge hov.out _ h; omega) hbx').frozen _)
          clear hK K
          try simp only [Act.put, List.setIfInBounds_toArray, List.set_cons_zero, List.set_cons_succ]
          apply PlanW.step
          · exact zG
          · rfl
          intro K hK
          go_simp
          refine hK.out _ _ (by with_reducible first | assumption | exact bx_refl _ _) (fun hcur => ?_)
          clear hK K
          try simp only [Act.put, List.setIfInBounds_toArray, List.set_cons_zero, List.set_cons_succ]
          apply PlanW.step
          · exact zG
          · rfl
          intro K hK
          first
          | refine wp_store_keep (X := gO :: ownL (.slice uA k uc)) (w0 := wd) rfl rfl rfl (by with_reducible first | exact bx_refl _ _ | assumption) (by with_reducible first | assumption | (apply Blk.below (hb := hwd); assumption)) (by simp) (by kernel_rfl) (by rfl) (by simp [Value.oneCell']) (fun hres1 hcur => ?_)
            refine hK.out _ _ hcur (fun _ => ?_)
          | go_simp
            refine hK.out _ _ (by (exact zX)) (fun hcur => ?_)
          | obtain ⟨u0, v0, z0⟩ := bx_cell0 hcur (Blk.below k0 hwd) (by simp)
            go_simp
            refine hK.out _ _ (by (exact zX)) (fun hcur => ?_)
          | obtain ⟨u0, v0, z0⟩ := bx_cell0 hcur (Blk.below k1 hwd) (by simp)
            go_simp
            refine hK.out _ _ (by (exact zX)) (fun hcur => ?_)
          | obtain ⟨u0, v0, z0⟩ := bx_cell0 hcur (Blk.below kO hwd) (by simp)
            go_simp
            refine hK.out _ _ (by (exact zX)) (fun hcur => ?_)
          | obtain ⟨u0, v0, z0⟩ := bx_cell0 (X := gO :: ownL (.slice uA k uc)) (w0 := wd) (by with_reducible first | assumption | exact bx_refl _ _) r16 (by simp)
            go_simp
            refine hK.out _ _ (by (exact zX)) (fun hcur => ?_)
          clear hK K
          try simp only [Act.put, List.setIfInBounds_toArray, List.set_cons_zero, List.set_cons_succ]
          refine PlanW.done ?_
          have hb3 := bl_tt hwd
          have hge := ownL_ge hov.out
          have hwD := own_below hov.out hwd
          have hX1 := noT_blk (kO.below hwd) (show 58 ≠ 3 by decide) (noT_own hwD (show 146 ≠ 3 by decide))
          have hX2 := noT_blk (kO.below hwd) (show 58 ≠ 23 by decide) (noT_own hwD (show 146 ≠ 23 by decide))
          have hX3 := noT_blk (kO.below hwd) (show 58 ≠ 9 by decide) (noT_own hwD (show 146 ≠ 9 by decide))
          have hX4 := noT_blk (kO.below hwd) (show 58 ≠ 144 by decide) (noT_own hwD (show 146 ≠ 144 by decide))
          have hXg : ∀ g ∈ gO :: ownL (.slice uA k uc), gO ≤ g := fun g hg => by
            rcases List.mem_cons.1 hg with rfl | hg
            · exact Nat.le_refl _
            · have := hge g hg; omega
          have hfnew : MdO ⟨fn, ⟨(γ 14).A, (γ 14).c, LL⟩⟩ wd := ⟨hfn.out, ⟨by rw [Hw.out]; exact hfl, by dsimp only; rw [Hw.out]; exact r14⟩⟩
          have kO2 := ((kO.below hwd).keep (fun h => by have := hge _ h; omega) hbx').set 2 (.slice vA' (k + 1) vc')
          have ho9 := own_bx hown' (bx_set (X := [gO]) (g := gO) (i := 2) (.inl (List.mem_singleton.2 rfl)) (.slice vA' (k + 1) vc') (bx_refl [gO] w')) (fun x hx => by have := List.mem_singleton.1 hx; omega)
          have hb9 := bx_below (bl_tr hb0 hwd) hcur (fun g hg => by have := hXg g hg; omega)
          have k09 := (k0.below hwd).keep (fun h => by have := hXg _ h; omega) hcur
          have k19 := (k1.below hwd).keep (fun h => by have := hXg _ h; omega) hcur
          have hp9 := own_keepT (own_below hop.out hwd) hcur hX3
          have hq9 := own_keepT (own_below how.out hwd) hcur hX4
          have hf9 : ∀ f ∈ fs, FuO f (w'.setCell ⟨gO, 2, none⟩ (.slice vA' (k + 1) vc')) := fun f hf => ((hfo.out f hf).below hwd).keep hcur hX1 hX2
          have hm9 : ∀ f ∈ ms ++ [(⟨fn, ⟨(γ 14).A, (γ 14).c, LL⟩⟩ : Md)], MdO f (w'.setCell ⟨gO, 2, none⟩ (.slice vA' (k + 1) vc')) := fun f hf => by
            rcases List.mem_append.1 hf with hf | hf
            · exact ((hmo.out f hf).below hwd).keep hcur hX1
            · have := List.mem_singleton.1 hf
              subst this
              exact hfnew.keep hcur hX1
          have hc9 := Lib.hid (show (ms ++ [(⟨fn, ⟨(γ 14).A, (γ 14).c, LL⟩⟩ : Md)]).map Md.con = (n.ms.take (k + 1)).map Md.con by rw [List.map_append, hms.out, htk.out]; rfl)
          have hw9 := Lib.hid (show (w'.setCell ⟨gO, 2, none⟩ (.slice vA' (k + 1) vc')).ownsRow (gO + 1) 146 2 (.slice vA' (k + 1) vc') (k + 1) ((ms ++ [(⟨fn, ⟨(γ 14).A, (γ 14).c, LL⟩⟩ : Md)]).flatMap cMd) by
            have e : (ms ++ [(⟨fn, ⟨(γ 14).A, (γ 14).c, LL⟩⟩ : Md)]).flatMap cMd = ms.flatMap cMd ++ [.string fn, .slice (γ 14).A fw (γ 14).c] := by rw [← Hw.out]; simp [cMd]
            rw [e]
            exact ho9)
          generalize w'.setCell ⟨gO, 2, none⟩ (.slice vA' (k + 1) vc') = w9 at *
          clear hfnew hX1 hX2 hX3 hX4 hXg hge hwD ho9 hcur hbx' hown' hv' u0 z0 hb0 k0 k1 kO hop how hfo hov hmo hms htk hcf r16 r14 hb3 hwd
          go_wp2
          go_roundw
          case rel => exact ⟨k + 1, _, _, by omega, by go_num, hc9.out, hb9, k09, k19, by simpa using kO2, hp9, hq9, hf9, hw9.out, hm9⟩
          case measure => simp [intOf]; omega
        obtain rfl : nm = k := by omega
        have hms9 := Lib.hid (show ms.map Md.con = n.ms.map Md.con by rw [hms.out, ← Hm.out, List.take_length])
        have LO := kO.cell
        have L1 := k1.cell
        have F1 := k1.frozen
        go_wp2
        clear LO L1 F1 L0
        refine absPN (fun W => BX [w.heap.size + 1] wr W ∧ Blk W (w.heap.size + 1) 58 #[.slice Bp np dp, .slice vA nf vc, .slice uA nm uc]) ⟨bx_set (.inl (List.mem_singleton.2 rfl)) _ (bx_set (.inl (List.mem_singleton.2 rfl)) _ (bx_set (.inl (List.mem_singleton.2 rfl)) _ (bx_refl _ _))), by simpa using ((k1.set 0 (.slice Bp np dp)).set 1 (.slice vA nf vc)).set 2 (.slice uA nm uc)⟩ fun W ⟨hbx, kr⟩ => ?_
        have hr := kr.cell
        have hY1 := noT_blk k1 (show 58 ≠ 3 by decide) (noT_nil wr _)
        have hY2 := noT_blk k1 (show 58 ≠ 23 by decide) (noT_nil wr _)
        have hY3 := noT_blk k1 (show 58 ≠ 9 by decide) (noT_nil wr _)
        have hY4 := noT_blk k1 (show 58 ≠ 144 by decide) (noT_nil wr _)
        have hY5 := noT_blk k1 (show 58 ≠ 146 by decide) (noT_nil wr _)
        have hfl9 : fs.length = nf := by have := congrArg List.length hfs9.out; simp at this; rw [this, Hf.out]
        have hml9 : ms.length = nm := by have := congrArg List.length hms9.out; simp at this; rw [this, Hm.out]
        have hp9 := own_keepT hop.out hbx hY3
        have hq9 := own_keepT how.out hbx hY4
        have hv9 := own_keepT hov.out hbx hY5
        refine bodyPost_ret (v := .agg #[.slice Bp np dp, .slice vA nf vc, .slice uA nm uc]) (by simp [results, Tryz.results35, go_sem, hr]) rfl ⟨bx_below hb0 hbx (by simp), ⟨n.ps, fs, ms⟩, Bp, vA, uA, dp, vc, uc, ⟨rfl, hfs9.out, hms9.out⟩, ?_, rfl⟩
        refine ⟨by rw [Hp.out]; exact g1, by dsimp only; omega, by dsimp only; omega, by dsimp only; rw [Hp.out]; exact own_cap hp9, by dsimp only; rw [hfl9]; exact own_cap hq9, by dsimp only; rw [hml9]; exact own_cap hv9, ?_, ?_, ?_, Hn.out.pnm, fun f hf => ((hfo.out f hf).keep hbx hY1 hY2).fu, fun f hf => ((hmo.out f hf).keep hbx hY1).md⟩
        · exact own_slC (cs := cS) (fun _ => rfl) (by decide) (by dsimp only; rw [Hp.out]; exact hp9)
        · exact own_slC (cs := cFu) (fun _ => rfl) (by decide) (by dsimp only; rw [hfl9]; exact hq9)
        · exact own_slC (cs := cMd) (fun _ => rfl) (by decide) (by dsimp only; rw [hml9]; exact hv9)
end Go.Proofs.YtbdgblnccjpahaaGreatDoor
namespace Go.Proofs.YtbdgblnccjpahaaGreatDoor
open Go.RowKit Go.Shelf
set_option maxRecDepth 20000
/-! ### The contracts at a copy. -/
section
variable {n m : Nt} {Bp Bf Bm : Option Addr} {dp df dm : Nat} {W : World}
theorem NtEq.flt (h : NtEq n m) (l : List Int) : fltE m l = fltE n l := by unfold fltE; rw [h.err, h.ps]
theorem NtEq.work (h : NtEq n m) (s : Nat) : workN m.fs s m.fs.length = workN n.fs s n.fs.length := by rw [workN_con h.fs, h.flen]
theorem NtEq.after (h : NtEq n m) (l : List Int) : afterS m l = afterS n l := by unfold afterS; rw [h.work]
theorem NtEq.cutErr (h : NtEq n m) (k : Int) : cutErr m k = cutErr n k := by
  unfold Go.Proofs.YtbdgblnccjpahaaGreatDoor.cutErr
  rw [h.err, h.flen]
theorem q_WorksAfter (h : NtEq n m) (hm : NtIn m Bp Bf Bm dp df dm W) (hT : Tab W) (l : List Int) (A : Option Addr) (c : Nat) (hs : Sl cI 1 W A l) (hl : l.length ≤ 1000) :
    Calls Tryz.prog 38 #[vNt Bp Bf Bm n.ps.length n.fs.length n.ms.length dp df dm, .slice A l.length c] W (fun e w' => Below W.heap.size W w' ∧
      ((fltE n l ≠ 0 ∧ e = .returned (.tuple #[.slice none 0 0, .int .i64 (fltE n l)])) ∨
        (fltE n l = 0 ∧ ∃ A2 c2, e = .returned (.tuple #[.slice A2 (afterS n l).length c2, .int .i64 0]) ∧ Sl cI 1 w' A2 (afterS n l)))) := by
  have := c_WorksAfter m l Bp Bf Bm A dp df dm c W hm hs hl hT
  rw [h.flt, h.after, h.ps, h.flen, h.mlen] at this
  exact this
theorem q_CutOf (h : NtEq n m) (hm : NtIn m Bp Bf Bm dp df dm W) (hT : Tab W) (k : Int) :
    Calls Tryz.prog 37 #[vNt Bp Bf Bm n.ps.length n.fs.length n.ms.length dp df dm, .int .i64 k] W (fun e w' => Below W.heap.size W w' ∧
      ((cutErr n k ≠ 0 ∧ e = .returned (.tuple #[.slice none 0 0, .int .i64 (cutErr n k)])) ∨
        (cutErr n k = 0 ∧ ∃ f, n.fs[k.toNat]? = some f ∧ ∃ A c, e = .returned (.tuple #[.slice A (listS (cutS f n.ps.length)).length c, .int .i64 0]) ∧ Sl cI 1 w' A (listS (cutS f n.ps.length))))) := by
  have := c_CutOf m k Bp Bf Bm dp df dm W hm hT
  rw [h.cutErr, h.ps, h.flen, h.mlen] at this
  refine this.mono fun e w' ⟨hb, hh⟩ => ⟨hb, ?_⟩
  rcases hh with hh | ⟨h0, f, hf, A, c, he, ho⟩
  · exact .inl hh
  · obtain ⟨g, hg, hc⟩ := h.symm.fget hf
    rw [cutS_con hc.symm] at he ho
    exact .inr ⟨h0, g, hg, A, c, he, own_sl ho⟩
end
/-! ### Both sides mean the same. -/
structure NtOk (n : Nt) : Prop where
  p10 : n.ps.length ≤ 10
  f10 : n.fs.length ≤ 10
  m6 : n.ms.length ≤ 6
  p1 : 1 ≤ n.ps.length
  nn : ∀ f ∈ n.fs, NonNeg f
  st : ∀ f ∈ n.fs, Stops f n.ps.length
  need : NeedOk n
  ways : ∀ f ∈ n.fs, ∀ r ∈ f.ws, 0 < r.l.length ∧ ∀ x ∈ r.l, 0 ≤ x ∧ x < n.ps.length
theorem waysE_pos {parts : Int} : ∀ (ws : List Rw) (e : Int), waysE parts e ws = 0 → e = 0 ∧ ∀ r ∈ ws, 0 < r.l.length
  | [], e, h => ⟨h, by simp⟩
  | r :: ws, e, h => by
    obtain ⟨h1, h2⟩ := waysE_pos ws _ h
    obtain ⟨h3, h4⟩ := (fst_cons _ _).1 h1
    obtain ⟨h5, h6⟩ := (fst_cons _ _).1 h4
    have h7 := (unl_zero (by decide)).1 h5
    refine ⟨h3, fun r' hr => ?_⟩
    rcases List.mem_cons.1 hr with rfl | hr
    · exact of_decide_eq_true h7
    · exact h2 r' hr
theorem net_ok {n : Nt} (h : netErr n = 0) : NtOk n := by
  obtain ⟨o1, o2, o3⟩ := netErr_ok h
  obtain ⟨o4, o5⟩ := net_md h
  have hw : ∀ f ∈ n.fs, ∀ r ∈ f.ws, 0 < r.l.length := by
    unfold netErr netChk at h
    split at h
    · split at h
      · split at h
        · rename_i h2
          intro f hf r hr
          obtain ⟨k, hk⟩ := List.mem_iff_getElem?.1 hf
          have b1 := eachS_ok _ n.fs 0 h2 k f hk
          exact (waysE_pos f.ws _ b1).2 r hr
        · rename_i h2
          exact absurd h h2
      · rename_i h1
        exact absurd h h1
    · rename_i h0
      exact absurd h h0
  have hp : 1 ≤ n.ps.length := by
    by_cases h0 : n.ps.length = 0
    · have e := e0_zero h0
      unfold netErr netChk at h
      rw [if_neg (by rw [e]; decide)] at h
      exact absurd (e.symm.trans h) (by decide)
    · omega
  exact ⟨o1, o2, o4, hp, fun f hf r hr x hx => (o3 f hf r hr x hx).1, fun f hf => stops_of fun r hr => ⟨hw f hf r hr, o3 f hf r hr⟩, fun m hm x hx => o5 m hm x hx, fun f hf r hr => ⟨hw f hf r hr, o3 f hf r hr⟩⟩
theorem after_all {n : Nt} {l : List Int} (h : NtOk n) (hb : ∀ x ∈ l, 0 ≤ x) : afterS n l = allS n.fs l := list_all h.f10 h.nn hb
end Go.Proofs.YtbdgblnccjpahaaGreatDoor
namespace Go.Proofs.YtbdgblnccjpahaaGreatDoor
/-! ### Ascending indexes. -/
structure Asc (l : List Int) (ct : Int) : Prop where
  pw : l.Pairwise (· < ·)
  rng : ∀ x ∈ l, 0 ≤ x ∧ x < ct
theorem Asc.err {l : List Int} {ct : Int} (h : Asc l ct) : idxErr l ct = 0 := by
  rw [idxErr_eq, eachS_zero]
  intro j x hx
  rw [Nat.zero_add]
  have hr := h.rng x (List.mem_of_getElem? hx)
  refine (fst_cons _ _).2 ⟨(unl_zero (by decide)).2 (inR_iff.2 (by omega)), (fst_cons _ _).2 ⟨(unl_zero (by decide)).2 (decide_eq_true ?_), rfl⟩⟩
  unfold prevI
  cases j with
  | zero => simp; omega
  | succ j =>
    obtain ⟨h1, h2⟩ := List.getElem?_eq_some_iff.1 hx
    have := List.pairwise_iff_getElem.1 h.pw j (j + 1) (by omega) h1 (by omega)
    simp [List.getElem?_eq_getElem (show j < l.length by omega)]
    omega
theorem setL_pw (s : Nat) : ∀ k, (setL s k).Pairwise (· < ·)
  | 0 => List.Pairwise.nil
  | k + 1 => by
    rw [setL, List.pairwise_append]
    refine ⟨setL_pw s k, ?_, fun x hx y hy => ?_⟩
    · split <;> simp
    · obtain ⟨j, h1, h2, -⟩ := (setL_mem s k x).1 hx
      split at hy
      · have := List.mem_singleton.1 hy; omega
      · simp at hy
theorem asc_set {s p : Nat} : Asc (setL s p) p := ⟨setL_pw s p, fun x hx => by obtain ⟨j, h1, h2, -⟩ := (setL_mem s p x).1 hx; omega⟩
theorem Asc.erase {l : List Int} {ct : Int} (h : Asc l ct) (m : Nat) : Asc (l.take m ++ l.drop (m + 1)) ct := by
  have hs : (l.take m ++ l.drop (m + 1)).Sublist l := by
    have h1 : (l.drop (m + 1)).Sublist (l.drop m) := by
      rw [← List.drop_drop]
      exact List.drop_sublist 1 _
    have := (List.Sublist.refl (l.take m)).append h1
    rwa [List.take_append_drop] at this
  exact ⟨h.pw.sublist hs, fun x hx => h.rng x (hs.subset hx)⟩
/-! ### More faults. -/
theorem allK_mem (fs : List Fu) (l : List Int) : ∀ (k : Nat) (x : Int), x ∈ allK fs l k ↔ ∃ (j : Nat) (f : Fu), j < k ∧ x = j ∧ fs[j]? = some f ∧ wksB f l = true
  | 0, x => by simp [allK]
  | k + 1, x => by
    rw [allK, List.mem_append, allK_mem fs l k x]
    constructor
    · rintro (⟨j, f, h1, h2, h3⟩ | h)
      · exact ⟨j, f, by omega, h2, h3⟩
      · cases hf : fs[k]? with
        | none => rw [hf] at h; simp at h
        | some f =>
          rw [hf] at h
          simp only at h
          split at h
          · rename_i hb
            exact ⟨k, f, by omega, by simpa using h, hf, hb⟩
          · simp at h
    · rintro ⟨j, f, h1, h2, h3, h4⟩
      by_cases e : j = k
      · subst e
        right
        rw [h3]
        simp only
        rw [if_pos h4]
        simpa using h2
      · exact .inl ⟨j, f, by omega, h2, h3, h4⟩
theorem all_has {fs : List Fu} {l : List Int} {j : Nat} {f : Fu} (hf : fs[j]? = some f) : (allS fs l).contains (j : Int) = wksB f l := by
  rw [Bool.eq_iff_iff, List.contains_iff_mem, allS, allK_mem]
  constructor
  · rintro ⟨i, g, -, h2, h3, h4⟩
    obtain rfl : j = i := by omega
    rw [hf] at h3
    injection h3 with h3
    rw [h3]
    exact h4
  · exact fun h => ⟨j, f, (List.getElem?_eq_some_iff.1 hf).1, rfl, hf, h⟩
theorem cutTo_bad {f : Fu} {b : Nat} (hb : worksB f b = false) : ∀ k, worksB f (cutTo f b k) = false
  | 0 => hb
  | k + 1 => by
    rw [cutTo]
    split
    · rename_i h
      rw [Bool.and_eq_true, Bool.not_eq_true'] at h
      exact h.2
    · exact cutTo_bad hb k
theorem cut_bad {f : Fu} {p : Nat} (h : Stops f p) : worksB f (cutS f p) = false := cutTo_bad h _
theorem cut_lt2 {f : Fu} {p : Nat} : cutS f p < 2 ^ p := by
  have h1 := Nat.two_pow_pos p
  have hlt : ∀ k, k ≤ 2 ^ p → cutTo f (2 ^ p - 1) k < 2 ^ p := by
    intro k
    induction k with
    | zero => intro _; rw [cutTo]; omega
    | succ k ih =>
      intro hk
      rw [cutTo]
      split
      · omega
      · exact ih (by omega)
  exact hlt _ (Nat.le_refl _)
theorem cut_asc {f : Fu} {p : Nat} (hp : p ≤ 10) : Asc (listS (cutS f p)) p := by
  rw [← setL_list hp cut_lt2]
  exact asc_set
theorem cut_stop {f : Fu} {p : Nat} (hp : p ≤ 10) (hf : NonNeg f) (hs : Stops f p) : wksB f (listS (cutS f p)) = false := by
  rw [wks_list hf (Nat.lt_of_lt_of_le cut_lt2 (Nat.le_trans (Nat.pow_le_pow_right (by decide) hp) (by decide)))]
  exact cut_bad hs
end Go.Proofs.YtbdgblnccjpahaaGreatDoor
namespace Go.Proofs.YtbdgblnccjpahaaGreatDoor
open Go.RowKit
attribute [local go_sem] bl_al bl_drew bl_drewN bl_refl bx_al bx_drew bx_drewN bx_refl
set_option maxRecDepth 20000
end Go.Proofs.YtbdgblnccjpahaaGreatDoor
namespace Go.Proofs.YtbdgblnccjpahaaGreatDoor
open Go.RowKit Go.Shelf
attribute [local go_sem] bl_al bl_drew bl_drewN bl_refl bx_al bx_drew bx_drewN bx_refl
set_option maxRecDepth 20000
end Go.Proofs.YtbdgblnccjpahaaGreatDoor
namespace Go.Proofs.YtbdgblnccjpahaaGreatDoor
open Go.RowKit Go.Shelf
attribute [local go_sem] bl_al bl_drew bl_drewN bl_refl bx_al bx_drew bx_drewN bx_refl
set_option maxRecDepth 20000
end Go.Proofs.YtbdgblnccjpahaaGreatDoor
namespace Go.Proofs.YtbdgblnccjpahaaGreatDoor
open Go.RowKit Go.Shelf
attribute [local go_sem] bl_al bl_drew bl_drewN bl_refl bx_al bx_drew bx_drewN bx_refl
set_option maxRecDepth 20000
end Go.Proofs.YtbdgblnccjpahaaGreatDoor
namespace Go.Proofs.YtbdgblnccjpahaaGreatDoor
open Go.RowKit Go.Shelf
attribute [local go_sem] bl_al bl_drew bl_drewN bl_refl bx_al bx_drew bx_drewN bx_refl
set_option maxRecDepth 20000
end Go.Proofs.YtbdgblnccjpahaaGreatDoor
namespace Go.Proofs.YtbdgblnccjpahaaGreatDoor
open Go.RowKit Go.Shelf
attribute [local go_sem] bl_al bl_drew bl_drewN bl_refl bx_al bx_drew bx_drewN bx_refl
set_option maxRecDepth 20000
end Go.Proofs.YtbdgblnccjpahaaGreatDoor
namespace Go.Proofs.YtbdgblnccjpahaaGreatDoor
open Go.RowKit Go.Shelf
attribute [local go_sem] bl_al bl_drew bl_drewN bl_refl bx_al bx_drew bx_drewN bx_refl
set_option maxRecDepth 20000
end Go.Proofs.YtbdgblnccjpahaaGreatDoor
namespace Go.Proofs.YtbdgblnccjpahaaGreatDoor
open Go.RowKit Go.Shelf
attribute [local go_sem] bl_al bl_drew bl_drewN bl_refl bx_al bx_drew bx_drewN bx_refl
set_option maxRecDepth 20000
end Go.Proofs.YtbdgblnccjpahaaGreatDoor
namespace Go.Proofs.YtbdgblnccjpahaaGreatDoor
open Go.RowKit Go.Shelf
attribute [local go_sem] bl_al bl_drew bl_drewN bl_refl bx_al bx_drew bx_drewN bx_refl
set_option maxRecDepth 20000
end Go.Proofs.YtbdgblnccjpahaaGreatDoor
namespace Go.Proofs.YtbdgblnccjpahaaGreatDoor
open Go.RowKit Go.Shelf
attribute [local go_sem] bl_al bl_drew bl_drewN bl_refl bx_al bx_drew bx_drewN bx_refl
set_option maxRecDepth 20000
set_option maxHeartbeats 8000000 in
theorem own_grownT {A B : World} {b b2 n m size size2 : Nat} {e t : TypeId} {v u : Value} {xs ys : List Value} (h : A.ownsRow b e size v n xs) (hu : A.ownsRow b2 t size2 u m ys) (het : t ≠ e) (hg : A.grownBy B u.ownBlock) : B.ownsRow b e size v n xs := by
  have hn := noT_own hu het
  refine own_keepB h fun g o h1 h2 => ?_
  refine (hg.block g (Array.getElem?_eq_some_iff.1 h2).1 (fun e1 => ?_)).trans h2
  rcases h.2 with ⟨rfl, _⟩ | ⟨k, _, cur, rfl, _, e3, _⟩
  · simp [Value.ownBlock] at h1
  · obtain rfl : k = g := by simpa [Value.ownBlock] using h1
    exact hn k (by simp [ownL, ← e1]) _ e3
theorem RwO.grown {A B : World} {b2 m size2 : Nat} {t : TypeId} {u : Value} {ys : List Value} {r : Rw} (h : RwO r A) (hu : A.ownsRow b2 t size2 u m ys) (h1 : t ≠ 3) (hg : A.grownBy B u.ownBlock) : RwO r B := ⟨h.len, own_grownT h.own hu h1 hg⟩
theorem FuO.grown {A B : World} {b2 m size2 : Nat} {t : TypeId} {u : Value} {ys : List Value} {f : Fu} (h : FuO f A) (hu : A.ownsRow b2 t size2 u m ys) (h1 : t ≠ 3) (h2 : t ≠ 23) (hg : A.grownBy B u.ownBlock) : FuO f B := ⟨h.nm, h.len, own_grownT h.own hu h2 hg, fun r hr => (h.rows r hr).grown hu h1 hg⟩
theorem MdO.grown {A B : World} {b2 m size2 : Nat} {t : TypeId} {u : Value} {ys : List Value} {f : Md} (h : MdO f A) (hu : A.ownsRow b2 t size2 u m ys) (h1 : t ≠ 3) (hg : A.grownBy B u.ownBlock) : MdO f B := ⟨h.nm, h.row.grown hu h1 hg⟩
end Go.Proofs.YtbdgblnccjpahaaGreatDoor
namespace Go.Proofs.YtbdgblnccjpahaaGreatDoor
open Go.RowKit
attribute [local go_sem] bl_al bl_drew bl_drewN bl_refl bx_al bx_drew bx_drewN bx_refl
set_option maxRecDepth 20000
end Go.Proofs.YtbdgblnccjpahaaGreatDoor
